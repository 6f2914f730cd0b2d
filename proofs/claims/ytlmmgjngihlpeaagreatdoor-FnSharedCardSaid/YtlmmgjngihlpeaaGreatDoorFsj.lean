/- Part 10 of the proof that what is shared, pruned and joined is approximated as before, that terms are read from their texts, and that decimals begin as the approximations tell. Our own work, shortened by a program of ours. -/
import Derived.Test.YtlmmgjngihlpeaaGreatDoorFsi
namespace Go.Proofs.YtlmmgjngihlpeaaGreatDoor.Sx
open Go
set_option linter.unusedVariables false
set_option linter.unusedSimpArgs false
set_option maxRecDepth 100000
section
variable {α:Type} {m:Nat}
theorem K6(hm:300<=m){p:Nat}(h0:0<p)(hp:p<192){x:Int}(hx:x.natAbs<aj)(k:Bool->List Int->Option α):
  kZ m (zs x) (zl x) (p:Int) k=k (zs (bW x p)) (zl (bW x p)):=by
 obtain⟨n,rfl⟩:∃n,m=n+40:=⟨m-40,by omega⟩
 have e:=R6 x h0
 unfold zl
 rw[aBI n p (zs x) h0 hp hx,Om,KX (zs x),e];rfl
theorem aaH(hm:300<=m){x y:Int}(hx:x.natAbs<aj)(hy:y.natAbs<aj)(k:Bool->List Int->Int->Option α):
  fG m (zs x) (zl x) (zs y) (zl y) k=cond (kK (x*y)) (k (zs (x*y)) (zl (x*y)) 0) (k false [0,0,0,0,0,0] 3):=by
 obtain⟨n,rfl⟩:∃n,m=n+7:=⟨m-7,by omega⟩
 unfold zl
 rw[as5 n hx hy,mR (Int.natAbs_mul x y),ao8,Int.natAbs_mul]
theorem lm(z:Int):isLen z.natAbs (uh z)=true:=by
 unfold uh
 by_cases h:z=0
 .subst h;rfl
 .rw[if_neg h,dK]
  exact⟨Nat.lt_log2_self, .inr (by simpa using Nat.log2_self_le (by omega))⟩
theorem ahj(hm:300<=m){x:Int}(hx:x.natAbs<aj)(k:Int->Option α):nM m (zl x) k=k (uh x:Int):=by
 obtain⟨n,rfl⟩:∃n,m=n+7:=⟨m-7,by omega⟩
 exact ac3 n hx (lm x) k
theorem aBm(hm:300<=m){x:Int}(hx:x.natAbs<aj)(k:Int->Option α):nN m (zl x) k=k (uh x:Int):=by
 obtain⟨n,rfl⟩:∃n,m=n+40:=⟨m-40,by omega⟩
 exact ac6 n hx (lm x) k
theorem aGD(hm:300<=m){x:Int}(hx:x.natAbs<aj)(k:Bool->List Int->Option α):YT m false (zl x) k=k (zs (WE x.natAbs:Int)) (zl (WE x.natAbs:Int)):=by
 obtain⟨n,rfl⟩:∃n,m=n+40:=⟨m-40,by omega⟩
 obtain⟨b,hb⟩:=Dv x.natAbs
 have hb192:=jL hx hb
 unfold zl
 rw[aBV,ac6 n hx hb,half_start hb192]
 have:=Vv (α:=α) n hx [0,0,0,0,0,0] (λb l=>k b l) ((b+1)/2) (n+40) 0 (by omega) (by omega) (XW hb192)
 rw[show limbs 6 0=[0,0,0,0,0,0] from rfl] at this
 rw[this,OA hb,ou];rfl
theorem avA(hm:300<=m){x:Int}(hx:x.natAbs<aj)(k:List Int->Option α):VE m (zl x) k=k (zl (WE x.natAbs:Int)):=by
 obtain⟨n,rfl⟩:∃n,m=n+40:=⟨m-40,by omega⟩
 exact aB4 n (by omega) hx k
def kI(x y:Int):Int:=if x<y then-1 else if y<x then 1 else 0
theorem UG{x y:Int}(sx:zs x=false)(sy:zs y=false):kW x.natAbs y.natAbs=kI x y:=by
 have hx:¬x<0:=of_decide_eq_false sx
 have hy:¬y<0:=of_decide_eq_false sy
 unfold kW kI
 repeat' split
 all_goals first|rfl|omega
theorem UF{x y:Int}(sx:zs x=true)(sy:zs y=true):kW y.natAbs x.natAbs=kI x y:=by
 have hx:x<0:=of_decide_eq_true sx
 have hy:y<0:=of_decide_eq_true sy
 unfold kW kI
 repeat' split
 all_goals first|rfl|omega
theorem acA{x y:Int}(sx:zs x=true)(sy:zs y=false):-1=kI x y:=by
 have hx:x<0:=of_decide_eq_true sx
 have hy:¬y<0:=of_decide_eq_false sy
 unfold kI
 rw[if_pos (by omega)]
theorem acy{x y:Int}(sx:zs x=false)(sy:zs y=true):1=kI x y:=by
 have hx:¬x<0:=of_decide_eq_false sx
 have hy:y<0:=of_decide_eq_true sy
 unfold kI
 rw[if_neg (by omega),if_pos (by omega)]
theorem afs(hm:300<=m){x y:Int}(hx:x.natAbs<aj)(hy:y.natAbs<aj)(k:Int->Option α):
  fO m (zs x) (zl x) (zs y) (zl y) k=k (kI x y):=by
 obtain⟨n,rfl⟩:∃n,m=n+7:=⟨m-7,by omega⟩
 unfold zl
 rw[awS]
 cases sx:zs x<;>cases sy:zs y<;>simp only[cond_true,cond_false,Bool.not_true,Bool.not_false]
 .rw[JJ n hx hy,UG sx sy]
 .rw[acy sx sy]
 .rw[acA sx sy]
 .rw[JJ n hy hx,UF sx sy]
theorem acB(hm:300<=m){x y:Int}(hx:x.natAbs<aj)(hy:y.natAbs<aj)(k:Int->Option α):
  Y4 m (zs x) (zl x) (zs y) (zl y) k=k (kI x y):=by
 obtain⟨n,rfl⟩:∃n,m=n+7:=⟨m-7,by omega⟩
 unfold zl
 rw[axB]
 cases sx:zs x<;>cases sy:zs y<;>simp only[cond_true,cond_false,Bool.not_true,Bool.not_false,beq_self_eq_true,show(false==true)=false from rfl,show(true==false)=false from rfl]
 .rw[Az n hx hy,UG sx sy]
 .rw[acy sx sy]
 .rw[acA sx sy]
 .rw[Az n hy hx,UF sx sy]
theorem upS(hm:300<=m){p:Nat}{x:Int}(hx:x.natAbs<aj)(k:Bool->List Int->Int->Option α):
  Jp m (zs x) (zl x) (p:Int) k=if p<=191 then cond (kK (x*2^p)) (k (zs (x*2^p)) (zl (x*2^p)) 0) (k false [0,0,0,0,0,0] 3) else k false [0,0,0,0,0,0] 3:=by
 obtain⟨n,rfl⟩:∃n,m=n+40:=⟨m-40,by omega⟩
 rw[aw2]
 by_cases h:p<=191
 .rw[if_pos h,dF (by omega),cond_false,ai6 p (by omega) hx]
 .rw[if_neg h,dT (by omega),cond_true]
theorem aGo(hm:300<=m){p:Nat}(h0:0<p){x:Int}(hx:x.natAbs<aj)(k:Bool->List Int->Int->Option α):
  Zz m (zs x) (zl x) (p:Int) k=if p<=191 then k (zs (bW x p)) (zl (bW x p)) 0 else k false [0,0,0,0,0,0] 3:=by
 rw[ayq]
 by_cases h:p<=191
 .rw[if_pos h,dF (by omega),cond_false,K6 hm h0 (by omega) hx]
 .rw[if_neg h,dT (by omega),cond_true]
theorem upI(hm:300<=m){p:Nat}{x:Int}(o:Bool)(hx:x.natAbs<aj)(k:Bool->List Int->Bool->Option α):
  afK m (zs x) (zl x) (p:Int) o k=if p<=191 then cond (kK (x*2^p)) (k (zs (x*2^p)) (zl (x*2^p)) o) (k false [0,0,0,0,0,0] true) else k false [0,0,0,0,0,0] true:=by
 by_cases h:p<=191
 .obtain⟨n,rfl⟩:∃n,m=n+40:=⟨m-40,by omega⟩
  rw[if_pos h,aBY p o (by omega) hx]
 .rw[ajK,if_neg h,dT (by omega),cond_true]
theorem E5(hm:300<=m){p:Nat}{x:Int}(o:Bool)(hx:x.natAbs<aj)(k:Bool->List Int->Bool->Option α):
  g63 m (zs x) (zl x) (p:Int) o k=if p<=191 then k (zs (bW x p)) (zl (bW x p)) o else k false [0,0,0,0,0,0] true:=by
 by_cases h:p<=191
 .obtain⟨n,rfl⟩:∃n,m=n+7:=⟨m-7,by omega⟩
  rw[if_pos h,aHy p (by omega) hx]
 .rw[auG,if_neg h,dT (by omega),cond_true]
theorem ahd(hm:300<=m){x y:Int}(hx:x.natAbs<aj)(hy:y.natAbs<aj)(o:Bool)(k:Bool->List Int->Bool->Option α):
  QF m (zs x) (zl x) (zs y) (zl y) o k=k (zs (zt (x+y))) (zl (zt (x+y))) (o|| !(kK (x+y))):=by
 obtain⟨n,rfl⟩:∃n,m=n+7:=⟨m-7,by omega⟩
 exact ajR hx hy o k
theorem aAD(hm:300<=m){x y:Int}(hx:x.natAbs<aj)(hy:y.natAbs<aj)(o:Bool)(k:Bool->List Int->Bool->Option α):
  apO m (zs x) (zl x) (zs y) (zl y) o k=k (zs (zt (x-y))) (zl (zt (x-y))) (o|| !(kK (x-y))):=by
 obtain⟨n,rfl⟩:∃n,m=n+7:=⟨m-7,by omega⟩
 exact aBZ hx hy o k
theorem an5(hm:300<=m){x y:Int}(hx:x.natAbs<aj)(hy:y.natAbs<aj)(o:Bool)(k:Bool->List Int->Bool->Option α):
  g61 m (zs x) (zl x) (zs y) (zl y) o k=cond (kK (x*y)) (k (zs (x*y)) (zl (x*y)) o) (k false [0,0,0,0,0,0] true):=by
 obtain⟨n,rfl⟩:∃n,m=n+7:=⟨m-7,by omega⟩
 exact aHv hx hy o k
theorem Us(hm:300<=m){x y:Int}(hx:x.natAbs<aj)(hy:y.natAbs<aj)(k:Bool->List Int->Int->Option α):
  dZ m (zs x) (zl x) (zs y) (zl y) k=cond (kK (x+y)) (k (zs (x+y)) (zl (x+y)) 0) (k false [0,0,0,0,0,0] 3):=by
 obtain⟨n,rfl⟩:∃n,m=n+7:=⟨m-7,by omega⟩
 exact as7 hx hy k
theorem ahs(hm:300<=m){x:Int}(hx:x.natAbs<aj)(k:Int->Option α):eU m (zl x) [5,0,0,0,0,0] k=k (kW x.natAbs 5):=by
 obtain⟨n,rfl⟩:∃n,m=n+7:=⟨m-7,by omega⟩
 exact Az n (b:=5) hx (by decide) k
end
section
variable {α:Type} (m:Nat) (q:Bool) (u:List Int) (r:Bool) (w:List Int) (p:Int) (o:Bool) (d:Int) (f:aH) (g:iM) (h:aH) (k:Bool->List Int->Bool->Option α)
theorem add1:dn m q u r w o d f g h k=QF m q u r w o k:=by rw[ajV,ajS]
theorem aAC:nR m q u r w o d f g h k=apO m q u r w o k:=by rw[ajZ,ajW];simp only[add1]
theorem an4:jc m q u r w o d f g h k=g61 m q u r w o k:=by rw[aqZ,auE]
theorem up1:nP m q u p o d f g h k=afK m q u p o k:=by rw[ajO,ajK]
theorem EY:iq m q u p o d f g h k=g63 m q u p o k:=by rw[aq4,auG]
theorem ahB:nO m q u r w o d f g h k=apN m q u r w o k:=by rw[ajJ,axp];simp only[add1]
end
theorem ao4:aj=6277101735386680763835789423207666416102355444464034512896:=by decide
theorem ao_:([1,0,0,0,0,0]:List Int)=limbs 6 1:=rfl
theorem rz{i:Nat}(h:i<4294967296):IntKind.wrap .u32 (i:Int)=(i:Int):=by rw[dM,Nat.mod_eq_of_lt h]
theorem aAn{n:Nat}(hn:n<=160):2^(n+16)<=2^176:=Nat.pow_le_pow_right (by decide) (by omega)
def zf:Nat:=1532495540865888858358347027150309183618739122183602176
theorem xI:zf<aj:=by decide
theorem aHa:2^176*16=zf:=by decide
theorem apz{p i b:Nat}(hi:2<=i)(hp:p<2^(b+1)):p/i<2^b:=by
 have h1:p/i<=p/2:=Nat.div_le_div_left hi (by omega)
 rw[Nat.pow_succ] at hp
 omega
theorem qO(G i:Nat):qN G i 0=0:=by cases G<;>simp[qN]
theorem qL(d G i:Nat):rM d G i 0=0:=by cases G<;>simp[rM]
theorem wH(G i:Nat){p:Nat}(h:p≠0):qN (G+1) i p=p+qN G (i+1) (p/i):=by simp[qN,h]
def sgI(i:Nat)(t:Nat):Int:=cond (decide (i%2=1)) (-(t:Int)) t
theorem CB(d G i:Nat){p:Nat}(h:p≠0):rM d (G+1) i p=sgI i (p/(2*i+1))+rM d G (i+1) (p/(d*d)):=by
 simp only[rM,if_neg h];unfold sgI
 by_cases h2:i%2=1
 .rw[if_pos h2,decide_eq_true h2,cond_true]
 .rw[if_neg h2,decide_eq_false h2,cond_false]
theorem Sl(i t:Nat):(sgI i t).natAbs=t:=by
 unfold sgI;cases decide (i%2=1)<;>simp
theorem dd4{d p:Nat}(hd:2<=d):p/(d*d)<=p/4:=Nat.div_le_div_left (Nat.mul_le_mul hd hd) (by omega)
theorem M_{d:Nat}(hd:2<=d):∀(G i p:Nat),(rM d G i p).natAbs<=2*p
 |0,i,p=>by simp[rM]
 |G+1,i,p=>by
  by_cases h:p=0
  .subst h;rw[qL];decide
  .rw[CB d G i h]
   have h1:=M_ hd G (i+1) (p/(d*d))
   have h2:=Sl i (p/(2*i+1))
   have h3:p/(2*i+1)<=p:=Nat.div_le_self _ _
   have h4:=dd4 (p:=p) hd
   omega
theorem acM:∀(G i p:Nat),2<=i->qN G i p<=2*p
 |0,i,p,_=>by simp[qN]
 |G+1,i,p,hi=>by
  by_cases h:p=0
  .subst h;rw[qO];decide
  .rw[wH G i h]
   have h1:=acM G (i+1) (p/i) (by omega)
   have h2:p/i<=p/2:=Nat.div_le_div_left hi (by omega)
   omega
theorem vg{p:Nat}(hp:p<aj):(!(dI (limbs 6 p) [0,0,0,0,0,0]))= !(decide (p=0)):=by rw[jI hp]
section
variable {α:Type} {m:Nat} (d:Int) (f:aH) (g:iM) (h:aH)
theorem Mi(q:Bool){t:Nat}(ht:t<aj)(k:Bool->Option α):iI m q (limbs 6 t) k=k (zs (cond q (-(t:Int)) t)):=MF m q ht k
theorem uF(hm:300<=m){t i:Nat}(ht:t<aj)(h0:0<i)(h1:i<4294967296)(k:List Int->Int->Option α):iA m (limbs 6 t) (i:Int) k=k (limbs 6 (t/i)) ((t%i:Nat):Int):=by
 obtain⟨n,rfl⟩:∃n,m=n+7:=⟨m-7,by omega⟩
 exact aif n ht h0 h1 k
theorem aHe(hm:300<=m)(o cz:Bool)(z:List Int)(k:Bool->Bool->List Int->Option α):∀(w i p S F G:Nat),p<2^w->2<=i->i+w<=1000->w<F->w<G->S+2*p<=zf->
  Dc (iI m) (dn m) (iA m) d f g h cz z k F (i:Int) o (limbs 6 p) (zs (S:Int)) (zl (S:Int))=
  k o (zs ((S+qN G i p:Nat):Int)) (zl ((S+qN G i p:Nat):Int)):=by
 intro w
 induction w with
 |zero=>
  intro i p S F G hp h2 h3 h4 h5 h6
  obtain⟨F,rfl⟩:∃n,F=n+1:=⟨F-1,by omega⟩
  have:p=0:=by simpa using hp
  subst this
  rw[Jz,vg (by decide),qO];rfl
 |succ w ih=>
  intro i p S F G hp h2 h3 h4 h5 h6
  obtain⟨F,rfl⟩:∃n,F=n+1:=⟨F-1,by omega⟩
  obtain⟨G,rfl⟩:∃n,G=n+1:=⟨G-1,by omega⟩
  have hW:=xI
  rw[Jz,vg (by omega)]
  by_cases hz:p=0
  .subst hz;rw[qO];rfl
  .rw[decide_eq_false hz,Bool.not_false,cond_true,Mi false (by omega),cond_false,<-vB p,add1,ahd hm (by omega) (by omega),vB p,
    uF hm (by omega) (by omega) (by omega),<-Int.natCast_add,Co (by omega),bf.2 (by omega),wH G i hz]
   have hd:=apz h2 hp
   have hq:p/i<=p/2:=Nat.div_le_div_left h2 (by omega)
   rw[show((i:Int)+1)=((i+1:Nat):Int) by omega,rz (by omega),Bool.not_true,Bool.or_false,ih (i+1) (p/i) (S+p) F G hd (by omega) (by omega) (by omega) (by omega) (by omega),Nat.add_assoc]
theorem upN(hm:300<=m){t p:Nat}(ht:t<aj)(hp:p<192)(k:List Int->Option α):pK m (limbs 6 t) (p:Int) k=k (limbs 6 (t*2^p)):=by
 obtain⟨n,rfl⟩:∃n,m=n+7:=⟨m-7,by omega⟩
 exact aan n p hp ht k
theorem abe{n:Nat}(h:n<=1000):IntKind.wrap .i64 ((n:Int)+16)=((n+16:Nat):Int):=by rw[bP (by omega) (by omega)];rfl
theorem acN{n:Nat}(hn:n<=160):((qN 200 1 (2^(n+16)):Nat))=2^(n+16)+qN 199 2 (2^(n+16))/\2^(n+16)+2*2^(n+16)<=zf/\2^(n+16)<2^177/\0<2^(n+16)/\qN 200 1 (2^(n+16))<=zf:=by
 have h1:=aAn hn
 have h2:0<2^(n+16):=Nat.pow_pos (by decide)
 have h3:2^176*3<=zf:=by decide
 have h4:(2:Nat)^176<2^177:=by decide
 have h5:qN 200 1 (2^(n+16))=2^(n+16)+qN 199 2 (2^(n+16)):=by rw[wH 199 1 (by omega),Nat.div_one]
 have h6:=acM 199 2 (2^(n+16)) (by decide)
 omega
theorem av9(hm:300<=m){n:Nat}(hn:n<=160)(o:Bool)(k:Bool->List Int->Bool->Option α):
  Zd m (n:Int) o d f g h k=k (zs (yx n)) (zl (yx n)) o:=by
 obtain⟨e1,e2,e3,e4,e5⟩:=acN hn
 obtain⟨M,rfl⟩:∃M,m=M+1:=⟨m-1,by omega⟩
 have hW:=xI
 rw[axS,avo,abe (by omega),ao_,upN hm (by decide) (by omega),Nat.one_mul]
 generalize hw:2^(n+16)=w at*
 conv=>lhs;rw[show(1:Int)=((1:Nat):Int) from rfl]
 rw[Jz,vg (by omega),decide_eq_false (show¬w=0 by omega),Bool.not_false,cond_true,Mi false (by omega),cond_false,
  show([0,0,0,0,0,0]:List Int)=zl 0 from rfl,show false=zs 0 from rfl,<-vB w,add1,ahd hm (by decide) (by omega),vB w,uF hm (by omega) (by omega) (by omega),Int.zero_add,Co (by omega),bf.2 (by omega),Nat.div_one,
  show(((1:Nat):Int)+1)=((2:Nat):Int) from rfl,rz (by omega),Bool.not_true,Bool.or_false,
  aHe d f g h hm o _ _ _ 177 2 w w M 199 e3 (by omega) (by omega) (by omega) (by omega) (by omega)]
 rw[<-e1,EY,show yx n=bW (qN 200 1 w:Int) 16 by unfold yx;rw[hw]]
 exact(E5 hm (p:=16) o (by omega) k).trans (if_pos (by omega))
theorem asJ{i:Nat}(hi:i<=2000):IntKind.wrap .u32 ((IntKind.wrap .u32 ((2:Int)*(i:Int)))+(1:Int))=((2*i+1:Nat):Int):=by
 rw[show(2:Int)*(i:Int)=((2*i:Nat):Int) by omega,rz (by omega),show(((2*i:Nat):Int)+1)=((2*i+1:Nat):Int) by omega,rz (by omega)]
theorem aAL{v:Nat}(hv:v<=1000):IntKind.wrap .u32 ((v:Int)*(v:Int))=((v*v:Nat):Int):=by
 have:v*v<=1000*1000:=Nat.mul_le_mul hv hv
 rw[<-Int.natCast_mul,rz (by omega)]
theorem aGr(i:Nat):((Int.tmod (i:Int) (2:Int))==(1:Int))=decide (i%2=1):=by
 rw[show Int.tmod (i:Int) 2=((i%2:Nat):Int) from rfl]
 rcases Nat.mod_two_eq_zero_or_one i with h|h<;>rw[h]<;>rfl
theorem aG_(hm:300<=m)(o cz:Bool)(z:List Int){v:Nat}(hv:2<=v)(hv2:v<=1000)(k:Bool->Bool->List Int->Option α):∀(w i p F G:Nat) (S:Int),p<2^w->i+w<=1000->w<F->w<G->S.natAbs+2*p<=zf->
  Dk (iA m) (iI m) (dn m) (v:Int) d f g h cz z k F (i:Int) o (limbs 6 p) (zs S) (zl S)=
  k o (zs (S+rM v G i p)) (zl (S+rM v G i p)):=by
 intro w
 induction w with
 |zero=>
  intro i p F G S hp h3 h4 h5 h6
  obtain⟨F,rfl⟩:∃n,F=n+1:=⟨F-1,by omega⟩
  have:p=0:=by simpa using hp
  subst this
  rw[V6,vg (by decide),qL,Int.add_zero];rfl
 |succ w ih=>
  intro i p F G S hp h3 h4 h5 h6
  obtain⟨F,rfl⟩:∃n,F=n+1:=⟨F-1,by omega⟩
  obtain⟨G,rfl⟩:∃n,G=n+1:=⟨G-1,by omega⟩
  have hW:=xI
  rw[V6,vg (by omega)]
  by_cases hz:p=0
  .subst hz;rw[qL,Int.add_zero];rfl
  .have hvv:4<=v*v:=Nat.mul_le_mul hv hv
   have hvv2:v*v<=1000*1000:=Nat.mul_le_mul hv2 hv2
   have h7:p/(2*i+1)<=p:=Nat.div_le_self _ _
   have h8:=dd4 (p:=p) hv
   have h9:=apz (p:=p) (i:=v*v) (by omega) hp
   have ha:=Sl i (p/(2*i+1))
   rw[decide_eq_false hz,Bool.not_false,cond_true,asJ (by omega),uF hm (by omega) (by omega) (by omega)]
   rw[aGr,Mi _ (by omega),KX (decide (i%2=1)),show cond (decide (i%2=1)) (-((p/(2*i+1):Nat):Int)) ((p/(2*i+1):Nat):Int)=sgI i (p/(2*i+1)) from rfl,add1,ahd hm (by omega) (by omega),Co (by omega),bf.2 (by omega),aAL hv2,
    uF hm (by omega) (by omega) (by omega),show((i:Int)+1)=((i+1:Nat):Int) by omega,rz (by omega),Bool.not_true,Bool.or_false,
    ih (i+1) (p/(v*v)) F G _ h9 (by omega) (by omega) (by omega) (by omega),CB v G i hz,Int.add_assoc]
theorem oD{n v:Nat}(hn:n<=160)(hv:2<=v):2^(n+16)/v<2^176/\2*(2^(n+16)/v)<=2^176/\2^176*16<=zf/\(xu v n).natAbs<=2^176/\2^(n+16)<aj/\0<2^(n+16):=by
 have h1:=aAn hn
 have h2:2^(n+16)/v<=2^(n+16)/2:=Nat.div_le_div_left hv (by decide)
 have h3:=M_ hv 200 0 (2^(n+16)/v)
 have h4:(2:Nat)^176<aj:=by decide
 have h5:0<2^(n+16):=Nat.pow_pos (by decide)
 refine⟨by omega,by omega,by decide, ?_,by omega,h5⟩
 unfold xu
 omega
theorem asR(hm:300<=m){n v:Nat}(hn:n<=160)(hv:2<=v)(hv2:v<=1000)(o:Bool)(k:Bool->List Int->Bool->Option α):
  ZI m (v:Int) (n:Int) o d f g h k=k (zs (xu v n)) (zl (xu v n)) o:=by
 obtain⟨e1,e2,e3,e4,e5,e6⟩:=oD hn hv
 have hW:=xI
 rw[ayF,avo,abe (by omega),ao_,upN hm (by decide) (by omega),Nat.one_mul,uF hm e5 (by omega) (by omega)]
 have:=aG_ (α:=α) d f g h hm o false [0,0,0,0,0,0] hv hv2 (λx y z=>k y z x) 176 0 (2^(n+16)/v) m 200 0 e1 (by omega) (by omega) (by omega) (by rw[show(0:Int).natAbs=0 from rfl];omega)
 rw[Int.zero_add] at this
 exact this
theorem aoq{n:Nat}(hn:n<=160):(16*xu 5 n).natAbs<=zf/\(4*xu 239 n).natAbs<=zf/\(16*xu 5 n-4*xu 239 n).natAbs<aj:=by
 obtain⟨_,_,_,h1,_⟩:=oD (v:=5) hn (by decide)
 obtain⟨_,_,_,h2,_⟩:=oD (v:=239) hn (by decide)
 have h3:=aHa
 have h4:zf+zf<aj:=by decide
 generalize xu 5 n=x at*
 generalize xu 239 n=y at*
 generalize (2:Nat)^176=w at*
 omega
theorem piI(hm:300<=m){n:Nat}(hn:n<=160)(o:Bool)(k:Bool->List Int->Bool->Option α):
  Zb m (n:Int) o d f g h k=k (zs (piZ n)) (zl (piZ n)) o:=by
 obtain⟨h1,h2,h3⟩:=aoq hn
 obtain⟨_,_,_,h4,_⟩:=oD (v:=5) hn (by decide)
 obtain⟨_,_,_,h5,_⟩:=oD (v:=239) hn (by decide)
 have hW:=xI
 have h176:2^176<aj:=by decide
 rw[axP,Wi _ (by omega) (by omega),show(5:Int)=((5:Nat):Int) from rfl,asR d f g h hm hn (by omega) (by omega),an4,an5 hm (by decide) (by omega),bf.2 (by omega),cond_true,
  Wi _ (by omega) (by omega),show(239:Int)=((239:Nat):Int) from rfl,asR d f g h hm hn (by omega) (by omega),an4,an5 hm (by decide) (by omega),bf.2 (by omega),cond_true,aAC,aAD hm (by omega) (by omega),Co h3,bf.2 h3,Bool.not_true,Bool.or_false,EY]
 exact(E5 hm (p:=16) o h3 k).trans (if_pos (by omega))
end
section
variable {α:Type} {m:Nat}
theorem nb{a:Nat}(h:a<aj):((a:Nat):Int).natAbs<aj:=by rw[Int.natAbs_natCast];exact h
theorem ofS{x:Int}(h1:-9223372036854775808<=x)(h2:x<=9223372036854775807)(k:Bool->List Int->Option α):bM m x k=k (zs x) (zl x):=Vh m h1 h2 k
theorem divN(hm:300<=m){x y:Nat}(hx:x<aj)(hy:y<aj)(h0:0<y)(k:Bool->List Int->Bool->List Int->Option α):
  jX m (zs (x:Int)) (zl (x:Int)) (zs (y:Int)) (zl (y:Int)) k=k (zs ((x/y:Nat):Int)) (zl ((x/y:Nat):Int)) (zs (Int.fmod x y)) (zl (Int.fmod x y)):=by
 rw[adn m (by omega) (by rw[Int.natAbs_natCast];exact hx) (by rw[Int.natAbs_natCast];exact hy) (by omega),gP]
theorem aHf(hm:300<=m)(cz:Bool)(z:List Int)(k:Bool->List Int->Option α):∀(w i p S F G:Nat),p<2^w->2<=i->i+w<=1000->w<F->w<G->S+2*p<=zf->
  Da (Dh m) (bM m) (jX m) (dZ m) cz z k F (i:Int) (zs (p:Int)) (zl (p:Int)) (zs ((S+p:Nat):Int)) (zl ((S+p:Nat):Int))=
  k (zs ((S+qN G i p:Nat):Int)) (zl ((S+qN G i p:Nat):Int)):=by
 intro w
 induction w with
 |zero=>
  intro i p S F G hp h2 h3 h4 h5 h6
  obtain⟨F,rfl⟩:∃n,F=n+1:=⟨F-1,by omega⟩
  have:p=0:=by simpa using hp
  subst this
  rw[Js,alj m (by decide),qO];rfl
 |succ w ih=>
  intro i p S F G hp h2 h3 h4 h5 h6
  obtain⟨F,rfl⟩:∃n,F=n+1:=⟨F-1,by omega⟩
  obtain⟨G,rfl⟩:∃n,G=n+1:=⟨G-1,by omega⟩
  have hW:=xI
  rw[Js,alj m (by omega)]
  by_cases hz:p=0
  .subst hz;rw[qO];rfl
  .have hs:(Int.sign (p:Int) !=0)=true:=by rw[Int.sign_eq_one_of_pos (by omega)];rfl
   have hd:=apz h2 hp
   have hq:p/i<=p/2:=Nat.div_le_div_left h2 (by omega)
   have hi:(i:Nat)<aj:=by have:=ao4;omega
   rw[hs,cond_true,ofS (by omega) (by omega)]
   rw[divN hm (by omega) hi (by omega),Us hm (nb (by omega)) (nb (by omega)),<-Int.natCast_add,bf.2 (nb (by omega)),cond_true,iK (by omega),ih (i+1) (p/i) (S+p) F G hd (by omega) (by omega) (by omega) (by omega) (by omega),wH G i hz,Nat.add_assoc]
theorem aGv(p:Nat):(1:Int)*2^p=((2^p:Nat):Int):=by rw[Int.one_mul];norm_cast
theorem aGR(hm:300<=m){n:Nat}(hn:n<=160)(k:Bool->List Int->Int->Option α):iQ m (zs 1) (zl 1) (IntKind.wrap .i64 ((n:Int)+16)) k=k (zs ((2^(n+16):Nat):Int)) (zl ((2^(n+16):Nat):Int)) 0:=by
 obtain⟨M,rfl⟩:∃M,m=M+40:=⟨m-40,by omega⟩
 have:=aAn hn
 have h4:(2:Nat)^176<aj:=by decide
 rw[abe (by omega),ai6 (n+16) (by omega) (by decide),aGv,bf.2 (by rw[Int.natAbs_natCast];omega),cond_true]
theorem av_(hm:300<=m){n:Nat}(hn:n<=160)(k:Bool->List Int->Option α):
  Vs m (n:Int) k=k (zs (yx n)) (zl (yx n)):=by
 obtain⟨e1,e2,e3,e4,e5⟩:=acN hn
 obtain⟨M,rfl⟩:∃M,m=M+1:=⟨m-1,by omega⟩
 have hW:=xI
 rw[axa,ofS (by omega) (by omega),aGR hm hn]
 generalize hw:2^(n+16)=w at*
 have hs:(Int.sign (w:Int) !=0)=true:=by rw[Int.sign_eq_one_of_pos (by omega)];rfl
 rw[Js,alj _ (by omega),hs,cond_true,ofS (by omega) (by omega),show(1:Int)=((1:Nat):Int) from rfl]
 rw[divN hm (by omega) (by decide) (by omega),Nat.div_one,Us hm (by omega) (by omega),<-Int.natCast_add,bf.2 (by omega),cond_true,show IntKind.wrap .i64 (((1:Nat):Int)+((1:Nat):Int))=((2:Nat):Int) from rfl,
  aHf hm _ _ _ 177 2 w w M 199 e3 (by omega) (by omega) (by omega) (by omega) (by omega),<-e1,show yx n=bW (qN 200 1 w:Int) 16 by unfold yx;rw[hw]]
 exact K6 hm (p:=16) (by omega) (by omega) (by omega) k
theorem agN{i:Nat}(hi:i<=2000):IntKind.wrap .i64 ((IntKind.wrap .i64 ((2:Int)*(i:Int)))+(1:Int))=((2*i+1:Nat):Int):=by
 have e:IntKind.wrap .i64 ((2:Int)*(i:Int))=2*(i:Int):=bP (by omega) (by omega)
 rw[e,bP (by omega) (by omega)];omega
theorem ao5{v:Nat}(hv:v<=1000):IntKind.wrap .i64 ((v:Int)*(v:Int))=((v*v:Nat):Int):=by
 have:v*v<=1000*1000:=Nat.mul_le_mul hv hv
 rw[<-Int.natCast_mul,bP (by omega) (by omega)]
theorem acz{x y:Nat}:decide (kI (x:Int) (y:Int)<=0)=decide (x<=y):=by
 unfold kI
 by_cases h1:(x:Int)<y
 .rw[if_pos h1,decide_eq_true (by decide),decide_eq_true (by omega)]
 .rw[if_neg h1]
  by_cases h2:(y:Int)<x
  .rw[if_pos h2,decide_eq_false (by decide),decide_eq_false (by omega)]
  .rw[if_neg h2,decide_eq_true (by decide),decide_eq_true (by omega)]
theorem aGs(hm:300<=m){W v:Nat}(hW0:W<aj)(cz:Bool)(z:List Int)(hv:2<=v)(hv2:v<=1000)(k:Bool->List Int->Option α):∀(w i D F G:Nat) (S:Int),0<D->D<aj->W/D<2^w->i+w<=1000->w<F->w<G->S.natAbs+2*(W/D)<=zf->
  uR (fO m) (jX m) (bM m) (uf m) (dZ m) (fG m) (v:Int) (zs (W:Int)) (zl (W:Int)) cz z k F (i:Int) (zs S) (zl S) (zs (D:Int)) (zl (D:Int))=
  k (zs (S+rM v G i (W/D))) (zl (S+rM v G i (W/D))):=by
 intro w
 have hbW:=xI
 have stop:∀(i D F G:Nat) (S:Int),0<D->D<aj->W/D=0->uR (fO m) (jX m) (bM m) (uf m) (dZ m) (fG m) (v:Int) (zs (W:Int)) (zl (W:Int)) cz z k (F+1) (i:Int) (zs S) (zl S) (zs (D:Int)) (zl (D:Int))=
   k (zs (S+rM v G i (W/D))) (zl (S+rM v G i (W/D))):=λi D F G S h0 hD hz=>by
  have hlt:W<D:=by
   rcases Nat.div_eq_zero_iff.1 hz with h|h
   .omega
   .exact h
  rw[VU,afs hm (by omega) (by omega),acz,dF (by omega),cond_false,hz,qL,Int.add_zero]
 induction w with
 |zero=>
  intro i D F G S h0 hD hp h3 h4 h5 h6
  obtain⟨F,rfl⟩:∃n,F=n+1:=⟨F-1,by omega⟩
  exact stop i D F G S h0 hD (by simpa using hp)
 |succ w ih=>
  intro i D F G S h0 hD hp h3 h4 h5 h6
  obtain⟨F,rfl⟩:∃n,F=n+1:=⟨F-1,by omega⟩
  by_cases hz:W/D=0
  .exact stop i D F G S h0 hD hz
  obtain⟨G,rfl⟩:∃n,G=n+1:=⟨G-1,by omega⟩
  have hle:D<=W:=by
   rcases Nat.lt_or_ge W D with h|h
   .exact absurd (Nat.div_eq_of_lt h) hz
   .exact h
  have hvv:4<=v*v:=Nat.mul_le_mul hv hv
  have hvv2:v*v<=1000*1000:=Nat.mul_le_mul hv2 hv2
  have h7:W/D/(2*i+1)<=W/D:=Nat.div_le_self _ _
  have h8:=dd4 (p:=W/D) hv
  have h9:=apz (p:=W/D) (i:=v*v) (by omega) hp
  have ha:=Sl i (W/D/(2*i+1))
  have hWD:W/D<=W:=Nat.div_le_self _ _
  have h10:W/D/(v*v)=W/(D*(v*v)):=Nat.div_div_eq_div_mul _ _ _
  have h192:=ao4
  have hfin:S+rM v (G+1) i (W/D)=S+sgI i (W/D/(2*i+1))+rM v G (i+1) (W/(D*(v*v))):=by rw[CB v G i hz,h10,Int.add_assoc]
  have htail:∀b l,b=zs (S+sgI i (W/D/(2*i+1)))->l=zl (S+sgI i (W/D/(2*i+1)))->
    bM m (IntKind.wrap .i64 ((v:Int)*(v:Int))) (λb2012 l2013=>(fG m) (zs (D:Int)) (zl (D:Int)) b2012 l2013 (λb2088 l2089 x2090=>
    cond (x2090 !=(0:Int)) (k b l) ((uR (fO m) (jX m) (bM m) (uf m) (dZ m) (fG m) (v:Int) (zs (W:Int)) (zl (W:Int)) cz z k F) (IntKind.wrap .i64 ((i:Int)+(1:Int))) b l b2088 l2089)))=
    k (zs (S+rM v (G+1) i (W/D))) (zl (S+rM v (G+1) i (W/D))):=by
   rintro b l rfl rfl
   rw[hfin,ao5 hv2,ofS (by omega) (by omega),aaH hm (by omega) (by omega),<-Int.natCast_mul]
   by_cases hf:D*(v*v)<aj
   .rw[bf.2 (by rw[Int.natAbs_natCast];exact hf),cond_true]
    rw[show((0:Int) !=0)=false from rfl,cond_false,iK (by omega)]
    exact ih (i+1) (D*(v*v)) F G _ (Nat.mul_pos h0 (by omega)) hf (by rw[<-h10];exact h9) (by omega) (by omega) (by omega) (by rw[<-h10];omega)
   .have:kK ((D*(v*v):Nat):Int)=false:=by
     rw[mR (Int.natAbs_natCast _)];exact decide_eq_false hf
    rw[this,cond_false,show((3:Int) !=0)=true from rfl,cond_true,Nat.div_eq_of_lt (show W<D*(v*v) by omega),qL,Int.add_zero]
  rw[VU,afs hm (by omega) (by omega),acz,dT hle,cond_true]
  rw[adn m (by omega) (by omega) (by omega) (by omega),gP,agN (by omega),ofS (by omega) (by omega),adn m (by omega) (by omega) (by omega) (by omega),gP,aGr]
  by_cases ho:i%2=1
  .rw[dT ho,cond_true,ac8 m (by omega),<-Ee ((W/D/(2*i+1):Nat):Int),Us hm (by omega) (by omega)]
   have e:sgI i (W/D/(2*i+1))=-((W/D/(2*i+1):Nat):Int):=by unfold sgI;rw[dT ho,cond_true]
   rw[<-e,bf.2 (by omega),cond_true]
   exact htail _ _ rfl rfl
  .rw[dF ho,cond_false,Us hm (by omega) (by omega)]
   have e:sgI i (W/D/(2*i+1))=((W/D/(2*i+1):Nat):Int):=by unfold sgI;rw[dF ho,cond_false]
   rw[<-e,bf.2 (by omega),cond_true]
   exact htail _ _ rfl rfl
theorem aoo(hm:300<=m){n v:Nat}(hn:n<=160)(hv:2<=v)(hv2:v<=1000)(k:Bool->List Int->Option α):
  Zu m (zs ((2^(n+16):Nat):Int)) (zl ((2^(n+16):Nat):Int)) (v:Int) k=k (zs (xu v n)) (zl (xu v n)):=by
 obtain⟨e1,e2,e3,e4,e5,e6⟩:=oD hn hv
 have hW:=xI
 have h192:=ao4
 rw[ayj,ofS (by omega) (by omega)]
 have:=aGs (α:=α) hm e5 false [0,0,0,0,0,0] hv hv2 (λy z=>k y z) 176 0 v m 200 0 (by omega) (by omega) e1 (by omega) (by omega) (by omega) (by rw[show(0:Int).natAbs=0 from rfl];omega)
 rw[Int.zero_add] at this
 exact this
theorem piS(hm:300<=m){n:Nat}(hn:n<=160)(k:Bool->List Int->Option α):
  Vr m (n:Int) k=k (zs (piZ n)) (zl (piZ n)):=by
 obtain⟨h1,h2,h3⟩:=aoq hn
 obtain⟨_,_,_,h4,_⟩:=oD (v:=5) hn (by decide)
 obtain⟨_,_,_,h5,_⟩:=oD (v:=239) hn (by decide)
 have hW:=xI
 have h176:2^176<aj:=by decide
 have e:-4*xu 239 n=-(4*xu 239 n):=by rw[Int.neg_mul]
 rw[aw8,ofS (by omega) (by omega),aGR hm hn,ofS (by omega) (by omega),show(5:Int)=((5:Nat):Int) from rfl,aoo hm hn (by omega) (by omega),aaH hm (by decide) (by omega),bf.2 (by omega),cond_true,
  ofS (by omega) (by omega),show(239:Int)=((239:Nat):Int) from rfl,aoo hm hn (by omega) (by omega),aaH hm (by decide) (by omega),bf.2 (by omega),cond_true,Us hm (by omega) (by omega),e,<-Int.sub_eq_add_neg,bf.2 h3,cond_true]
 exact K6 hm (p:=16) (by omega) (by omega) h3 k
end
def MC(e:Nat×Nat×Int):Ty4:=((e.2.1:Int),zs e.2.2,zl e.2.2,())
def rowsOf(N:Nat)(M:List (Nat×Nat×Int)):gN:=(List.range N).map λi=>(M.filter λe=>e.1==i).map MC
def aZ(L:List (Nat×Nat)):aH:=L.map λp=>[(p.1:Int),(p.2:Int)]
def Sp{α β:Type}(E:β->MS->Option α)(D:Int->gN->aH->Option α)(x:Option α)(r:Except Int (β×MS)):Prop:=match r with
 | .ok (z,s)=>x=E z s
 | .error c=>∃R L,x=D c R L
theorem ze{β:Type}{c:Int}(h:c≠0)(a b:β):cond (c !=0) a b=a:=by
 have:(c !=0)=true:=by simpa using h
 rw[this];rfl
theorem zc{β:Type}(a b:β):cond ((0:Int) !=0) a b=b:=rfl
section
variable {α β γ:Type}
theorem Sp.bind{P:β->MS->Prop}{f:MR β}{g:β->MR γ}{s:MS}{E0:β->MS->Option α}{D0:Int->gN->aH->Option α}{E:γ->MS->Option α}{D:Int->gN->aH->Option α}{x:Option α}
  (ho:Eh P (f s)) (h:Sp E0 D0 x (f s)) (hE:∀z s',P z s'->Sp E D (E0 z s') (g z s')) (hD:∀c R L,c≠0->D0 c R L=D c R L):Sp E D x (dm f g s):=by
 unfold dm
 cases hf:f s with
 |ok r=>obtain⟨z,s'⟩:=r;rw[hf] at ho h;rw[show x=E0 z s' from h];exact hE z s' ho
 |error c=>
  rw[hf] at ho h
  obtain⟨R,L,h⟩:=h
  exact⟨R,L,h.trans (hD c R L (by rcases ho with rfl|rfl<;>decide))⟩
theorem Sp.pure{E:β->MS->Option α}{D:Int->gN->aH->Option α}{x:Option α}{z:β}{s:MS}(h:x=E z s):Sp E D x (mpure z s):=h
theorem Sp.err{E:β->MS->Option α}{D:Int->gN->aH->Option α}{x:Option α}{c:Int}{s:MS}(R:gN)(L:aH)(h:x=D c R L):Sp E D x (aaF c s):=⟨R,L,h⟩
theorem Sp.fit{E:γ->MS->Option α}{D:Int->gN->aH->Option α}{x a b:Option α}{z:Int}{g:Int->MR γ}{s:MS}(R:gN)(L:aH)(h:x=cond (kK z) a b)(ha:z.natAbs<aj->Sp E D a (g z s))(hb:b=D 3 R L):Sp E D x (dm (CU z) g s):=by
 unfold dm CU
 cases hf:kK z with
 |true=>rw[hf,cond_true] at h;rw[h];exact ha (bf.1 hf)
 |false=>rw[hf,cond_false] at h;rw[h];exact⟨R,L,hb⟩
end
theorem lU:4*iV=aj:=Mh.symm
theorem eZ:0<iV:=by decide
structure NdR (x:List Int) (i:Nat):Prop extends NdOk x i where
 kr:1<=kd x/\kd x<=12
 ea:Cq (kd x)->x.tail.headD 0=(xa x:Int)
 eb:Cn (kd x)->x.tail.tail.headD 0=(xb x:Int)
section
variable {N:Nat} {v:Nat->Rat} {u:aH}
abbrev nd(u:aH)(i:Nat):List Int:=List.getD u i []
structure rD (N:Nat) (v:Nat->Rat) (u:aH):Prop where
 n40:N<=40
 len:u.length=N
 ok:∀i,i<N->NdR (nd u i) i
 val:∀i,i<N->v i=X9 v (nd u i)
theorem rD.lt(h:rD N v u){i:Nat}(hi:i<N):i<u.length:=by rw[h.len];exact hi
theorem rD.good(h:rD N v u){f i b n:Nat}(hf:i<f)(hi:i<N)(hb:i<b){s:MS}(hs:eF N v b s):
  Eh (λz s'=>bN (v i) n z/\z.natAbs<=iV/\n<=160/\eF N v b s') (eY (nd u) f i n s):=
 (PO (λi hi=>(h.ok i hi).toNdOk) h.val f i hf hi b n s hb hs).mono λz s' ⟨h1,h2,h3,h4,_,_⟩=>⟨h1,h2,h3,h4⟩
def iP(N:Nat)(v:Nat->Rat)(u:aH)(f b:Nat)(A:{α:Type}->dG α):Prop:=
 ∀{α:Type} (j n:Nat) (s:MS),j<b->n<=1000->eF N v b s->∀k:Bool->List Int->Int->Nat->Nat->Nat->aH->gN->aH->Option α,
  Sp (λz s'=>k (zs z) (zl z) 0 0 N N u (rowsOf N s'.1) (aZ s'.2)) (λc R L=>k false [0,0,0,0,0,0] c 0 N N u R L)
   (A (j:Int) (n:Int) 0 N N u (rowsOf N s.1) (aZ s.2) k) (eY (nd u) f j n s)
section
variable {α:Type} {f b:Nat} {A:{α:Type}->dG α} {m:Nat}
theorem afV{a:Nat}(L:Nat)(hL:isLen (a+1) L=true):isLen a (if a+1=2^(L-1) then L-1 else L)=true/\1<=L:=by
 rw[dK] at hL
 obtain⟨h1,h2⟩:=hL
 have hL1:1<=L:=by
  rcases Nat.eq_zero_or_pos L with h|h
  .subst h;simp at h1
  .exact h
 have h3:2^(L-1)<=a+1:=by rcases h2 with h|h<;>omega
 refine⟨?_,hL1⟩
 rw[dK]
 split
 .rename_i he
  refine⟨by omega, ?_⟩
  rcases Nat.eq_zero_or_pos (L-1) with h|h
  .exact .inl h
  .right
   have:2^(L-1)=2*2^(L-1-1):=by rw[<-Nat.pow_succ'];congr 1;omega
   have:=Nat.pow_pos (n:=L-1-1) (show 0<2 by decide)
   omega
 .rename_i he
  refine⟨by omega, .inr (by omega)⟩
theorem aeC(hn:rD N v u)(hm:300<=m)(hA:iP N v u f b A){i:Nat}(hf:i<f)(hi:i<N)(hb:i<b){s:MS}(hs:eF N v b s)(k:Int->Int->Nat->Nat->Nat->gN->aH->Option α):
  Sp (λ(g:Nat) s'=>k (g:Int) 0 0 N N (rowsOf N s'.1) (aZ s'.2)) (λc R L=>k 0 c 0 N N R L)
   (Yf A m (i:Int) 0 N N u (rowsOf N s.1) (aZ s.2) k) (mG (eY (nd u) f) i s):=by
 rw[aEQ]
 unfold mG
 refine Sp.bind (hn.good hf hi hb hs) (hA i 0 s hb (by omega) hs _) (λz s' ⟨_,hz,_,_⟩=> ?_) (λc R L hc=>ze hc _ _)
 have hW:=lU
 have hB:=eZ
 refine Sp.pure ?_
 rw[zc,ofS (by omega) (by omega),show false=zs (z.natAbs:Int) from(ou _).symm,show zl z=zl (z.natAbs:Int) from rfl,Us hm (by omega) (by decide),bf.2 (by omega),cond_true,zc]
 obtain⟨h1,h2⟩:=afV (a:=z.natAbs) (uh ((z.natAbs:Int)+1)) (by
  have:=lm ((z.natAbs:Int)+1)
  rwa[show((z.natAbs:Int)+1).natAbs=z.natAbs+1 by omega] at this)
 have h3:=fJ h1 (lm z)
 have h192:=jL (a:=((z.natAbs:Int)+1).natAbs) (by omega) (lm _)
 generalize hL:uh ((z.natAbs:Int)+1)=L at*
 rw[aBm hm (by omega),hL,ofS (by omega) (by omega),show IntKind.wrap .i64 ((L:Int)-1)=((L-1:Nat):Int) by rw[bP (by omega) (by omega)];omega]
 obtain⟨M,rfl⟩:∃M,m=M+40:=⟨m-40,by omega⟩
 have hp:2^(L-1)<aj:=by rw[<-Sb];exact Nat.pow_lt_pow_right (by decide) (by omega)
 rw[ai6 (L-1) (by omega) (by decide),aGv,bf.2 (nb hp),cond_true,show((0:Int)==0)=true from rfl,cond_true,afs hm (nb hp) (by omega)]
 by_cases he:z.natAbs+1=2^(L-1)
 .rw[if_pos he] at h3
  rw[<-h3,show kI ((2^(L-1):Nat):Int) ((z.natAbs:Int)+1)=0 by unfold kI;rw[if_neg (by omega),if_neg (by omega)]];rfl
 .rw[if_neg he] at h3
  have:(kI ((2^(L-1):Nat):Int) ((z.natAbs:Int)+1)==0)=false:=by
   unfold kI
   by_cases h4:((2^(L-1):Nat):Int)<(z.natAbs:Int)+1
   .rw[if_pos h4];rfl
   .rw[if_neg h4,if_pos (by omega)];rfl
  rw[<-h3,this];rfl
theorem asT(hn:rD N v u)(hm:300<=m)(hA:iP N v u f b A){i:Nat}(hf:i<f)(hi:i<N)(hb:i<b)
  (k1:Int->Int->Nat->Nat->Nat->gN->aH->Option α):∀(d w F:Nat) {s:MS},w+d=41->d<F->eF N v b s->
  Sp (λ(g:Nat) s'=>k1 (g:Int) 0 0 N N (rowsOf N s'.1) (aZ s'.2)) (λc R L=>k1 0 c 0 N N R L)
   (Di A (bM m) (fO m) (i:Int) u k1 (λa1 a2 a3 R L=>k1 0 7 a1 a2 a3 R L) F (w:Int) 0 N N (rowsOf N s.1) (aZ s.2)) (mF (eY (nd u) f) i d w s)
 |0,w,F,s,hw,hF,hs=>by
  obtain⟨F,rfl⟩:∃n,F=n+1:=⟨F-1,by omega⟩
  rw[VY,dF (by omega),cond_false]
  exact⟨_,_,rfl⟩
 |d+1,w,F,s,hw,hF,hs=>by
  obtain⟨F,rfl⟩:∃n,F=n+1:=⟨F-1,by omega⟩
  have hW:=lU
  have hB:=eZ
  rw[VY,dT (by omega),cond_true,show IntKind.wrap .i64 ((w:Int)+2)=((w+2:Nat):Int) by rw[bP (by omega) (by omega)];rfl]
  unfold mF
  refine Sp.bind (hn.good hf hi hb hs) (hA i (w+2) s hb (by omega) hs _) (λz s' ⟨_,hz,_,hs'⟩=> ?_) (λc R L hc=>ze hc _ _)
  rw[zc,ofS (by omega) (by omega),show false=zs (z.natAbs:Int) from(ou _).symm,show zl z=zl (z.natAbs:Int) from rfl,afs hm (by omega) (by decide)]
  by_cases h5:5<=z.natAbs
  .have:decide (kI (z.natAbs:Int) 5>=0)=true:=by
    unfold kI;rw[if_neg (by omega)];split<;>rfl
   rw[this,cond_true,if_pos h5]
   exact Sp.pure rfl
  .have:decide (kI (z.natAbs:Int) 5>=0)=false:=by
    unfold kI;rw[if_pos (by omega)];rfl
   rw[this,cond_false,if_neg h5,show IntKind.wrap .i64 ((w:Int)+1)=((w+1:Nat):Int) by rw[bP (by omega) (by omega)];rfl]
   exact asT hn hm hA hf hi hb k1 d (w+1) F (by omega) (by omega) hs'
end
end
theorem wr1{a:Nat}(h:a<=1000000):IntKind.wrap .i64 ((a:Int)+1)=((a+1:Nat):Int):=by rw[bP (by omega) (by omega)];rfl
theorem wr2{a:Nat}(h:a<=1000000):IntKind.wrap .i64 ((a:Int)+2)=((a+2:Nat):Int):=by rw[bP (by omega) (by omega)];rfl
theorem wr3{a:Nat}(h:a<=1000000):IntKind.wrap .i64 ((a:Int)+3)=((a+3:Nat):Int):=by rw[bP (by omega) (by omega)];rfl
theorem wr4{a:Nat}(h:a<=1000000):IntKind.wrap .i64 ((a:Int)+4)=((a+4:Nat):Int):=by rw[bP (by omega) (by omega)];rfl
theorem wr6{a:Nat}(h:a<=1000000):IntKind.wrap .i64 ((a:Int)+6)=((a+6:Nat):Int):=by rw[bP (by omega) (by omega)];rfl
theorem wrN{a b:Nat}(h:a+b<=1000000):IntKind.wrap .i64 ((a:Int)+(b:Int))=((a+b:Nat):Int):=by rw[bP (by omega) (by omega)];omega
theorem wrD{a:Nat}(h:a<=1000000):IntKind.wrap .i64 ((2:Int)*(a:Int))=((2*a:Nat):Int):=by rw[bP (by omega) (by omega)];omega
theorem Ya{a:Nat}(h:a<=1000000):IntKind.wrap .i64 (a:Int)=(a:Int):=bP (by omega) (by omega)
section
variable {N:Nat} {v:Nat->Rat} {u:aH}
theorem rD.aeA(h:rD N v u){f i:Nat}(hf:i<=f)(hi:i<=N):Te N v (eY (nd u) f) i:=λj hj n s hs=>
 (PO (λi hi=>(h.ok i hi).toNdOk) h.val f j (by omega) (by omega) i n s hj hs).mono λz s' ⟨h1,h2,h3,h4,h5,_⟩=>⟨h1,h2,h3,h4,h5.mono (by omega)⟩
theorem ar7{z:Int}(h:z.natAbs<=iV):uh z<=192:=jL (by have:=lU;have:=eZ;omega) (lm z)
theorem rD.grow(h:rD N v u){f i j:Nat}(hf:i<=f)(hi:i<=N)(hj:j<i){s:MS}(hs:eF N v i s):Eh (λg s'=>g<=192/\eF N v i s') (mG (eY (nd u) f) j s):=
 (Bu (h.aeA hf hi) hj hs).mono λg s' ⟨⟨a0,_,h2,h3⟩,h4,_⟩=>⟨by rw[h2];exact ar7 h3,h4⟩
theorem rD.away(h:rD N v u){f i j:Nat}(hf:i<=f)(hi:i<=N)(hj:j<i):∀(d w:Nat) {s:MS},w+d=41->eF N v i s->Eh (λk s'=>1<=yc (v j)*2^k/\k<=40/\eF N v i s') (mF (eY (nd u) f) j d w s)
 |0,w,s,_,hs=> .inr rfl
 |d+1,w,s,hw,hs=>by
  unfold mF
  refine(h.aeA hf hi j hj (w+2) s hs).bind λa s' ⟨h1,h2,_,h3,h4⟩=> ?_
  by_cases h5:5<=a.natAbs
  .rw[if_pos h5];exact⟨Xu h1 h5,by omega,h3⟩
  .rw[if_neg h5];exact rD.away h hf hi hj d (w+1) (by omega) h3
variable {α:Type} {f i:Nat} {A:{α:Type}->dG α} {m:Nat}
abbrev Er(N:Nat)(k:Bool->List Int->Int->Nat->Nat->Nat->gN->aH->Option α):Int->MS->Option α:=λz s'=>k (zs z) (zl z) 0 0 N N (rowsOf N s'.1) (aZ s'.2)
abbrev Dr(N:Nat)(k:Bool->List Int->Int->Nat->Nat->Nat->gN->aH->Option α):Int->gN->aH->Option α:=λc R L=>k false [0,0,0,0,0,0] c 0 N N R L
theorem dB{z:Int}(h:z.natAbs<=iV):z.natAbs<aj:=by have:=lU;have:=eZ;omega
theorem aGx(hn:rD N v u)(hm:300<=m)(hA:iP N v u f i A)(hf:i<=f)(hi:i<N){n:Nat}(hn1:n<=160)(hk:kd (nd u i)=4){s:MS}(hs:eF N v i s)(k:Bool->List Int->Int->Nat->Nat->Nat->gN->aH->Option α):
  Sp (Er N k) (Dr N k) (YW A m i (n:Int) 0 N N u (rowsOf N s.1) (aZ s.2) k) (bJ (eY (nd u) f) (nd u i) n s):=by
 have hx:=hn.ok i hi
 have h40:=hn.n40
 have ha:=hx.a ⟨by omega,by omega⟩
 have hb:=hx.b (.inl (by omega))
 have ea:(List.getD u i []).tail.headD 0=(xa (nd u i):Int):=hx.ea ⟨by omega,by omega⟩
 have eb:(List.getD u i []).tail.tail.headD 0=(xb (nd u i):Int):=hx.eb (.inl (by omega))
 simp only[bJ,hk,Int.reduceEq,↓reduceIte]
 rw[axk,if_pos (hn.lt hi),ea,eb]
 generalize xa (nd u i)=ja at*
 generalize xb (nd u i)=jb at*
 rw[Ya (by omega)]
 refine Sp.bind (hn.grow hf (by omega) ha hs) (aeC hn hm hA (by omega) (by omega) ha hs _) (λga s1 ⟨g1,hs1⟩=> ?_) (λc R L hc=>ze hc _ _)
 rw[zc,if_pos (hn.lt hi),Ya (by omega)]
 refine Sp.bind (hn.grow hf (by omega) hb hs1) (aeC hn hm hA (by omega) (by omega) hb hs1 _) (λgb s2 ⟨g2,hs2⟩=> ?_) (λc R L hc=>ze hc _ _)
 rw[zc,if_pos (hn.lt hi),wrN (by omega),wr3 (by omega)]
 refine Sp.bind (hn.good (by omega) (by omega) ha hs2) (hA ja (n+gb+3) s2 ha (by omega) hs2 _) (λp s3 ⟨_,p2,_,hs3⟩=> ?_) (λc R L hc=>ze hc _ _)
 rw[zc,if_pos (hn.lt hi),wrN (by omega),wr3 (by omega)]
 refine Sp.bind (hn.good (by omega) (by omega) hb hs3) (hA jb (n+ga+3) s3 hb (by omega) hs3 _) (λq s4 ⟨_,q2,_,hs4⟩=> ?_) (λc R L hc=>ze hc _ _)
 rw[zc,aaH hm (dB p2) (dB q2)]
 refine Sp.fit _ _ rfl (λhpq=> ?_) (ze (by decide) _ _)
 rw[zc,wrN (by omega),wr6 (by omega),aGo hm (by omega) hpq]
 unfold E8
 by_cases h:n+ga+gb+6<=191
 .rw[if_pos h,if_pos h];exact Sp.pure rfl
 .rw[if_neg h,if_neg h];exact Sp.err _ _ rfl
theorem aGz(hn:rD N v u)(hm:300<=m)(hA:iP N v u f i A)(hf:i<=f)(hi:i<N){n:Nat}(hn1:n<=160)(hk:kd (nd u i)=5){s:MS}(hs:eF N v i s)(k:Bool->List Int->Int->Nat->Nat->Nat->gN->aH->Option α):
  Sp (Er N k) (Dr N k) (YZ A m i (n:Int) 0 N N u (rowsOf N s.1) (aZ s.2) k) (bJ (eY (nd u) f) (nd u i) n s):=by
 have hx:=hn.ok i hi
 have h40:=hn.n40
 have ha:=hx.a ⟨by omega,by omega⟩
 have hb:=hx.b (.inl (by omega))
 have ea:(List.getD u i []).tail.headD 0=(xa (nd u i):Int):=hx.ea ⟨by omega,by omega⟩
 have eb:(List.getD u i []).tail.tail.headD 0=(xb (nd u i):Int):=hx.eb (.inl (by omega))
 simp only[bJ,hk,Int.reduceEq,↓reduceIte]
 rw[axo,if_pos (hn.lt hi),ea,eb]
 generalize xa (nd u i)=ja at*
 generalize xb (nd u i)=jb at*
 rw[Ya (by omega),ayt]
 refine Sp.bind (hn.away hf (by omega) hb 41 0 (by omega) hs) (asT hn hm hA (by omega) (by omega) hb _ 41 0 m (by omega) (by omega) hs) (λkk s1 ⟨w1,w2,hs1⟩=> ?_) (λc R L hc=>ze hc _ _)
 rw[zc,if_pos (hn.lt hi),Ya (by omega)]
 refine Sp.bind (hn.grow hf (by omega) ha hs1) (aeC hn hm hA (by omega) (by omega) ha hs1 _) (λga s2 ⟨g2,hs2⟩=> ?_) (λc R L hc=>ze hc _ _)
 rw[zc,if_pos (hn.lt hi),wrN (by omega),wr3 (by omega)]
 refine Sp.bind (hn.good (by omega) (by omega) ha hs2) (hA ja (n+kk+3) s2 ha (by omega) hs2 _) (λp s3 ⟨_,p2,_,hs3⟩=> ?_) (λc R L hc=>ze hc _ _)
 rw[zc,if_pos (hn.lt hi),wrN (by omega),wrD (by omega),wrN (by omega),wr4 (by omega)]
 refine Sp.bind (hn.good (by omega) (by omega) hb hs3) (hA jb (n+ga+2*kk+4) s3 hb (by omega) hs3 _) (λq s4 ⟨q1,q2,_,hs4⟩=> ?_) (λc R L hc=>ze hc _ _)
 have hq:=BU w1 q1
 rw[zc,wrN (by omega),wr1 (by omega),upS hm (dB p2)]
 unfold upM
 by_cases h:n+ga+kk+1<=191
 .rw[if_pos h,if_pos h]
  refine Sp.fit _ _ rfl (λhpq=> ?_) (ze (by decide) _ _)
  rw[zc,ata m (by omega) hpq (dB q2) (by omega)]
  exact Sp.pure rfl
 .rw[if_neg h,if_neg h]
  exact⟨_,_,ze (by decide) _ _⟩
end
theorem asg{a b:Int}:cond ((decide (kI a b<0))==true) a b=min a b:=by
 unfold kI
 by_cases h1:a<b
 .rw[if_pos h1];show a=min a b;omega
 .rw[if_neg h1]
  by_cases h2:b<a
  .rw[if_pos h2];show b=min a b;omega
  .rw[if_neg h2];show b=min a b;omega
theorem asf{a b:Int}:cond ((decide (kI a b<0))==false) a b=max a b:=by
 unfold kI
 by_cases h1:a<b
 .rw[if_pos h1];show b=max a b;omega
 .rw[if_neg h1]
  by_cases h2:b<a
  .rw[if_pos h2];show a=max a b;omega
  .rw[if_neg h2];show a=max a b;omega
theorem qM{β:Type}(c:Bool)(K:Int->β)(a b:Int):cond c (K a) (K b)=K (cond c a b):=by cases c<;>rfl
theorem aGt{α:Type}{m n:Nat}(hm:300<=m)(hn:n<=160):∃P,piZ n=P/\∀k:Bool->List Int->Option α,Vr m (n:Int) k=k (zs P) (zl P):=⟨_,rfl,piS hm hn⟩
theorem av8{α:Type}{m n:Nat}(hm:300<=m)(hn:n<=160):∃P,yx n=P/\∀k:Bool->List Int->Option α,Vs m (n:Int) k=k (zs P) (zl P):=⟨_,rfl,av_ hm hn⟩
section
variable {N:Nat} {v:Nat->Rat} {u:aH}
variable {α:Type} {f i:Nat} {A:{α:Type}->dG α} {m:Nat}
theorem aGa(hn:rD N v u)(hm:300<=m)(hA:iP N v u f i A)(hf:i<=f)(hi:i<N)(hk:kd (nd u i)=1){n:Nat}(hn1:n<=160){s:MS}(hs:eF N v i s)(k:Bool->List Int->Int->Nat->Nat->Nat->gN->aH->Option α):
  Sp (Er N k) (Dr N k) (NW A m i (n:Int) 0 N N u (rowsOf N s.1) (aZ s.2) k) (bJ (eY (nd u) f) (nd u i) n s):=by
 have hx:=hn.ok i hi
 have h40:=hn.n40
 have hW:=lU
 have hB:=eZ
 have hka:Cq (kd (nd u i))->xa (nd u i)<i/\(List.getD u i []).tail.headD 0=(xa (nd u i):Int):=λh=>⟨hx.a h,hx.ea h⟩
 have hkb:Cn (kd (nd u i))->xb (nd u i)<i/\(List.getD u i []).tail.tail.headD 0=(xb (nd u i):Int):=λh=>⟨hx.b h,hx.eb h⟩
 rw[tN,if_pos (hn.lt hi)]
 have hkd:(List.getD u i []).headD 0=kd (nd u i):=rfl
 rw[hkd]
 obtain⟨p1,p2,p3⟩:=hx.k1 hk
 have h9:(1000000000:Nat)<aj:=by decide
 simp only[bJ,hk,Int.reduceEq,↓reduceIte,Int.reduceBEq,cond_true,cond_false,if_pos (hn.lt hi)]
 rw[show(List.getD u i []).tail.tail.tail.headD 0=xp (nd u i) from rfl,show(List.getD u i []).tail.tail.tail.tail.headD 0=xq (nd u i) from rfl,ofS (by omega) (by omega),upS hm (by omega)]
 unfold upM
 by_cases h:n<=191
 .rw[if_pos h,if_pos h]
  refine Sp.fit _ _ rfl (λhz=> ?_) (ze (by decide) _ _)
  rw[zc,ofS (by omega) (by omega),ata m (by omega) hz (by omega) (by omega)]
  exact Sp.pure rfl
 .omega
theorem aGb(hn:rD N v u)(hm:300<=m)(hA:iP N v u f i A)(hf:i<=f)(hi:i<N)(hk:kd (nd u i)=2){n:Nat}(hn1:n<=160){s:MS}(hs:eF N v i s)(k:Bool->List Int->Int->Nat->Nat->Nat->gN->aH->Option α):
  Sp (Er N k) (Dr N k) (NW A m i (n:Int) 0 N N u (rowsOf N s.1) (aZ s.2) k) (bJ (eY (nd u) f) (nd u i) n s):=by
 have hx:=hn.ok i hi
 have h40:=hn.n40
 have hW:=lU
 have hB:=eZ
 have hka:Cq (kd (nd u i))->xa (nd u i)<i/\(List.getD u i []).tail.headD 0=(xa (nd u i):Int):=λh=>⟨hx.a h,hx.ea h⟩
 have hkb:Cn (kd (nd u i))->xb (nd u i)<i/\(List.getD u i []).tail.tail.headD 0=(xb (nd u i):Int):=λh=>⟨hx.b h,hx.eb h⟩
 rw[tN,if_pos (hn.lt hi)]
 have hkd:(List.getD u i []).headD 0=kd (nd u i):=rfl
 rw[hkd]
 obtain⟨ha,ea⟩:=hka ⟨by omega,by omega⟩
 obtain⟨hb,eb⟩:=hkb (.inl (by omega))
 simp only[bJ,hk,Int.reduceEq,↓reduceIte,Int.reduceBEq,cond_true,cond_false,if_pos (hn.lt hi),ea,eb]
 generalize xa (nd u i)=ja at*
 generalize xb (nd u i)=jb at*
 rw[Ya (by omega),Ya (by omega),wr2 (by omega)]
 refine Sp.bind (hn.good (by omega) (by omega) ha hs) (hA ja (n+2) s ha (by omega) hs _) (λp s1 ⟨_,p2,_,hs1⟩=> ?_) (λc R L hc=>ze hc _ _)
 rw[zc]
 refine Sp.bind (hn.good (by omega) (by omega) hb hs1) (hA jb (n+2) s1 hb (by omega) hs1 _) (λq s2 ⟨_,q2,_,hs2⟩=> ?_) (λc R L hc=>ze hc _ _)
 rw[zc,Us hm (dB p2) (dB q2)]
 refine Sp.fit _ _ rfl (λhz=> ?_) (ze (by decide) _ _)
 rw[zc]
 exact Sp.pure (K6 hm (p:=2) (by omega) (by omega) hz _)
theorem aGc(hn:rD N v u)(hm:300<=m)(hA:iP N v u f i A)(hf:i<=f)(hi:i<N)(hk:kd (nd u i)=3){n:Nat}(hn1:n<=160){s:MS}(hs:eF N v i s)(k:Bool->List Int->Int->Nat->Nat->Nat->gN->aH->Option α):
  Sp (Er N k) (Dr N k) (NW A m i (n:Int) 0 N N u (rowsOf N s.1) (aZ s.2) k) (bJ (eY (nd u) f) (nd u i) n s):=by
 have hx:=hn.ok i hi
 have h40:=hn.n40
 have hW:=lU
 have hB:=eZ
 have hka:Cq (kd (nd u i))->xa (nd u i)<i/\(List.getD u i []).tail.headD 0=(xa (nd u i):Int):=λh=>⟨hx.a h,hx.ea h⟩
 have hkb:Cn (kd (nd u i))->xb (nd u i)<i/\(List.getD u i []).tail.tail.headD 0=(xb (nd u i):Int):=λh=>⟨hx.b h,hx.eb h⟩
 rw[tN,if_pos (hn.lt hi)]
 have hkd:(List.getD u i []).headD 0=kd (nd u i):=rfl
 rw[hkd]
 obtain⟨ha,ea⟩:=hka ⟨by omega,by omega⟩
 obtain⟨hb,eb⟩:=hkb (.inl (by omega))
 simp only[bJ,hk,Int.reduceEq,↓reduceIte,Int.reduceBEq,cond_true,cond_false,if_pos (hn.lt hi),ea,eb]
 generalize xa (nd u i)=ja at*
 generalize xb (nd u i)=jb at*
 rw[Ya (by omega),Ya (by omega),wr2 (by omega)]
 refine Sp.bind (hn.good (by omega) (by omega) ha hs) (hA ja (n+2) s ha (by omega) hs _) (λp s1 ⟨_,p2,_,hs1⟩=> ?_) (λc R L hc=>ze hc _ _)
 rw[zc]
 refine Sp.bind (hn.good (by omega) (by omega) hb hs1) (hA jb (n+2) s1 hb (by omega) hs1 _) (λq s2 ⟨_,q2,_,hs2⟩=> ?_) (λc R L hc=>ze hc _ _)
 rw[zc,ac8 m (dB q2),<-Ee q,Us hm (dB p2) (by rw[Int.natAbs_neg];exact dB q2),<-Int.sub_eq_add_neg]
 refine Sp.fit _ _ rfl (λhz=> ?_) (ze (by decide) _ _)
 rw[zc]
 exact Sp.pure (K6 hm (p:=2) (by omega) (by omega) hz _)
theorem aGd(hn:rD N v u)(hm:300<=m)(hA:iP N v u f i A)(hf:i<=f)(hi:i<N)(hk:kd (nd u i)=4){n:Nat}(hn1:n<=160){s:MS}(hs:eF N v i s)(k:Bool->List Int->Int->Nat->Nat->Nat->gN->aH->Option α):
  Sp (Er N k) (Dr N k) (NW A m i (n:Int) 0 N N u (rowsOf N s.1) (aZ s.2) k) (bJ (eY (nd u) f) (nd u i) n s):=by
 have hx:=hn.ok i hi
 have h40:=hn.n40
 have hW:=lU
 have hB:=eZ
 have hka:Cq (kd (nd u i))->xa (nd u i)<i/\(List.getD u i []).tail.headD 0=(xa (nd u i):Int):=λh=>⟨hx.a h,hx.ea h⟩
 have hkb:Cn (kd (nd u i))->xb (nd u i)<i/\(List.getD u i []).tail.tail.headD 0=(xb (nd u i):Int):=λh=>⟨hx.b h,hx.eb h⟩
 rw[tN,if_pos (hn.lt hi)]
 have hkd:(List.getD u i []).headD 0=kd (nd u i):=rfl
 rw[hkd]
 have:=aGx hn hm hA hf hi hn1 hk hs k
 simp only[hk,Int.reduceBEq,cond_true,cond_false]
 exact this
theorem aGe(hn:rD N v u)(hm:300<=m)(hA:iP N v u f i A)(hf:i<=f)(hi:i<N)(hk:kd (nd u i)=5){n:Nat}(hn1:n<=160){s:MS}(hs:eF N v i s)(k:Bool->List Int->Int->Nat->Nat->Nat->gN->aH->Option α):
  Sp (Er N k) (Dr N k) (NW A m i (n:Int) 0 N N u (rowsOf N s.1) (aZ s.2) k) (bJ (eY (nd u) f) (nd u i) n s):=by
 have hx:=hn.ok i hi
 have h40:=hn.n40
 have hW:=lU
 have hB:=eZ
 have hka:Cq (kd (nd u i))->xa (nd u i)<i/\(List.getD u i []).tail.headD 0=(xa (nd u i):Int):=λh=>⟨hx.a h,hx.ea h⟩
 have hkb:Cn (kd (nd u i))->xb (nd u i)<i/\(List.getD u i []).tail.tail.headD 0=(xb (nd u i):Int):=λh=>⟨hx.b h,hx.eb h⟩
 rw[tN,if_pos (hn.lt hi)]
 have hkd:(List.getD u i []).headD 0=kd (nd u i):=rfl
 rw[hkd]
 have:=aGz hn hm hA hf hi hn1 hk hs k
 simp only[hk,Int.reduceBEq,cond_true,cond_false]
 exact this
theorem aGf(hn:rD N v u)(hm:300<=m)(hA:iP N v u f i A)(hf:i<=f)(hi:i<N)(hk:kd (nd u i)=6){n:Nat}(hn1:n<=160){s:MS}(hs:eF N v i s)(k:Bool->List Int->Int->Nat->Nat->Nat->gN->aH->Option α):
  Sp (Er N k) (Dr N k) (NW A m i (n:Int) 0 N N u (rowsOf N s.1) (aZ s.2) k) (bJ (eY (nd u) f) (nd u i) n s):=by
 have hx:=hn.ok i hi
 have h40:=hn.n40
 have hW:=lU
 have hB:=eZ
 have hka:Cq (kd (nd u i))->xa (nd u i)<i/\(List.getD u i []).tail.headD 0=(xa (nd u i):Int):=λh=>⟨hx.a h,hx.ea h⟩
 have hkb:Cn (kd (nd u i))->xb (nd u i)<i/\(List.getD u i []).tail.tail.headD 0=(xb (nd u i):Int):=λh=>⟨hx.b h,hx.eb h⟩
 rw[tN,if_pos (hn.lt hi)]
 have hkd:(List.getD u i []).headD 0=kd (nd u i):=rfl
 rw[hkd]
 obtain⟨ha,ea⟩:=hka ⟨by omega,by omega⟩
 simp only[bJ,hk,Int.reduceEq,↓reduceIte,Int.reduceBEq,cond_true,cond_false,if_pos (hn.lt hi),ea,hkd]
 generalize xa (nd u i)=ja at*
 rw[Ya (by omega)]
 refine Sp.bind (hn.good (by omega) (by omega) ha hs) (hA ja n s ha (by omega) hs _) (λp s1 ⟨_,p2,_,hs1⟩=> ?_) (λc R L hc=>ze hc _ _)
 rw[zc,ac8 m (dB p2)]
 exact Sp.pure (by rw[<-Ee p])
theorem aGg(hn:rD N v u)(hm:300<=m)(hA:iP N v u f i A)(hf:i<=f)(hi:i<N)(hk:kd (nd u i)=7){n:Nat}(hn1:n<=160){s:MS}(hs:eF N v i s)(k:Bool->List Int->Int->Nat->Nat->Nat->gN->aH->Option α):
  Sp (Er N k) (Dr N k) (NW A m i (n:Int) 0 N N u (rowsOf N s.1) (aZ s.2) k) (bJ (eY (nd u) f) (nd u i) n s):=by
 have hx:=hn.ok i hi
 have h40:=hn.n40
 have hW:=lU
 have hB:=eZ
 have hka:Cq (kd (nd u i))->xa (nd u i)<i/\(List.getD u i []).tail.headD 0=(xa (nd u i):Int):=λh=>⟨hx.a h,hx.ea h⟩
 have hkb:Cn (kd (nd u i))->xb (nd u i)<i/\(List.getD u i []).tail.tail.headD 0=(xb (nd u i):Int):=λh=>⟨hx.b h,hx.eb h⟩
 rw[tN,if_pos (hn.lt hi)]
 have hkd:(List.getD u i []).headD 0=kd (nd u i):=rfl
 rw[hkd]
 obtain⟨ha,ea⟩:=hka ⟨by omega,by omega⟩
 simp only[bJ,hk,Int.reduceEq,↓reduceIte,Int.reduceBEq,cond_true,cond_false,if_pos (hn.lt hi),ea,hkd]
 generalize xa (nd u i)=ja at*
 rw[Ya (by omega)]
 refine Sp.bind (hn.good (by omega) (by omega) ha hs) (hA ja n s ha (by omega) hs _) (λp s1 ⟨_,p2,_,hs1⟩=> ?_) (λc R L hc=>ze hc _ _)
 rw[zc]
 refine Sp.pure ?_
 dsimp only[Er]
 rw[ou,<-avU]
 by_cases hp:p<0
 .rw[show zs p=true from decide_eq_true hp,cond_true,<-show zs p=true from decide_eq_true hp,ac8 m (dB p2),show zs (-p)=false from decide_eq_false (by omega)]
 .rw[show zs p=false from decide_eq_false hp,cond_false]
theorem aGh(hn:rD N v u)(hm:300<=m)(hA:iP N v u f i A)(hf:i<=f)(hi:i<N)(hk:kd (nd u i)=8){n:Nat}(hn1:n<=160){s:MS}(hs:eF N v i s)(k:Bool->List Int->Int->Nat->Nat->Nat->gN->aH->Option α):
  Sp (Er N k) (Dr N k) (NW A m i (n:Int) 0 N N u (rowsOf N s.1) (aZ s.2) k) (bJ (eY (nd u) f) (nd u i) n s):=by
 have hx:=hn.ok i hi
 have h40:=hn.n40
 have hW:=lU
 have hB:=eZ
 have hka:Cq (kd (nd u i))->xa (nd u i)<i/\(List.getD u i []).tail.headD 0=(xa (nd u i):Int):=λh=>⟨hx.a h,hx.ea h⟩
 have hkb:Cn (kd (nd u i))->xb (nd u i)<i/\(List.getD u i []).tail.tail.headD 0=(xb (nd u i):Int):=λh=>⟨hx.b h,hx.eb h⟩
 rw[tN,if_pos (hn.lt hi)]
 have hkd:(List.getD u i []).headD 0=kd (nd u i):=rfl
 rw[hkd]
 obtain⟨ha,ea⟩:=hka ⟨by omega,by omega⟩
 obtain⟨hb,eb⟩:=hkb (.inr (by omega))
 simp only[bJ,hk,Int.reduceEq,↓reduceIte,Int.reduceBEq,cond_true,cond_false,if_pos (hn.lt hi),ea,eb,hkd,Int.add_zero]
 generalize xa (nd u i)=ja at*
 generalize xb (nd u i)=jb at*
 rw[Ya (by omega),Ya (by omega),Ya (by omega)]
 refine Sp.bind (hn.good (by omega) (by omega) ha hs) (hA ja n s ha (by omega) hs _) (λp s1 ⟨_,p2,_,hs1⟩=> ?_) (λc R L hc=>ze hc _ _)
 rw[zc]
 refine Sp.bind (hn.good (by omega) (by omega) hb hs1) (hA jb n s1 hb (by omega) hs1 _) (λq s2 ⟨_,q2,_,hs2⟩=> ?_) (λc R L hc=>ze hc _ _)
 rw[zc,afs hm (dB p2) (dB q2)]
 refine Sp.pure ?_
 rw[<-asg]
 exact qM _ (λz=>k (zs z) (zl z) 0 0 N N (rowsOf N s2.1) (aZ s2.2)) p q
theorem aGi(hn:rD N v u)(hm:300<=m)(hA:iP N v u f i A)(hf:i<=f)(hi:i<N)(hk:kd (nd u i)=9){n:Nat}(hn1:n<=160){s:MS}(hs:eF N v i s)(k:Bool->List Int->Int->Nat->Nat->Nat->gN->aH->Option α):
  Sp (Er N k) (Dr N k) (NW A m i (n:Int) 0 N N u (rowsOf N s.1) (aZ s.2) k) (bJ (eY (nd u) f) (nd u i) n s):=by
 have hx:=hn.ok i hi
 have h40:=hn.n40
 have hW:=lU
 have hB:=eZ
 have hka:Cq (kd (nd u i))->xa (nd u i)<i/\(List.getD u i []).tail.headD 0=(xa (nd u i):Int):=λh=>⟨hx.a h,hx.ea h⟩
 have hkb:Cn (kd (nd u i))->xb (nd u i)<i/\(List.getD u i []).tail.tail.headD 0=(xb (nd u i):Int):=λh=>⟨hx.b h,hx.eb h⟩
 rw[tN,if_pos (hn.lt hi)]
 have hkd:(List.getD u i []).headD 0=kd (nd u i):=rfl
 rw[hkd]
 obtain⟨ha,ea⟩:=hka ⟨by omega,by omega⟩
 obtain⟨hb,eb⟩:=hkb (.inr (by omega))
 simp only[bJ,hk,Int.reduceEq,↓reduceIte,Int.reduceBEq,cond_true,cond_false,if_pos (hn.lt hi),ea,eb,hkd,Int.add_zero]
 generalize xa (nd u i)=ja at*
 generalize xb (nd u i)=jb at*
 rw[Ya (by omega),Ya (by omega),Ya (by omega)]
 refine Sp.bind (hn.good (by omega) (by omega) ha hs) (hA ja n s ha (by omega) hs _) (λp s1 ⟨_,p2,_,hs1⟩=> ?_) (λc R L hc=>ze hc _ _)
 rw[zc]
 refine Sp.bind (hn.good (by omega) (by omega) hb hs1) (hA jb n s1 hb (by omega) hs1 _) (λq s2 ⟨_,q2,_,hs2⟩=> ?_) (λc R L hc=>ze hc _ _)
 rw[zc,afs hm (dB p2) (dB q2)]
 refine Sp.pure ?_
 rw[<-asf]
 exact qM _ (λz=>k (zs z) (zl z) 0 0 N N (rowsOf N s2.1) (aZ s2.2)) p q
theorem aAf(hn:rD N v u)(hm:300<=m)(hA:iP N v u f i A)(hf:i<=f)(hi:i<N)(hk:kd (nd u i)=10){n:Nat}(hn1:n<=160){s:MS}(hs:eF N v i s)(k:Bool->List Int->Int->Nat->Nat->Nat->gN->aH->Option α):
  Sp (Er N k) (Dr N k) (NW A m i (n:Int) 0 N N u (rowsOf N s.1) (aZ s.2) k) (bJ (eY (nd u) f) (nd u i) n s):=by
 have hx:=hn.ok i hi
 have h40:=hn.n40
 have hW:=lU
 have hB:=eZ
 have hka:Cq (kd (nd u i))->xa (nd u i)<i/\(List.getD u i []).tail.headD 0=(xa (nd u i):Int):=λh=>⟨hx.a h,hx.ea h⟩
 have hkb:Cn (kd (nd u i))->xb (nd u i)<i/\(List.getD u i []).tail.tail.headD 0=(xb (nd u i):Int):=λh=>⟨hx.b h,hx.eb h⟩
 rw[tN,if_pos (hn.lt hi)]
 have hkd:(List.getD u i []).headD 0=kd (nd u i):=rfl
 rw[hkd]
 obtain⟨ha,ea⟩:=hka ⟨by omega,by omega⟩
 simp only[bJ,hk,Int.reduceEq,↓reduceIte,Int.reduceBEq,cond_true,cond_false,if_pos (hn.lt hi),ea,hkd]
 generalize xa (nd u i)=ja at*
 rw[Ya (by omega),wrD (by omega),wr6 (by omega)]
 refine Sp.bind (hn.good (by omega) (by omega) ha hs) (hA ja (2*n+6) s ha (by omega) hs _) (λp s1 ⟨_,p2,_,hs1⟩=> ?_) (λc R L hc=>ze hc _ _)
 rw[zc]
 refine Sp.pure ?_
 by_cases hp:p<0
 .rw[show zs p=true from decide_eq_true hp,cond_true,if_pos hp];rfl
 .have hle:=aas p.natAbs
  rw[show zs p=false from decide_eq_false hp,cond_false,if_neg hp,aGD hm (dB p2)]
  exact K6 hm (p:=3) (by omega) (by omega) (nb (by omega)) _
theorem aAg(hn:rD N v u)(hm:300<=m)(hA:iP N v u f i A)(hf:i<=f)(hi:i<N)(hk:kd (nd u i)=11){n:Nat}(hn1:n<=160){s:MS}(hs:eF N v i s)(k:Bool->List Int->Int->Nat->Nat->Nat->gN->aH->Option α):
  Sp (Er N k) (Dr N k) (NW A m i (n:Int) 0 N N u (rowsOf N s.1) (aZ s.2) k) (bJ (eY (nd u) f) (nd u i) n s):=by
 obtain⟨P,hP,hP2⟩:=aGt (α:=α) hm hn1
 have hx:=hn.ok i hi
 have h40:=hn.n40
 have hW:=lU
 have hB:=eZ
 have hka:Cq (kd (nd u i))->xa (nd u i)<i/\(List.getD u i []).tail.headD 0=(xa (nd u i):Int):=λh=>⟨hx.a h,hx.ea h⟩
 have hkb:Cn (kd (nd u i))->xb (nd u i)<i/\(List.getD u i []).tail.tail.headD 0=(xb (nd u i):Int):=λh=>⟨hx.b h,hx.eb h⟩
 rw[tN,if_pos (hn.lt hi)]
 have hkd:(List.getD u i []).headD 0=kd (nd u i):=rfl
 dsimp only
 rw[hkd,hk,show((11:Int)==1)=false from rfl,cond_false,show((11:Int)==11)=true from rfl,cond_true]
 simp only[bJ,hk,Int.reduceEq,↓reduceIte]
 rw[hP,hP2]
 exact Sp.pure rfl
theorem aAh(hn:rD N v u)(hm:300<=m)(hA:iP N v u f i A)(hf:i<=f)(hi:i<N)(hk:kd (nd u i)=12){n:Nat}(hn1:n<=160){s:MS}(hs:eF N v i s)(k:Bool->List Int->Int->Nat->Nat->Nat->gN->aH->Option α):
  Sp (Er N k) (Dr N k) (NW A m i (n:Int) 0 N N u (rowsOf N s.1) (aZ s.2) k) (bJ (eY (nd u) f) (nd u i) n s):=by
 obtain⟨P,hP,hP2⟩:=av8 (α:=α) hm hn1
 have hx:=hn.ok i hi
 have h40:=hn.n40
 have hW:=lU
 have hB:=eZ
 have hka:Cq (kd (nd u i))->xa (nd u i)<i/\(List.getD u i []).tail.headD 0=(xa (nd u i):Int):=λh=>⟨hx.a h,hx.ea h⟩
 have hkb:Cn (kd (nd u i))->xb (nd u i)<i/\(List.getD u i []).tail.tail.headD 0=(xb (nd u i):Int):=λh=>⟨hx.b h,hx.eb h⟩
 rw[tN,if_pos (hn.lt hi)]
 have hkd:(List.getD u i []).headD 0=kd (nd u i):=rfl
 rw[hkd]
 simp only[bJ,hk,Int.reduceEq,↓reduceIte,Int.reduceBEq,cond_true,cond_false,if_pos (hn.lt hi)]
 rw[hP,hP2]
 exact Sp.pure rfl
theorem aGj(hn:rD N v u)(hm:300<=m)(hA:iP N v u f i A)(hf:i<=f)(hi:i<N){n:Nat}(hn1:n<=160){s:MS}(hs:eF N v i s)(k:Bool->List Int->Int->Nat->Nat->Nat->gN->aH->Option α):
  Sp (Er N k) (Dr N k) (NW A m i (n:Int) 0 N N u (rowsOf N s.1) (aZ s.2) k) (bJ (eY (nd u) f) (nd u i) n s):=by
 have hr:=(hn.ok i hi).kr
 have hc:kd (nd u i)=1\/kd (nd u i)=2\/kd (nd u i)=3\/kd (nd u i)=4\/kd (nd u i)=5\/kd (nd u i)=6\/kd (nd u i)=7\/kd (nd u i)=8\/kd (nd u i)=9\/kd (nd u i)=10\/kd (nd u i)=11\/kd (nd u i)=12:=by omega
 rcases hc with hk|hk|hk|hk|hk|hk|hk|hk|hk|hk|hk|hk
 .exact aGa hn hm hA hf hi hk hn1 hs k
 .exact aGb hn hm hA hf hi hk hn1 hs k
 .exact aGc hn hm hA hf hi hk hn1 hs k
 .exact aGd hn hm hA hf hi hk hn1 hs k
 .exact aGe hn hm hA hf hi hk hn1 hs k
 .exact aGf hn hm hA hf hi hk hn1 hs k
 .exact aGg hn hm hA hf hi hk hn1 hs k
 .exact aGh hn hm hA hf hi hk hn1 hs k
 .exact aGi hn hm hA hf hi hk hn1 hs k
 .exact aAf hn hm hA hf hi hk hn1 hs k
 .exact aAg hn hm hA hf hi hk hn1 hs k
 .exact aAh hn hm hA hf hi hk hn1 hs k
theorem Sp.wrap{P:Int->MS->Prop}{E0 E:Int->MS->Option α}{D0 D:Int->gN->aH->Option α}{x:Option α}{r:Except Int (Int×MS)}{j n:Nat}(ho:Eh P r)(h:Sp E0 D0 x r)
  (hE:∀z s',P z s'->E0 z s'=E z (s'.1++[(j,n,z)],s'.2)) (hD:∀c R L,c≠0->D0 c R L=D c R L):
  Sp E D x (match r with| .ok (z,s')=> .ok (z,(s'.1++[(j,n,z)],s'.2))| .error c=> .error c):=by
 cases r with
 |ok r=>obtain⟨z,s'⟩:=r;exact(show x=E0 z s' from h).trans (hE z s' ho)
 |error c=>
  obtain⟨R,L,h⟩:=h
  have ho:c=3\/c=7:=ho
  exact⟨R,L,h.trans (hD c R L (by omega))⟩
theorem aaT{M:List (Nat×Nat×Int)}{i:Nat}(hi:i<N):List.getD (rowsOf N M) i []=(M.filter λe=>e.1==i).map MC:=by
 unfold rowsOf
 rw[List.getD_eq_getElem?_getD,List.getElem?_map,List.getElem?_range hi];rfl
theorem BZ(M:List (Nat×Nat×Int)):(rowsOf N M).length=N:=by simp[rowsOf]
theorem aoy{M:List (Nat×Nat×Int)}{i:Nat}(hi:i<N):List.set (rowsOf N M) i ((M.filter λe=>e.1==i).map MC)=rowsOf N M:=by
 have h:=aaT (M:=M) hi
 have hl:i<(rowsOf N M).length:=by rw[BZ];exact hi
 rw[getD_at _ _ hl] at h
 rw[<-h,List.set_getElem_self]
theorem aox{M:List (Nat×Nat×Int)}{i n:Nat}{z:Int}(hi:i<N):List.set (rowsOf N M) i ((M.filter λe=>e.1==i).map MC++[((n:Int),zs z,zl z,())])=rowsOf N (M++[(i,n,z)]):=by
 unfold rowsOf
 refine List.ext_getElem (by simp) λj h1 h2=> ?_
 simp only[List.length_set,List.length_map,List.length_range] at h1
 rw[List.getElem_set]
 by_cases h:i=j
 .subst h
  rw[if_pos rfl]
  simp[List.filter_append,MC]
 .rw[if_neg h]
  simp[List.filter_append,h]
theorem ahU(M:List (Nat×Nat×Int))(i n:Nat):List.find? (λe:Ty4=>e.1==(n:Int)) ((M.filter λe=>e.1==i).map MC)=(jM M i n).map λz=>(((n:Int),zs z,zl z,()):Ty4):=by
 induction M with
 |nil=>rfl
 |cons e r ih=>
  obtain⟨a,b,z⟩:=e
  simp only[jM]
  by_cases ha:a=i
  .subst ha
   by_cases hb:b=n
   .subst hb
    rw[if_pos ⟨rfl,rfl⟩,List.filter_cons_of_pos (by simp),List.map_cons,List.find?_cons_of_pos (by simp[MC])]
    rfl
   .rw[if_neg (λh=>hb h.2),List.filter_cons_of_pos (by simp),List.map_cons,List.find?_cons_of_neg (by simp[MC];omega),ih]
  .rw[if_neg (λh=>ha h.1),List.filter_cons_of_neg (by simpa using ha),ih]
theorem Nz(p n:Int)(R:gN){j:Nat}(hj:j<R.length)(c:Bool)(l:List Int)(row:Ty3)(u log:aH)(hr:row.length<=1000000)(k1:gN->Bool->List Int->Option α)(k2:gN->Option α):∀(d w F:Nat),w+d=row.length->d<F->
  J_ p n 0 N N u R j c l row log k1 k2 F (w:Int)=match List.find? (λe:Ty4=>e.1==n) (row.drop w) with
   |some e=>k1 (R.set j row) e.2.1 (xC 6 e.2.2.1)
   |none=>k2 (R.set j row)
 |0,w,F,hw,hF=>by
  obtain⟨F,rfl⟩:∃n,F=n+1:=⟨F-1,by omega⟩
  rw[adI,dF (by omega),cond_false,if_pos hj,List.drop_eq_nil_of_le (by omega)];rfl
 |d+1,w,F,hw,hF=>by
  obtain⟨F,rfl⟩:∃n,F=n+1:=⟨F-1,by omega⟩
  have hlt:w<row.length:=by omega
  rw[adI,dT (by omega),cond_true,if_pos (by omega),Int.toNat_natCast,if_pos hlt,if_pos (by omega),if_pos hlt,getD_at _ _ hlt,List.drop_eq_getElem_cons hlt]
  by_cases he:(row[w].1==n)=true
  .rw[List.find?_cons_of_pos (p:=λe:Ty4=>e.1==n) he,he,cond_true]
   dsimp only
   rw[if_pos hj]
  .rw[List.find?_cons_of_neg (p:=λe:Ty4=>e.1==n) he,show(row[w].1==n)=false from by simpa using he,cond_false,iK (by omega)]
   exact Nz p n R hj c l row u log hr k1 k2 d (w+1) F (by omega) (by omega)
theorem YE(p n:Int)(R:gN){j:Nat}(hj:j<R.length)(c:Bool)(l:List Int)(row:Ty3)(u log:aH)(hr:row.length<=1000000)(k1:gN->Bool->List Int->Option α)(k2:gN->Option α)(F:Nat)(hF:row.length<F):
  J_ p n 0 N N u R j c l row log k1 k2 F (0:Int)=match List.find? (λe:Ty4=>e.1==n) row with
   |some e=>k1 (R.set j row) e.2.1 (xC 6 e.2.2.1)
   |none=>k2 (R.set j row):=Nz p n R hj c l row u log hr k1 k2 row.length 0 F (by omega) hF
theorem aeN(L:List (Nat×Nat))(i n:Nat):aZ L++[[(i:Int),(n:Int)]]=aZ (L++[(i,n)]):=by simp[aZ]
theorem aeM(L:List (Nat×Nat)):(aZ L).length=L.length:=by simp[aZ]
theorem m_{i:Nat}(h:i<=1000):IntKind.wrap .i16 (i:Int)=(i:Int):=by
 unfold IntKind.wrap
 simp[IntKind.signed,IntKind.bits]
 omega
theorem Oq:∀(B:Nat) (l:List Nat),l.Nodup->(∀x∈l,x<B)->l.length<=B
 |0,l,_,h=>by
  cases l with
  |nil=>simp
  |cons x r=>exact absurd (h x (by simp)) (by omega)
 |B+1,l,hn,h=>by
  have h1:=Oq B (l.filter λx=>x !=B) (hn.filter _) (λx hx=>by
   have h2:=List.mem_filter.1 hx
   have h3:=h x h2.1
   have h4:x≠B:=by simpa using h2.2
   omega)
  have h2:l.length<=(l.filter λx=>x !=B).length+1:=by
   clear h1 h
   induction l with
   |nil=>simp
   |cons x r ih=>
    rw[List.nodup_cons] at hn
    by_cases hx:x=B
    .subst hx
     rw[List.filter_cons_of_neg (by simp),List.filter_eq_self.2 (λy hy=>by
      have:y≠x:=λe=>hn.1 (e▸hy)
      simpa using this)]
     simp
    .rw[List.filter_cons_of_pos (by simpa using hx)]
     have:=ih hn.2
     simp only[List.length_cons];omega
  omega
theorem eF.short{b:Nat}{s:MS}(h:eF N v b s)(hN:N<=40):s.2.length<=6440/\s.1.length<=6440:=by
 have h1:=Oq 6440 (s.2.map λp=>p.1*161+p.2) (by
  refine List.nodup_iff_pairwise_ne.2 (List.pairwise_map.2 ?_)
  refine List.Pairwise.imp_of_mem (R:=(·≠ ·)) ?_ (List.nodup_iff_pairwise_ne.1 h.nod)
  intro a b ha hb hab he
  have h2:=h.log a ha
  have h3:=h.log b hb
  refine hab (Prod.ext ?_ ?_)<;>omega) (λx hx=>by
  obtain⟨p,hp,rfl⟩:=List.mem_map.1 hx
  have:=h.log p hp
  omega)
 rw[List.length_map] at h1
 exact⟨h1,Nat.le_trans h.cnt h1⟩
theorem eF.ask{b j n:Nat}{s:MS}(hs:eF N v b s)(hj:j<b)(hl:j<N)(hn:n<=160)(hk:jM s.1 j n=none):eF N v j (s.1,s.2++[(j,n)]):=by
 have hno:=KP hk
 have hpn:(j,n)∉s.2:=λhp=>by
  obtain⟨z,hz⟩:=hs.don _ hp hj
  exact hno z hz
 refine⟨hs.ent, ?_,λp hp=> ?_,λp hp hl=> ?_,λe he=>List.mem_append_left _ (hs.inl e he),by have:=hs.cnt;dsimp only;rw[List.length_append];omega⟩
 .refine List.nodup_append.2 ⟨hs.nod,by simp,λp hp q hq e=> ?_⟩
  simp only[List.mem_singleton] at hq
  subst hq;subst e;exact hpn hp
 .rcases List.mem_append.1 hp with hp|hp
  .exact hs.log p hp
  .simp only[List.mem_singleton] at hp;subst hp;exact⟨by assumption,by dsimp only;omega⟩
 .rcases List.mem_append.1 hp with hp|hp
  .exact hs.don p hp (by omega)
  .simp only[List.mem_singleton] at hp;subst hp;dsimp only at hl;omega
theorem rD.rule(hn:rD N v u){f j n:Nat}(hf:j<=f)(hj:j<N)(hn1:n<=160){s:MS}(hs:eF N v j s):Eh (λz s'=>z.natAbs<=iV/\eF N v j s') (bJ (eY (nd u) f) (nd u j) n s):=
 (LC (hn.aeA hf (by omega)) (hn.ok j hj).toNdOk (hn.val j hj) hn1 hs).mono λz s' ⟨_,h2,h3,_⟩=>⟨h2,h3⟩
theorem GN(hn:rD N v u):∀(f m b:Nat),f+7000<=m->b<=N->b<=f->iP N v u f b (λ{α}=>xL (α:=α) m)
 |0,m,b,hm,hb,hf=>λj n s hj _ _=>by omega
 |f+1,m,b,hm,hb,hf=>by
  intro j n s hj hn1 hs k
  obtain⟨m,rfl⟩:∃M,m=M+1:=⟨m-1,by omega⟩
  have h40:=hn.n40
  have hul:=hn.len
  obtain⟨hlog,hmem⟩:=hs.short h40
  have hfl:((s.1.filter λe=>e.1==j).map MC).length<=6440:=by rw[List.length_map];exact Nat.le_trans (List.length_filter_le _ _) hmem
  have hR:j<(rowsOf N s.1).length:=by rw[BZ];omega
  dsimp only
  rw[aDK,if_pos (by omega),Int.toNat_natCast,Nat.zero_add,if_pos hR,aaT (by omega),
   YE (j:Int) (n:Int) _ hR _ _ _ _ _ (by omega) _ _ m (by omega),ahU,aoy (by omega)]
  unfold eY
  cases hk:jM s.1 j n with
  |some z=>
   show k (zs z) (xC 6 (zl z)) 0 0 N N u _ _=_
   rw[DV 6 _ (O1 z)]
  |none=>
   show Sp _ _ (cond (decide ((n:Int)>160)) _ _) _
   dsimp only
   by_cases h160:160<n
   .rw[dT (by omega),cond_true,if_pos h160]
    exact⟨_,_,rfl⟩
   .rw[dF (by omega),cond_false,if_neg h160,aeM,if_pos (by omega),if_pos (by omega),m_ (by omega),m_ (by omega),aeN]
    have hs1:=hs.ask hj (by omega) (by omega) hk
    refine Sp.wrap (hn.rule (f:=f) (by omega) (by omega) (by omega) hs1) (aGj hn (m:=m) (by omega) (GN hn f m j (by omega) (by omega) (by omega)) (by omega) (by omega) (by omega) hs1 _) (λz s' ⟨h1,h2⟩=> ?_) (λc R L hc=>ze hc _ _)
    obtain⟨g1,g2⟩:=h2.short h40
    have hfl':((s'.1.filter λe=>e.1==j).map MC).length<=6440:=by rw[List.length_map];exact Nat.le_trans (List.length_filter_le _ _) g2
    dsimp only[Er]
    rw[zc,if_pos (by omega),Nat.zero_add,if_pos (by rw[BZ];omega),aaT (by omega)]
    rw[if_pos (by omega),if_pos (by omega),if_pos ⟨by rw[BZ];omega,rfl⟩,aox (by omega)]
end
def mapOf(M:List (Nat×Nat×Int)):iM:=M.map λe=>([(e.1:Int),(e.2.1:Int)],(zs e.2.2,zl e.2.2,()))
def fcO(o:Bool)(c:Int):Int:=if c=0 then(if o=true then 3 else 0) else c
theorem ahT(o:Bool){c:Int}(h:c≠0):fcO o c=c:=by unfold fcO;rw[if_neg h]
def Ip{α β:Type}(E:β->MS->Option α)(D:Bool->Int->iM->aH->Option α)(x:Option α)(r:Except Int (β×MS)):Prop:=match r with
 | .ok (z,s)=>x=E z s
 | .error c=>∃o M L,x=D o c M L
def Ir{α:Type}(N:Nat)(k:Bool->List Int->Bool->Int->iM->aH->Option α)(x:Option α)(r:Except Int (Int×MS)):Prop:=match r with
 | .ok (z,s)=>x=k (zs z) (zl z) false 0 (mapOf s.1) (aZ s.2)
 | .error c=>∃b l o c' M L,fcO o c'=c/\x=k b l o c' M L
def Dd{α:Type}(N:Nat)(k:Bool->List Int->Bool->Int->iM->aH->Option α)(c:Int)(x:Option α):Prop:=∃b l o M L,x=k b l o c M L
section
variable {α β γ:Type} {N:Nat} {k:Bool->List Int->Bool->Int->iM->aH->Option α}
theorem Ip.bind{P:β->MS->Prop}{f:MR β}{g:β->MR γ}{s:MS}{E0:β->MS->Option α}{D0:Bool->Int->iM->aH->Option α}{E:γ->MS->Option α}{D:Bool->Int->iM->aH->Option α}{x:Option α}
  (ho:Eh P (f s)) (h:Ip E0 D0 x (f s)) (hE:∀z s',P z s'->Ip E D (E0 z s') (g z s')) (hD:∀o c M L,c≠0->∃o' M' L',D0 o c M L=D o' c M' L'):Ip E D x (dm f g s):=by
 unfold dm
 cases hf:f s with
 |ok r=>obtain⟨z,s'⟩:=r;rw[hf] at ho h;rw[show x=E0 z s' from h];exact hE z s' ho
 |error c=>
  rw[hf] at ho h
  obtain⟨o,M,L,h⟩:=h
  have ho:c=3\/c=7:=ho
  obtain⟨o',M',L',h'⟩:=hD o c M L (by omega)
  exact⟨o',M',L',h.trans h'⟩
theorem Ir.bind{P:β->MS->Prop}{f:MR β}{g:β->MR Int}{s:MS}{E0:β->MS->Option α}{D0:Bool->Int->iM->aH->Option α}{x:Option α}
  (ho:Eh P (f s)) (h:Ip E0 D0 x (f s)) (hE:∀z s',P z s'->Ir N k (E0 z s') (g z s')) (hD:∀o c M L,c≠0->Dd N k c (D0 o c M L)):Ir N k x (dm f g s):=by
 unfold dm
 cases hf:f s with
 |ok r=>obtain⟨z,s'⟩:=r;rw[hf] at ho h;rw[show x=E0 z s' from h];exact hE z s' ho
 |error c=>
  rw[hf] at ho h
  obtain⟨o,M,L,h⟩:=h
  have ho:c=3\/c=7:=ho
  obtain⟨b,l,o',M',L',h'⟩:=hD o c M L (by omega)
  exact⟨b,l,o',c,M',L',ahT _ (by omega),h.trans h'⟩
theorem Ir.pure{z:Int}{s:MS}{x:Option α}(h:x=k (zs z) (zl z) false 0 (mapOf s.1) (aZ s.2)):Ir N k x (mpure z s):=h
theorem Ir.over{s:MS}{x:Option α}(b:Bool)(l:List Int)(M:iM)(L:aH)(h:x=k b l true 0 M L):Ir N k x (aaF 3 s):=⟨b,l,true,0,M,L,rfl,h⟩
theorem Ir.fit{z:Int}{g:Int->MR Int}{s:MS}{x:Option α}(hy:z.natAbs<aj->kK z=true->Ir N k x (g z s))(hn:kK z=false->∃b l o c' M L,fcO o c'=3/\x=k b l o c' M L):Ir N k x (dm (CU z) g s):=by
 unfold dm CU
 cases hf:kK z with
 |true=>exact hy (bf.1 hf) hf
 |false=>exact hn hf
end
section
variable {N:Nat} {v:Nat->Rat} {u:aH}
def xW(N:Nat)(v:Nat->Rat)(u:aH)(f b:Nat)(A:{α:Type}->dH α):Prop:=
 ∀{α:Type} (j n:Nat) (s:MS),j<b->n<=1000->eF N v b s->∀k:Bool->List Int->Bool->Int->aH->iM->aH->Option α,
  Ip (λz s'=>k (zs z) (zl z) false 0 u (mapOf s'.1) (aZ s'.2)) (λo c M L=>k (zs 0) (zl 0) o c u M L)
   (A (j:Int) (n:Int) false 0 u (mapOf s.1) (aZ s.2) k) (eY (nd u) f j n s)
def um(N:Nat)(u:aH)(A:{α:Type}->dH α):Prop:=
 ∀{α:Type} (j n:Int) (o:Bool) (c:Int) (M:iM) (L:aH),c≠0->∀k:Bool->List Int->Bool->Int->aH->iM->aH->Option α,
  A j n o c u M L k=k (zs 0) (zl 0) o c u M L
section
variable {α:Type} {f i:Nat} {A:{α:Type}->dH α} {m:Nat}
theorem um.at(hD:um N u A)(j n:Int)(o:Bool){c:Int}(M:iM)(L:aH)(hc:c≠0)(k:Bool->List Int->Bool->Int->aH->iM->aH->Option α):
  A j n o c u M L k=k (zs 0) (zl 0) o c u M L:=hD j n o c M L hc k
theorem gH(o:Bool){c:Int}(hc:c≠0)(M:iM)(L:aH)(k:Bool->Int->Option α):pJ m o c u M L k=k true c:=by
 rw[amK,show(c==0)=false by simpa using hc,cond_false,show(c !=0)=true by simpa using hc]
theorem jv(M:iM)(L:aH)(k:Bool->Int->Option α):pJ m false 0 u M L k=k false 0:=by
 rw[amK];rfl
theorem Av(M:iM)(L:aH)(k:Bool->Int->Option α):pJ m true 0 u M L k=k true 3:=by
 rw[amK];rfl
theorem anF(hm:300<=m)(hD:um N u A)(j:Int)(o:Bool){c:Int}(hc:c≠0)(M:iM)(L:aH)(k:Int->Bool->Int->iM->aH->Option α):
  Wj A m j o c u M L k=k 0 o c M L:=by
 rw[auO,hD.at _ _ _ _ _ hc,ahj hm (by decide)];rfl
theorem aeB(hn:rD N v u)(hm:300<=m)(hA:xW N v u f i A){j:Nat}(hf:j<f)(hj:j<N)(hb:j<i){s:MS}(hs:eF N v i s)(k:Int->Bool->Int->iM->aH->Option α):
  Ip (λ(g:Nat) s'=>k (g:Int) false 0 (mapOf s'.1) (aZ s'.2)) (λo c M L=>k 0 o c M L)
   (Wj A m (j:Int) false 0 u (mapOf s.1) (aZ s.2) k) (mG (eY (nd u) f) j s):=by
 rw[auO]
 unfold mG
 refine Ip.bind (hn.good hf hj hb hs) (hA j 0 s hb (by omega) hs _) (λz s' ⟨_,hz,_,_⟩=> ?_) (λo c M L hc=>⟨o,M,L,ahj hm (by decide) _⟩)
 exact ahj hm (dB hz) _
theorem asS(hn:rD N v u)(hm:300<=m)(hA:xW N v u f i A){j:Nat}(hf:j<f)(hj:j<N)(hb:j<i)
  (k1:Int->Bool->Int->iM->aH->Option α):∀(d w F:Nat) {s:MS},w+d=41->d<F->eF N v i s->
  Ip (λ(g:Nat) s'=>k1 (g:Int) false 0 (mapOf s'.1) (aZ s'.2)) (λo c M L=>k1 0 o c M L)
   (Dj A (pJ m) (eU m) (j:Int) u k1 (λo x M L=>k1 0 o 7 M L) F (w:Int) false 0 (mapOf s.1) (aZ s.2)) (mF (eY (nd u) f) j d w s)
 |0,w,F,s,hw,hF,hs=>by
  obtain⟨F,rfl⟩:∃n,F=n+1:=⟨F-1,by omega⟩
  rw[V3,dF (by omega),cond_false]
  exact⟨_,_,_,rfl⟩
 |d+1,w,F,s,hw,hF,hs=>by
  obtain⟨F,rfl⟩:∃n,F=n+1:=⟨F-1,by omega⟩
  rw[V3,dT (by omega),cond_true,show IntKind.wrap .i64 ((w:Int)+2)=((w+2:Nat):Int) by rw[bP (by omega) (by omega)];rfl]
  unfold mF
  refine Ip.bind (hn.good hf hj hb hs) (hA j (w+2) s hb (by omega) hs _) (λz s' ⟨_,hz,_,hs'⟩=> ?_) (λo c M L hc=>⟨o,M,L, ?_⟩)
  .rw[jv,cond_false,ahs hm (dB hz),Am]
   by_cases h5:5<=z.natAbs
   .rw[dT h5,cond_true,if_pos h5];exact rfl
   .rw[dF h5,cond_false,if_neg h5,show IntKind.wrap .i64 ((w:Int)+1)=((w+1:Nat):Int) by rw[bP (by omega) (by omega)];rfl]
    exact asS hn hm hA hf hj hb k1 d (w+1) F (by omega) (by omega) hs'
  .rw[gH o hc];rfl
theorem acv(hn:rD N v u)(hA:xW N v u f i A)(hD:um N u A)(hf:i<=f)(hi:i<=N){a b n:Nat}(ha:a<i)(hb:b<i)(hn1:n<=1000){s:MS}(hs:eF N v i s)(x1 x2 x3 x4 x5:Int)(h1:x2=(a:Int))(h2:x3=(b:Int))
  {k:Bool->List Int->Bool->Int->iM->aH->Option α} (K:Bool->List Int->Bool->List Int->Bool->Int->iM->aH->Option α) {g:Int->Int->MR Int}
  (hok:∀x y s',x.natAbs<=iV->y.natAbs<=iV->eF N v i s'->Ir N k (K (zs x) (zl x) (zs y) (zl y) false 0 (mapOf s'.1) (aZ s'.2)) (g x y s'))
  (hdead:∀x y o c M L,x.natAbs<=iV->y.natAbs<=iV->c≠0->Dd N k c (K (zs x) (zl x) (zs y) (zl y) o c M L)):
  Ir N k (Y1 A m x1 x2 x3 x4 x5 (n:Int) false 0 u (mapOf s.1) (aZ s.2) K) (dm (eY (nd u) f a n) (λx=>dm (eY (nd u) f b n) λy=>g x y) s):=by
 subst h1;subst h2
 rw[axt]
 refine Ir.bind (hn.good (by omega) (by omega) ha hs) (hA a n s ha hn1 hs _) (λx s' ⟨_,hx,_,hs'⟩=> ?_) (λo c M L hc=> ?_)
 .refine Ir.bind (hn.good (by omega) (by omega) hb hs') (hA b n s' hb hn1 hs' _) (λy s2 ⟨_,hy,_,hs2⟩=> ?_) (λo c M L hc=> ?_)
  .exact hok x y s2 hx hy hs2
  .exact hdead x 0 o c M L hx (by decide) hc
 .rw[hD.at _ _ _ _ _ hc]
  exact hdead 0 0 o c M L (by decide) (by decide) hc
abbrev KRu(α:Type):Type:=Bool->List Int->Bool->Int->iM->aH->Option α
theorem aGw(hn:rD N v u)(hm:300<=m)(hA:xW N v u f i A)(hD:um N u A)(hf:i<=f)(hi:i<N){n:Nat}(hn1:n<=160)(hk:kd (nd u i)=4){s:MS}(hs:eF N v i s)(x1 x2 x3 x4 x5:Int)(h2:x2=(xa (nd u i):Int))(h3:x3=(xb (nd u i):Int))(k:KRu α):
  Ir N k (Y6 A m x1 x2 x3 x4 x5 (n:Int) false 0 u (mapOf s.1) (aZ s.2) k) (bJ (eY (nd u) f) (nd u i) n s):=by
 have hx:=hn.ok i hi
 have h40:=hn.n40
 have ha:=hx.a ⟨by omega,by omega⟩
 have hb:=hx.b (.inl (by omega))
 simp only[bJ,hk,Int.reduceEq,↓reduceIte]
 subst h2;subst h3
 rw[axF]
 generalize xa (nd u i)=ja at*
 generalize xb (nd u i)=jb at*
 refine Ir.bind (hn.grow hf (by omega) ha hs) (aeB hn hm hA (by omega) (by omega) ha hs _) (λga s1 ⟨g1,hs1⟩=> ?_) (λo c M L hc=> ?_)
 rotate_left
 .rw[anF (N:=N) hm hD _ _ hc,hD.at _ _ _ _ _ hc,hD.at _ _ _ _ _ hc,gH _ hc,cond_true];exact⟨_,_,_,_,_,rfl⟩
 refine Ir.bind (hn.grow hf (by omega) hb hs1) (aeB hn hm hA (by omega) (by omega) hb hs1 _) (λgb s2 ⟨g2,hs2⟩=> ?_) (λo c M L hc=> ?_)
 rotate_left
 .rw[hD.at _ _ _ _ _ hc,hD.at _ _ _ _ _ hc,gH _ hc,cond_true];exact⟨_,_,_,_,_,rfl⟩
 rw[wrN (by omega),wr3 (by omega)]
 refine Ir.bind (hn.good (by omega) (by omega) ha hs2) (hA ja (n+gb+3) s2 ha (by omega) hs2 _) (λp s3 ⟨_,p2,_,hs3⟩=> ?_) (λo c M L hc=> ?_)
 rotate_left
 .rw[hD.at _ _ _ _ _ hc,gH _ hc,cond_true];exact⟨_,_,_,_,_,rfl⟩
 rw[wrN (by omega),wr3 (by omega)]
 refine Ir.bind (hn.good (by omega) (by omega) hb hs3) (hA jb (n+ga+3) s3 hb (by omega) hs3 _) (λq s4 ⟨_,q2,_,hs4⟩=> ?_) (λo c M L hc=> ?_)
 rotate_left
 .rw[gH _ hc,cond_true];exact⟨_,_,_,_,_,rfl⟩
 rw[jv,cond_false,an4,an5 hm (dB p2) (dB q2),wrN (by omega),wr6 (by omega)]
 refine Ir.fit (λhpq hfit=> ?_) (λhfit=> ?_)
 .rw[hfit,cond_true,EY,E5 hm false hpq]
  unfold E8
  by_cases h:n+ga+gb+6<=191
  .rw[if_pos h,if_pos h];exact Ir.pure rfl
  .rw[if_neg h,if_neg h];exact Ir.over _ _ _ _ rfl
 .rw[hfit,cond_false,show([0,0,0,0,0,0]:List Int)=zl 0 from rfl,show(false:Bool)=zs 0 from rfl,EY,E5 hm true (x:=0) (by decide)]
  by_cases h:n+ga+gb+6<=191
  .rw[if_pos h];exact⟨_,_,_,0,_,_,rfl,rfl⟩
  .rw[if_neg h];exact⟨_,_,_,0,_,_,rfl,rfl⟩
theorem aGy(hn:rD N v u)(hm:300<=m)(hA:xW N v u f i A)(hD:um N u A)(hf:i<=f)(hi:i<N){n:Nat}(hn1:n<=160)(hk:kd (nd u i)=5){s:MS}(hs:eF N v i s)(x1 x2 x3 x4 x5:Int)(h2:x2=(xa (nd u i):Int))(h3:x3=(xb (nd u i):Int))(k:KRu α):
  Ir N k (Y8 A m x1 x2 x3 x4 x5 (n:Int) false 0 u (mapOf s.1) (aZ s.2) k) (bJ (eY (nd u) f) (nd u i) n s):=by
 have hx:=hn.ok i hi
 have h40:=hn.n40
 have ha:=hx.a ⟨by omega,by omega⟩
 have hb:=hx.b (.inl (by omega))
 simp only[bJ,hk,Int.reduceEq,↓reduceIte]
 subst h2;subst h3
 rw[axJ,ayz]
 generalize xa (nd u i)=ja at*
 generalize xb (nd u i)=jb at*
 refine Ir.bind (hn.away hf (by omega) hb 41 0 (by omega) hs) (asS hn hm hA (by omega) (by omega) hb _ 41 0 m (by omega) (by omega) hs) (λkk s1 ⟨w1,w2,hs1⟩=> ?_) (λo c M L hc=> ?_)
 rotate_left
 .rw[gH _ hc,cond_true];exact⟨_,_,_,_,_,rfl⟩
 rw[jv,cond_false]
 refine Ir.bind (hn.grow hf (by omega) ha hs1) (aeB hn hm hA (by omega) (by omega) ha hs1 _) (λga s2 ⟨g2,hs2⟩=> ?_) (λo c M L hc=> ?_)
 rotate_left
 .rw[hD.at _ _ _ _ _ hc,hD.at _ _ _ _ _ hc,gH _ hc,cond_true];exact⟨_,_,_,_,_,rfl⟩
 rw[wrN (by omega),wr3 (by omega)]
 refine Ir.bind (hn.good (by omega) (by omega) ha hs2) (hA ja (n+kk+3) s2 ha (by omega) hs2 _) (λp s3 ⟨_,p2,_,hs3⟩=> ?_) (λo c M L hc=> ?_)
 rotate_left
 .rw[hD.at _ _ _ _ _ hc,gH _ hc,cond_true];exact⟨_,_,_,_,_,rfl⟩
 rw[wrN (by omega),wrD (by omega),wrN (by omega),wr4 (by omega)]
 refine Ir.bind (hn.good (by omega) (by omega) hb hs3) (hA jb (n+ga+2*kk+4) s3 hb (by omega) hs3 _) (λq s4 ⟨q1,q2,_,hs4⟩=> ?_) (λo c M L hc=> ?_)
 rotate_left
 .rw[gH _ hc,cond_true];exact⟨_,_,_,_,_,rfl⟩
 have hq:=BU w1 q1
 have hsg:(Int.sign q==0)=false:=asA (by omega)
 rw[jv,cond_false,wrN (by omega),wr1 (by omega),up1,upI hm false (dB p2)]
 unfold upM
 by_cases h:n+ga+kk+1<=191
 .rw[if_pos h,if_pos h]
  refine Ir.fit (λhpq hfit=> ?_) (λhfit=> ?_)
  .rw[hfit,cond_true,jv,cond_false,aCs m (dB q2),hsg,cond_false,ahB,ajG m (by omega) hpq (dB q2) (by omega)]
   exact Ir.pure rfl
  .rw[hfit,cond_false,Av,cond_true];exact⟨_,_,_,3,_,_,rfl,rfl⟩
 .rw[if_neg h,if_neg h,Av,cond_true]
  exact⟨_,_,_,3,_,_,rfl,rfl⟩
end
end
theorem an1{a b:Int}:cond ((decide (kI a b<=0))==true) a b=min a b:=by
 unfold kI
 by_cases h1:a<b
 .rw[if_pos h1];show a=min a b;omega
 .rw[if_neg h1]
  by_cases h2:b<a
  .rw[if_pos h2];show b=min a b;omega
  .rw[if_neg h2];show a=min a b;omega
theorem an0{a b:Int}:cond ((decide (kI a b<=0))==false) a b=max a b:=by
 unfold kI
 by_cases h1:a<b
 .rw[if_pos h1];show b=max a b;omega
 .rw[if_neg h1]
  by_cases h2:b<a
  .rw[if_pos h2];show a=max a b;omega
  .rw[if_neg h2];show b=max a b;omega
section
variable {N:Nat} {v:Nat->Rat} {u:aH}
variable {α:Type} {f i:Nat} {A:{α:Type}->dH α} {m:Nat}
theorem oZ(hm:300<=m){x:Int}(hx:x.natAbs<aj){p:Nat}(hp:p<=191)(o:Bool)(d:Int)(g:aH)(M:iM)(L:aH)(k:Bool->List Int->Bool->Option α):
  iq m (zs x) (zl x) (p:Int) o d g M L k=k (zs (bW x p)) (zl (bW x p)) o:=by rw[EY,E5 hm o hx,if_pos hp]
theorem aoA(hn:rD N v u)(hm:300<=m)(hA:xW N v u f i A)(hD:um N u A)(hf:i<=f)(hi:i<N){n:Nat}(hn1:n<=160){s:MS}(hs:eF N v i s)(k:KRu α):
  Ir N k (g91 A m (kd (nd u i)) ((nd u i).tail.headD 0) ((nd u i).tail.tail.headD 0) (xp (nd u i)) (xq (nd u i)) (n:Int) false 0 u (mapOf s.1) (aZ s.2) k) (bJ (eY (nd u) f) (nd u i) n s):=by
 have hx:=hn.ok i hi
 have h40:=hn.n40
 have hW:=lU
 have hB:=eZ
 have hka:Cq (kd (nd u i))->xa (nd u i)<i/\(nd u i).tail.headD 0=(xa (nd u i):Int):=λh=>⟨hx.a h,hx.ea h⟩
 have hkb:Cn (kd (nd u i))->xb (nd u i)<i/\(nd u i).tail.tail.headD 0=(xb (nd u i):Int):=λh=>⟨hx.b h,hx.eb h⟩
 have hr:=hx.kr
 have hc:kd (nd u i)=1\/kd (nd u i)=2\/kd (nd u i)=3\/kd (nd u i)=4\/kd (nd u i)=5\/kd (nd u i)=6\/kd (nd u i)=7\/kd (nd u i)=8\/kd (nd u i)=9\/kd (nd u i)=10\/kd (nd u i)=11\/kd (nd u i)=12:=by omega
 have ev:∀x y:Int,(x==y)=decide (x=y):=λx y=>rfl
 rw[aFD]
 rcases hc with hk|hk|hk|hk|hk|hk|hk|hk|hk|hk|hk|hk
 .obtain⟨p1,p2,p3⟩:=hx.k1 hk
  have h9:(1000000000:Nat)<aj:=by decide
  rw[hk,show((1:Int)==1)=true from rfl,cond_true]
  simp only[bJ,hk,Int.reduceEq,↓reduceIte]
  rw[Wi _ (by omega) (by omega),up1,upI hm false (by omega)]
  unfold upM
  rw[if_pos (by omega),if_pos (by omega)]
  refine Ir.fit (λhz hfit=> ?_) (λhfit=> ?_)
  .rw[hfit,cond_true,Wi _ (by omega) (by omega),ahB,ajG m (by omega) hz (by omega) (by omega)]
   exact Ir.pure rfl
  .rw[hfit,cond_false,Wi _ (by omega) (by omega),show([0,0,0,0,0,0]:List Int)=zl 0 from rfl,show(false:Bool)=zs 0 from rfl,ahB,ajG m (by omega) (by decide) (by omega) (by omega)]
   exact⟨_,_,_,0,_,_,rfl,rfl⟩
 .obtain⟨ha,ea⟩:=hka ⟨by omega,by omega⟩
  obtain⟨hb,eb⟩:=hkb (.inl (by omega))
  rw[hk,show((2:Int)==1)=false from rfl,cond_false,show((2:Int)==2)=true from rfl,cond_true,wr2 (by omega)]
  simp only[bJ,hk,Int.reduceEq,↓reduceIte]
  refine acv hn hA hD hf (by omega) ha hb (by omega) hs _ _ _ _ _ ea eb _ (λx y s' hx hy hs'=> ?_) (λx y o c M L hx hy hc=> ?_)
  .rw[add1,ahd hm (dB hx) (dB hy)]
   refine Ir.fit (λhz hfit=> ?_) (λhfit=> ?_)
   .rw[hfit,Co hz,Bool.not_true,Bool.or_false]
    exact Ir.pure (oZ hm hz (p:=2) (by omega) _ _ _ _ _ _)
   .rw[hfit]
    exact⟨_,_,true,0,_,_,rfl,oZ hm (S9 _) (p:=2) (by omega) _ _ _ _ _ _⟩
  .rw[add1,ahd hm (dB hx) (dB hy)]
   exact⟨_,_,_,_,_,oZ hm (S9 _) (p:=2) (by omega) _ _ _ _ _ _⟩
 .obtain⟨ha,ea⟩:=hka ⟨by omega,by omega⟩
  obtain⟨hb,eb⟩:=hkb (.inl (by omega))
  rw[hk,show((3:Int)==1)=false from rfl,cond_false,show((3:Int)==2)=false from rfl,cond_false,show((3:Int)==3)=true from rfl,cond_true,wr2 (by omega)]
  simp only[bJ,hk,Int.reduceEq,↓reduceIte]
  refine acv hn hA hD hf (by omega) ha hb (by omega) hs _ _ _ _ _ ea eb _ (λx y s' hx hy hs'=> ?_) (λx y o c M L hx hy hc=> ?_)
  .rw[aAC,aAD hm (dB hx) (dB hy)]
   refine Ir.fit (λhz hfit=> ?_) (λhfit=> ?_)
   .rw[hfit,Co hz,Bool.not_true,Bool.or_false]
    exact Ir.pure (oZ hm hz (p:=2) (by omega) _ _ _ _ _ _)
   .rw[hfit]
    exact⟨_,_,true,0,_,_,rfl,oZ hm (S9 _) (p:=2) (by omega) _ _ _ _ _ _⟩
  .rw[aAC,aAD hm (dB hx) (dB hy)]
   exact⟨_,_,_,_,_,oZ hm (S9 _) (p:=2) (by omega) _ _ _ _ _ _⟩
 .obtain⟨ha,ea⟩:=hka ⟨by omega,by omega⟩
  obtain⟨hb,eb⟩:=hkb (.inl (by omega))
  have:=aGw hn hm hA hD hf hi hn1 hk hs 4 _ _ (xp (nd u i)) (xq (nd u i)) ea eb k
  rw[hk,show((4:Int)==1)=false from rfl,cond_false,show((4:Int)==2)=false from rfl,cond_false,show((4:Int)==3)=false from rfl,cond_false,show((4:Int)==6)=false from rfl,cond_false,show((4:Int)==7)=false from rfl,cond_false,
   show((4:Int)==8)=false from rfl,cond_false,show((4:Int)==9)=false from rfl,cond_false,show((4:Int)==4)=true from rfl,cond_true]
  exact this
 .obtain⟨ha,ea⟩:=hka ⟨by omega,by omega⟩
  obtain⟨hb,eb⟩:=hkb (.inl (by omega))
  have:=aGy hn hm hA hD hf hi hn1 hk hs 5 _ _ (xp (nd u i)) (xq (nd u i)) ea eb k
  rw[hk,show((5:Int)==1)=false from rfl,cond_false,show((5:Int)==2)=false from rfl,cond_false,show((5:Int)==3)=false from rfl,cond_false,show((5:Int)==6)=false from rfl,cond_false,show((5:Int)==7)=false from rfl,cond_false,
   show((5:Int)==8)=false from rfl,cond_false,show((5:Int)==9)=false from rfl,cond_false,show((5:Int)==4)=false from rfl,cond_false,show((5:Int)==5)=true from rfl,cond_true]
  exact this
 .obtain⟨ha,ea⟩:=hka ⟨by omega,by omega⟩
  rw[hk,show((6:Int)==1)=false from rfl,cond_false,show((6:Int)==2)=false from rfl,cond_false,show((6:Int)==3)=false from rfl,cond_false,show((6:Int)==6)=true from rfl,cond_true,ea]
  simp only[bJ,hk,Int.reduceEq,↓reduceIte]
  refine Ir.bind (hn.good (by omega) (by omega) ha hs) (hA (xa (nd u i)) n s ha (by omega) hs _) (λp s1 ⟨_,p2,_,hs1⟩=> ?_) (λo c M L hc=> ?_)
  .refine Ir.pure ?_
   rw[aj2 m (dB p2),Ee]
  .rw[aj2 m (by decide)]
   exact⟨_,_,_,_,_,rfl⟩
 .obtain⟨ha,ea⟩:=hka ⟨by omega,by omega⟩
  rw[hk,show((7:Int)==1)=false from rfl,cond_false,show((7:Int)==2)=false from rfl,cond_false,show((7:Int)==3)=false from rfl,cond_false,show((7:Int)==6)=false from rfl,cond_false,show((7:Int)==7)=true from rfl,cond_true,ea]
  simp only[bJ,hk,Int.reduceEq,↓reduceIte]
  refine Ir.bind (hn.good (by omega) (by omega) ha hs) (hA (xa (nd u i)) n s ha (by omega) hs _) (λp s1 ⟨_,p2,_,hs1⟩=> ?_) (λo c M L hc=> ?_)
  .exact Ir.pure (Mi false (dB p2) _)
  .exact⟨_,_,_,_,_,Mi (t:=0) false (by decide) _⟩
 .obtain⟨ha,ea⟩:=hka ⟨by omega,by omega⟩
  obtain⟨hb,eb⟩:=hkb (.inr (by omega))
  rw[hk,show((8:Int)==1)=false from rfl,cond_false,show((8:Int)==2)=false from rfl,cond_false,show((8:Int)==3)=false from rfl,cond_false,show((8:Int)==6)=false from rfl,cond_false,show((8:Int)==7)=false from rfl,cond_false,show((8:Int)==8)=true from rfl,cond_true]
  simp only[bJ,hk,Int.reduceEq,↓reduceIte]
  refine acv hn hA hD hf (by omega) ha hb (by omega) hs _ _ _ _ _ ea eb _ (λx y s' hx hy hs'=> ?_) (λx y o c M L hx hy hc=> ?_)
  .rw[acB hm (dB hx) (dB hy)]
   refine Ir.pure ?_
   rw[<-an1]
   exact qM _ (λz=>k (zs z) (zl z) false 0 (mapOf s'.1) (aZ s'.2)) x y
  .rw[acB hm (dB hx) (dB hy)]
   exact⟨_,_,o,M,L,qM _ (λz=>k (zs z) (zl z) o c M L) x y⟩
 .obtain⟨ha,ea⟩:=hka ⟨by omega,by omega⟩
  obtain⟨hb,eb⟩:=hkb (.inr (by omega))
  rw[hk,show((9:Int)==1)=false from rfl,cond_false,show((9:Int)==2)=false from rfl,cond_false,show((9:Int)==3)=false from rfl,cond_false,show((9:Int)==6)=false from rfl,cond_false,show((9:Int)==7)=false from rfl,cond_false,show((9:Int)==8)=false from rfl,cond_false,show((9:Int)==9)=true from rfl,cond_true]
  simp only[bJ,hk,Int.reduceEq,↓reduceIte]
  refine acv hn hA hD hf (by omega) ha hb (by omega) hs _ _ _ _ _ ea eb _ (λx y s' hx hy hs'=> ?_) (λx y o c M L hx hy hc=> ?_)
  .rw[acB hm (dB hx) (dB hy)]
   refine Ir.pure ?_
   rw[<-an0]
   exact qM _ (λz=>k (zs z) (zl z) false 0 (mapOf s'.1) (aZ s'.2)) x y
  .rw[acB hm (dB hx) (dB hy)]
   exact⟨_,_,o,M,L,qM _ (λz=>k (zs z) (zl z) o c M L) x y⟩
 .obtain⟨ha,ea⟩:=hka ⟨by omega,by omega⟩
  rw[hk,show((10:Int)==1)=false from rfl,cond_false,show((10:Int)==2)=false from rfl,cond_false,show((10:Int)==3)=false from rfl,cond_false,show((10:Int)==6)=false from rfl,cond_false,show((10:Int)==7)=false from rfl,cond_false,show((10:Int)==8)=false from rfl,cond_false,show((10:Int)==9)=false from rfl,cond_false,
   show((10:Int)==4)=false from rfl,cond_false,show((10:Int)==5)=false from rfl,cond_false,show((10:Int)==10)=true from rfl,cond_true,ea,wrD (by omega),wr6 (by omega)]
  simp only[bJ,hk,Int.reduceEq,↓reduceIte]
  refine Ir.bind (hn.good (by omega) (by omega) ha hs) (hA (xa (nd u i)) (2*n+6) s ha (by omega) hs _) (λp s1 ⟨_,p2,_,hs1⟩=> ?_) (λo c M L hc=> ?_)
  .refine Ir.pure ?_
   by_cases hp:p<0
   .rw[show zs p=true from decide_eq_true hp,cond_true,if_pos hp];rfl
   .have hle:=aas p.natAbs
    rw[show zs p=false from decide_eq_false hp,cond_false,if_neg hp,avA hm (dB p2),vB,Mi false (by omega),cond_false,<-vB]
    exact oZ hm (nb (by omega)) (p:=3) (by omega) _ _ _ _ _ _
  .rw[show zs 0=false from rfl,cond_false,avA hm (by decide),vB,Mi false (by decide),cond_false,<-vB]
   exact⟨_,_,_,_,_,oZ hm (by decide) (p:=3) (by omega) _ _ _ _ _ _⟩
 .rw[hk,show((11:Int)==1)=false from rfl,cond_false,show((11:Int)==2)=false from rfl,cond_false,show((11:Int)==3)=false from rfl,cond_false,show((11:Int)==6)=false from rfl,cond_false,show((11:Int)==7)=false from rfl,cond_false,show((11:Int)==8)=false from rfl,cond_false,show((11:Int)==9)=false from rfl,cond_false,
   show((11:Int)==4)=false from rfl,cond_false,show((11:Int)==5)=false from rfl,cond_false,show((11:Int)==10)=false from rfl,cond_false,show((11:Int)==11)=true from rfl,cond_true,piI 0 u _ _ hm hn1]
  simp only[bJ,hk,Int.reduceEq,↓reduceIte]
  generalize piZ n=z
  exact Ir.pure rfl
 .rw[hk,show((12:Int)==1)=false from rfl,cond_false,show((12:Int)==2)=false from rfl,cond_false,show((12:Int)==3)=false from rfl,cond_false,show((12:Int)==6)=false from rfl,cond_false,show((12:Int)==7)=false from rfl,cond_false,show((12:Int)==8)=false from rfl,cond_false,show((12:Int)==9)=false from rfl,cond_false,
   show((12:Int)==4)=false from rfl,cond_false,show((12:Int)==5)=false from rfl,cond_false,show((12:Int)==10)=false from rfl,cond_false,show((12:Int)==11)=false from rfl,cond_false,av9 0 u _ _ hm hn1]
  simp only[bJ,hk,Int.reduceEq,↓reduceIte]
  generalize yx n=z
  exact Ir.pure rfl
theorem IX(M:List (Nat×Nat×Int))(i n:Nat):tO [.i16, .i16] (mapOf M) [(i:Int),(n:Int)]=(jM M i n).map λz=>(zs z,zl z,()):=by
 induction M with
 |nil=>rfl
 |cons e r ih=>
  obtain⟨a,b,z⟩:=e
  simp only[jM]
  show cond (((i:Int)==(a:Int))&&(((n:Int)==(b:Int))&&true)) _ (tO [.i16, .i16] (mapOf r) [(i:Int),(n:Int)])=_
  by_cases ha:a=i
  .by_cases hb:b=n
   .subst ha;subst hb
    rw[if_pos ⟨rfl,rfl⟩,beq_self_eq_true,beq_self_eq_true];rfl
   .rw[if_neg (λh=>hb h.2),show((n:Int)==(b:Int))=false from by simp;omega,Bool.false_and,Bool.and_false,cond_false,ih]
  .rw[if_neg (λh=>ha h.1),show((i:Int)==(a:Int))=false from by simp;omega,Bool.false_and,cond_false,ih]
theorem asw{β:Type}(ks:List IntKind)(l:List (List Int×β))(key:List Int)(x:β)(h:tO ks l key=none):DL ks l key x=l++[(key,x)]:=by
 induction l with
 |nil=>rfl
 |cons p r ih=>
  simp only[tO] at h
  simp only[DL]
  cases hk:eqK ks key p.1 with
  |true=>rw[hk] at h;cases h
  |false=>rw[hk,cond_false] at h;rw[cond_false,ih h];rfl
theorem anW{M d:List (Nat×Nat×Int)}{i n:Nat}(h:jM M i n=none)(hd:∀e∈d,e.1<i):jM (M++d) i n=none:=by
 induction M with
 |nil=>
  induction d with
  |nil=>rfl
  |cons e r ih=>
   simp only[List.nil_append,jM]
   have:=hd e (by simp)
   rw[if_neg (λh=>by omega)]
   exact ih (λe he=>hd e (by simp[he]))
 |cons e r ih=>
  simp only[List.cons_append,jM] at h|-
  split at h
  .cases h
  .rename_i he
   rw[if_neg he];exact ih h
theorem Ir.wrap{P:Int->MS->Prop}{K:KRu α}{E:Int->MS->Option α}{D:Bool->Int->iM->aH->Option α}{x:Option α}{r:Except Int (Int×MS)}{j n:Nat}(ho:Eh P r)(h:Ir N K x r)
  (hE:∀z s',P z s'->K (zs z) (zl z) false 0 (mapOf s'.1) (aZ s'.2)=E z (s'.1++[(j,n,z)],s'.2)) (hD:∀b l o c' M L,fcO o c'≠0->K b l o c' M L=D o (fcO o c') M L):
  Ip E D x (match(generalizing:=false) r with| .ok (z,s')=> .ok (z,(s'.1++[(j,n,z)],s'.2))| .error c=> .error c):=by
 cases r with
 |ok r=>obtain⟨z,s'⟩:=r;exact(show x=_ from h).trans (hE z s' ho)
 |error c=>
  obtain⟨b,l,o,c',M,L,hc,h⟩:=h
  have ho:c=3\/c=7:=ho
  refine⟨o,M,L,h.trans ?_⟩
  rw[hD b l o c' M L (by omega),hc]
theorem asc{M:List (Nat×Nat×Int)}{i n:Nat}(z:Int)(h:jM M i n=none):DL [.i16, .i16] (mapOf M) [(i:Int),(n:Int)] (zs z,zl z,())=mapOf (M++[(i,n,z)]):=by
 rw[asw _ _ _ _ (by rw[IX,h];rfl)]
 simp[mapOf]
theorem apu(m:Nat):um N u (λ{α}=>y_ (α:=α) (m+1)):=by
 intro β j n o c M L hc k
 dsimp only
 rw[auw,gH o hc,cond_true];rfl
theorem Gw(hn:rD N v u):∀(f m b:Nat),f+400<=m->b<=N->b<=f->xW N v u f b (λ{α}=>y_ (α:=α) m)
 |0,m,b,hm,hb,hf=>λj n s hj _ _=>by omega
 |f+1,m,b,hm,hb,hf=>by
  intro j n s hj hn1 hs k
  obtain⟨m,rfl⟩:∃M,m=M+1:=⟨m-1,by omega⟩
  have h40:=hn.n40
  have hul:=hn.len
  obtain⟨hlog,hmem⟩:=hs.short h40
  dsimp only
  rw[auw,jv,cond_false]
  unfold eY
  cases hk:jM s.1 j n with
  |some z=>
   have hn2:n<=160:=(hs.ent _ (yQ hk)).2.1
   rw[dF (by omega),cond_false]
   dsimp only
   rw[m_ (by omega)]
   unfold W9 Xc
   rw[IX,hk]
   show k (zs z) (xC 6 (zl z)) false 0 u _ _=_
   rw[DV 6 _ (O1 z)]
  |none=>
   by_cases h160:160<n
   .rw[dT (by omega),cond_true]
    show Ip _ _ _ (if 160<n then _ else _)
    rw[if_pos h160]
    exact⟨false,_,_,rfl⟩
   .rw[dF (by omega),cond_false]
    dsimp only
    rw[if_neg h160,m_ (by omega)]
    unfold W9
    rw[IX,hk,show(Option.map (λz=>(zs z,zl z,())) (none:Option Int)).isSome=false from rfl,cond_false,aeM,if_pos (by omega),if_pos (by omega),Int.toNat_natCast,if_pos (by omega),aeN]
    have hs1:=hs.ask hj (by omega) (by omega) hk
    obtain⟨M,rfl⟩:∃M,m=M+1:=⟨m-1,by omega⟩
    refine Ir.wrap (LC (hn.aeA (f:=f) (i:=j) (by omega) (by omega)) (hn.ok j (by omega)).toNdOk (hn.val j (by omega)) (n:=n) (by omega) hs1) (aoA hn (m:=M+1) (by omega) (Gw hn f (M+1) j (by omega) (by omega) (by omega)) (apu (N:=N) M) (by omega) (by omega) (by omega) hs1 _) (λz s' ⟨_,_,_,d,l,e1,e2,e3,_⟩=> ?_) (λb l o c' M' L hc=> ?_)
    .rw[jv,cond_false,asc z (by rw[e1];exact anW hk e3)]
    .by_cases h0:c'=0
     .subst h0
      cases o with
      |false=>exact absurd rfl hc
      |true=>rw[Av,cond_true];rfl
     .rw[gH o h0,cond_true,ahT o h0];rfl
end
theorem five{x:List Int}(h:x.length=5):[x.headD 0,x.tail.headD 0,x.tail.tail.headD 0,x.tail.tail.tail.headD 0,x.tail.tail.tail.tail.headD 0]=x:=by
 match x,h with
 |[a,b,c,d,e],_=>rfl
structure avL (u:List (List Int)):Prop where
 len:u.length<=1048576
 five:∀x∈u,x.length=5
theorem avL.at{u:List (List Int)}(h:avL u){i:Nat}(hi:i<u.length):(u[i]'hi).length=5:=h.five _ (List.getElem_mem hi)
def tV(kd a b p q v:Int):Prop:=
 (kd=1/\a=0/\b=0/\-1000000000<=p/\p<=1000000000/\1<=q/\q<=1000000000)\/
 ((2<=kd/\kd<=5\/kd=8\/kd=9)/\0<=a/\a<v/\0<=b/\b<v/\p=0/\q=0)\/
 ((kd=6\/kd=7\/kd=10)/\0<=a/\a<v/\b=0/\p=0/\q=0)\/
 ((kd=11\/kd=12)/\a=0/\b=0/\p=0/\q=0)
theorem aai{α:Type}(m:Nat)(x lo hi:Int)(k:Bool->Option α):Kr m x lo hi k=k (decide (lo<=x/\x<=hi)):=by
 show cond (decide (x>=lo)) (k (decide (x<=hi))) (k false)=_
 rw[uG];congr 1
 by_cases h1:x>=lo<;>by_cases h2:x<=hi<;>simp[h1,h2]
theorem arz{α:Type}(m:Nat)(x lo hi:Int)(k:Bool->Option α):Td m x lo hi k=k (decide (lo<=x/\x<=hi)):=aai m x lo hi k
def two(kd:Int):Bool:=decide (2<=kd/\kd<=5\/kd=8\/kd=9)
def gy(kd:Int):Bool:=decide (kd=6\/kd=7\/kd=10)
theorem aru{α:Type}(m:Nat)(x:Int)(k:Bool->Option α):Mr m x k=k (gy x):=by
 show cond (x==6) (k true) (cond (x==7) (k true) (k (x==10)))=_
 rw[uG,uG];congr 1
 rw[Bool.eq_iff_iff]
 by_cases h1:x=6<;>by_cases h2:x=7<;>by_cases h3:x=10<;>simp[h1,h2,h3,gy]
theorem afQ{α:Type}(m:Nat)(x:Int)(k:Bool->Option α):xM m x k=k (two x):=by
 show cond (decide (x>=2)) (cond (decide (x<=5)) (k true) (cond (x==8) (k true) (k (x==9)))) (cond (x==8) (k true) (k (x==9)))=_
 simp only[uG k];congr 1
 by_cases h1:x>=2<;>by_cases h2:x<=5<;>by_cases h3:x=8<;>by_cases h4:x=9<;>simp[h1,h2,h3,h4,two]<;>omega
theorem aD_{α:Type}(m:Nat){x:Int}(h1:-32768<=x)(h2:x<=32767)(v:Int)(u:Bool)(k:Bool->Option α):g53 m x v u k=k (cond u (decide (0<=x/\x<v)) (decide (x=0))):=by
 show cond (!u) (k (x==0)) (cond (decide (x>=0)) (k (decide (IntKind.wrap .i64 x<v))) (k false))=_
 rw[bP (by omega) (by omega)]
 simp only[uG k];congr 1
 cases u
 .by_cases h:x=0<;>simp[h]
 .by_cases h:x>=0<;>by_cases h':x<v<;>simp[h,h']
theorem aHq{α:Type}(m:Nat)(kd p q:Int)(k:Bool->Option α):g52 m kd p q k=k (decide (kd=1/\-1000000000<=p/\p<=1000000000/\1<=q/\q<=1000000000\/kd≠1/\p=0/\q=0)):=by
 show cond (kd==1) (Kr m p (-1000000000) 1000000000 (λb=>cond b (Kr m q 1 1000000000 (λb=>k b)) (k false))) (cond (p==0) (k (q==0)) (k false))=_
 rw[aai,aai]
 simp only[uG k];congr 1
 rw[Bool.eq_iff_iff]
 by_cases h:kd=1
 .subst h;simp[Bool.cond_eq_ite];omega
 .by_cases h1:p=0<;>by_cases h2:q=0<;>simp[h,h1,h2]
theorem yM{α:Type}(m:Nat)(kd:Int)(k:Bool->Bool->Bool->Option α):kG m kd k=k (two kd||gy kd) (two kd) (decide (kd=1)):=by
 show cond (kd==1) (k false false true) (cond (kd==2) (k true true false) (cond (kd==3) (k true true false) (cond (kd==4) (k true true false) (cond (kd==5) (k true true false) (cond (kd==8) (k true true false) (cond (kd==9) (k true true false)
  (cond (kd==6) (k true false false) (cond (kd==7) (k true false false) (cond (kd==10) (k true false false) (k false false false))))))))))=_
 by_cases h:1<=kd/\kd<=10
 .have:kd=1\/kd=2\/kd=3\/kd=4\/kd=5\/kd=6\/kd=7\/kd=8\/kd=9\/kd=10:=by omega
  rcases this with rfl|rfl|rfl|rfl|rfl|rfl|rfl|rfl|rfl|rfl<;>rfl
 .have hb:∀c:Int,1<=c->c<=10->(kd==c)=false:=λc h1 h2=>by
   have:kd≠c:=by omega
   simpa using this
  rw[hb 1 (by omega) (by omega),hb 2 (by omega) (by omega),hb 3 (by omega) (by omega),hb 4 (by omega) (by omega),hb 5 (by omega) (by omega),hb 6 (by omega) (by omega),hb 7 (by omega) (by omega),hb 8 (by omega) (by omega),hb 9 (by omega) (by omega),hb 10 (by omega) (by omega)]
  have h1:two kd=false:=dF (by omega)
  have h2:gy kd=false:=dF (by omega)
  have h3:decide (kd=1)=false:=dF (by omega)
  rw[h1,h2,h3];rfl
theorem anL{α:Type}(m:Nat)(v:Int){kd a b p q:Int}(ha:-32768<=a/\a<=32767)(hb:-32768<=b/\b<=32767)(K:Bool->Option α)(hok:Decidable (tV kd a b p q v)):
  kG m kd (λb1 b2 b3=>cond (decide (kd<1)) (K false) (cond (decide (kd>12)) (K false) (g52 m kd p q (λr=>cond (!r) (K false) (g53 m a v b1 (λr=>cond (!r) (K false) (g53 m b v b2 (λr=>cond (!r) (K false) (K true)))))))))=
   K (@decide (tV kd a b p q v) hok):=by
 rw[yM,aHq,aD_ m ha.1 ha.2,aD_ m hb.1 hb.2]
 simp only[uG K];congr 1
 by_cases h:1<=kd/\kd<=12
 .have:kd=1\/kd=2\/kd=3\/kd=4\/kd=5\/kd=6\/kd=7\/kd=8\/kd=9\/kd=10\/kd=11\/kd=12:=by omega
  rw[dF (show¬kd<1 by omega),dF (show¬kd>12 by omega),cond_false,cond_false,Bool.eq_iff_iff]
  rcases this with rfl|rfl|rfl|rfl|rfl|rfl|rfl|rfl|rfl|rfl|rfl|rfl<;>simp[tV,two,gy,Bool.cond_eq_ite]<;>omega
 .have hn:¬tV kd a b p q v:=by unfold tV;omega
  rw[decide_eq_false hn]
  by_cases h1:kd<1
  .rw[dT h1];rfl
  .rw[dF h1,dT (show kd>12 by omega)];rfl
theorem aoL{α:Type}(m:Nat){i:Nat}{v:Int}(hv:0<=v/\v<=2000000){u:List (List Int)}(hi:i<u.length){kd a b p q:Int}(hx:List.getD u i []=[kd,a,b,p,q])(ha:-32768<=a/\a<=32767)(hb:-32768<=b/\b<=32767)
  (K:Bool->Option α) (hok:Decidable (tV kd a b p q v)):g95 m i v u K=K (@decide (tV kd a b p q v) hok):=by
 unfold g95 azW
 simp only[if_pos hi,hx,List.headD_cons,List.tail_cons,aru,afQ,arz,bP (show-9223372036854775808<=a by omega) (by omega),bP (show-9223372036854775808<=b by omega) (by omega),bP (show-9223372036854775808<=v-(1:Int) by omega) (by omega),uG K]
 congr 1
 by_cases h:1<=kd/\kd<=12
 .have:kd=1\/kd=2\/kd=3\/kd=4\/kd=5\/kd=6\/kd=7\/kd=8\/kd=9\/kd=10\/kd=11\/kd=12:=by omega
  rw[dF (show¬kd<1 by omega),dF (show¬kd>12 by omega),cond_false,cond_false,Bool.eq_iff_iff]
  rcases this with rfl|rfl|rfl|rfl|rfl|rfl|rfl|rfl|rfl|rfl|rfl|rfl<;>simp[tV,two,gy,Bool.cond_eq_ite]<;>omega
 .have hn:¬tV kd a b p q v:=by unfold tV;omega
  rw[decide_eq_false hn]
  by_cases h1:kd<1
  .rw[dT h1];rfl
  .rw[dF h1,dT (show kd>12 by omega)];rfl
structure kH (u:List (List Int)):Prop extends avL u where
 parts:∀x∈u,∃kd a b p q,x=[kd,a,b,p,q]/\(-32768<=a/\a<=32767)/\(-32768<=b/\b<=32767)/\(-128<=kd/\kd<=127)/\(-9223372036854775808<=p/\p<=9223372036854775807)/\(-9223372036854775808<=q/\q<=9223372036854775807)
def aX(u:List (List Int))(i:Nat):Prop:=∀j,i<=j->j<u.length->tV ((List.getD u j []).headD 0) ((List.getD u j []).tail.headD 0) ((List.getD u j []).tail.tail.headD 0) ((List.getD u j []).tail.tail.tail.headD 0) ((List.getD u j []).tail.tail.tail.tail.headD 0) j
theorem E9{u:List (List Int)}{i:Nat}(hi:i<u.length):aX u i↔tV ((List.getD u i []).headD 0) ((List.getD u i []).tail.headD 0) ((List.getD u i []).tail.tail.headD 0) ((List.getD u i []).tail.tail.tail.headD 0) ((List.getD u i []).tail.tail.tail.tail.headD 0) i/\aX u (i+1):=by
 constructor
 .intro h;exact⟨h i (Nat.le_refl _) hi,λj h1 h2=>h j (by omega) h2⟩
 .rintro ⟨h1,h2⟩ j hj hl
  by_cases e:j=i
  .subst e;exact h1
  .exact h2 j (by omega) hl
open Classical in
theorem aEn{α:Type}(q:Nat)(u:List (List Int))(kF kT:Option α)(m:Nat)(v:Int):NQ (g95 q) u kF kT (m+1) v=
  cond (decide (v<((u.length:Nat):Int))) (if 0<=v/\v<(u.length:Nat) then g95 q v.toNat v u (λb=>cond (!b) kF (NQ (g95 q) u kF kT m (IntKind.wrap .i64 (v+(1:Int))))) else none) kT:=by kernel_rfl
open Classical in
theorem adW{α:Type}(q cap:Nat){u:List (List Int)}(hu:kH u)(kF kT:Option α):∀(d i m:Nat),i+d=u.length->d<m->
  NQ (g95 q) u kF kT m (i:Int)=cond (decide (aX u i)) kT kF
 |0,i,m,hi,hm=>by
  obtain⟨m,rfl⟩:∃n,m=n+1:=⟨m-1,by omega⟩
  rw[aEn,dF (by omega),cond_false,decide_eq_true (show aX u i from λj h1 h2=>by omega),cond_true]
 |d+1,i,m,hi,hm=>by
  obtain⟨m,rfl⟩:∃n,m=n+1:=⟨m-1,by omega⟩
  have hlen:=hu.len
  have h1:i<u.length:=by omega
  obtain⟨kd,a,b,p,r,hx,ha,hb,_⟩:=hu.parts _ (List.getElem_mem h1)
  have hg:List.getD u i []=[kd,a,b,p,r]:=by rw[getD_at u [] h1,hx]
  rw[aEn,dT (show(i:Int)<((u.length:Nat):Int) by omega),cond_true,if_pos ⟨by omega,by omega⟩,Int.toNat_natCast,aoL q (hi:=h1) ⟨by omega,by omega⟩ hg ha hb _ (Classical.propDecidable _),iK (by omega),adW q cap hu kF kT d (i+1) m (by omega) (by omega)]
  refine UI (p:=aX u i) ?_ kT kF
  rw[E9 h1,hg];rfl
open Classical in
theorem aqQ{α:Type}(m cap:Nat){u:List (List Int)}(hu:kH u)(hm:u.length<m)(k:Bool->Option α):Ta m u k=k (decide ((1<=u.length/\u.length<=40)/\aX u 0)):=by
 show Td m ((u.length:Nat):Int) 1 40 (λb=>cond (!b) (k false) (NQ (g95 m) u (k false) (k true) m ((0:Nat):Int)))=_
 rw[arz,adW m cap hu _ _ u.length 0 m (by omega) hm]
 by_cases h1:1<=u.length/\u.length<=40
 .rw[dT (by omega),Bool.not_true,cond_false]
  by_cases h2:aX u 0<;>simp[h1,h2]
 .rw[dF (by omega),Bool.not_false,cond_true,decide_eq_false (λh=>h1 h.1)]
open Classical in
theorem aCm{α:Type}(q:Nat)(w:Int)(u:List (List Int))(kF kT:Option α)(m:Nat)(v:Int):NF (kG q) (g52 q) (g53 q) w u kF kT (m+1) v=
  cond (decide (v<w)) (if 0<=v/\v<(u.length:Nat) then(if v.toNat<u.length then
   kG q ((List.getD u v.toNat []).headD 0) (λb1 b2 b3=>cond (decide ((List.getD u v.toNat []).headD 0<1)) kF (cond (decide ((List.getD u v.toNat []).headD 0>12)) kF
    (g52 q ((List.getD u v.toNat []).headD 0) ((List.getD u v.toNat []).tail.tail.tail.headD 0) ((List.getD u v.toNat []).tail.tail.tail.tail.headD 0) (λr=>cond (!r) kF
     (g53 q ((List.getD u v.toNat []).tail.headD 0) v b1 (λr=>cond (!r) kF (g53 q ((List.getD u v.toNat []).tail.tail.headD 0) v b2 (λr=>cond (!r) kF
      (NF (kG q) (g52 q) (g53 q) w u kF kT m (IntKind.wrap .i64 (v+(1:Int)))))))))))) else none) else none) kT:=by kernel_rfl
open Classical in
theorem adp{α:Type}(q cap:Nat){u:List (List Int)}(hu:kH u)(kF kT:Option α):∀(d i m:Nat),i+d=u.length->d<m->
  NF (kG q) (g52 q) (g53 q) ((u.length:Nat):Int) u kF kT m (i:Int)=cond (decide (aX u i)) kT kF
 |0,i,m,hi,hm=>by
  obtain⟨m,rfl⟩:∃n,m=n+1:=⟨m-1,by omega⟩
  rw[aCm,dF (by omega),cond_false,decide_eq_true (show aX u i from λj h1 h2=>by omega),cond_true]
 |d+1,i,m,hi,hm=>by
  obtain⟨m,rfl⟩:∃n,m=n+1:=⟨m-1,by omega⟩
  have hlen:=hu.len
  have h1:i<u.length:=by omega
  obtain⟨kd,a,b,p,r,hx,ha,hb,_⟩:=hu.parts _ (List.getElem_mem h1)
  have hg:List.getD u i []=[kd,a,b,p,r]:=by rw[getD_at u [] h1,hx]
  rw[aCm,dT (show(i:Int)<((u.length:Nat):Int) by omega),cond_true,if_pos ⟨by omega,by omega⟩,Int.toNat_natCast,if_pos h1,iK (by omega),adp q cap hu kF kT d (i+1) m (by omega) (by omega)]
  have hcd:=UI (p:=aX u i) (E9 h1) kT kF
  rw[hg] at hcd|-
  exact(anL q (i:Int) ha hb (λb=>cond (!b) kF (cond (decide (aX u (i+1))) kT kF)) (Classical.propDecidable _)).trans hcd
open Classical in
theorem Zx{α:Type}(m cap:Nat){u:List (List Int)}(hu:kH u)(hm:u.length<m)(k:Bool->Option α):g16 m u k=k (decide ((1<=u.length/\u.length<=40)/\aX u 0)):=by
 show cond (decide (((u.length:Nat):Int)<1)) (k false) (cond (decide (((u.length:Nat):Int)>40)) (k false) (NF (kG m) (g52 m) (g53 m) ((u.length:Nat):Int) u (k false) (k true) m ((0:Nat):Int)))=_
 rw[adp m cap hu _ _ u.length 0 m (by omega) hm]
 by_cases h1:1<=u.length/\u.length<=40
 .rw[dF (by omega),dF (by omega),cond_false,cond_false]
  by_cases h2:aX u 0<;>simp[h1,h2]
 .rw[decide_eq_false (p:=(1<=u.length/\u.length<=40)/\aX u 0) (λh=>h1 h.1)]
  by_cases h2:u.length<1
  .rw[dT (by omega),cond_true]
  .rw[dF (by omega),cond_false,dT (by omega),cond_true]
theorem Mf{v w:Nat->Rat}{x:List Int}(ha:Cq (kd x)->v (xa x)=w (xa x))(hb:Cn (kd x)->v (xb x)=w (xb x)):X9 v x=X9 w x:=by
 unfold X9
 unfold Cq at ha
 unfold Cn at hb
 by_cases k1:kd x=1
 .rw[if_pos k1,if_pos k1]
 rw[if_neg k1,if_neg k1]
 by_cases k2:kd x=2
 .rw[if_pos k2,if_pos k2,ha (by omega),hb (by omega)]
 rw[if_neg k2,if_neg k2]
 by_cases k3:kd x=3
 .rw[if_pos k3,if_pos k3,ha (by omega),hb (by omega)]
 rw[if_neg k3,if_neg k3]
 by_cases k4:kd x=4
 .rw[if_pos k4,if_pos k4,ha (by omega),hb (by omega)]
 rw[if_neg k4,if_neg k4]
 by_cases k5:kd x=5
 .rw[if_pos k5,if_pos k5,ha (by omega),hb (by omega)]
 rw[if_neg k5,if_neg k5]
 by_cases k6:kd x=6
 .rw[if_pos k6,if_pos k6,ha (by omega)]
 rw[if_neg k6,if_neg k6]
 by_cases k7:kd x=7
 .rw[if_pos k7,if_pos k7,ha (by omega)]
 rw[if_neg k7,if_neg k7]
 by_cases k8:kd x=8
 .rw[if_pos k8,if_pos k8,ha (by omega),hb (by omega)]
 rw[if_neg k8,if_neg k8]
 by_cases k9:kd x=9
 .rw[if_pos k9,if_pos k9,ha (by omega),hb (by omega)]
 rw[if_neg k9,if_neg k9]
 by_cases k10:kd x=10
 .rw[if_pos k10,if_pos k10,ha (by omega)]
 rw[if_neg k10,if_neg k10]
theorem GR{X:Nat->List Int}{N:Nat}(hX:∀i,i<N->NdOk (X i) i):∀(f g i:Nat),i<N->i<f->i<g->agL X f i=agL X g i
 |0,_,i,_,h,_=>by omega
 |_+1,0,i,_,_,h=>by omega
 |f+1,g+1,i,hi,hf,hg=>by
  have hx:=hX i hi
  exact Mf (λh=>GR hX f g _ (by have:=hx.a h;omega) (by have:=hx.a h;omega) (by have:=hx.a h;omega)) (λh=>GR hX f g _ (by have:=hx.b h;omega) (by have:=hx.b h;omega) (by have:=hx.b h;omega))
theorem sQ{u:aH}(h40:u.length<=40)(hu:aX u 0):rD u.length (λi=>agL (nd u) (i+1) i) u:=by
 have ok:∀i,i<u.length->NdR (nd u i) i:=λi hi=>by
  have h:tV (kd (nd u i)) ((nd u i).tail.headD 0) ((nd u i).tail.tail.headD 0) (xp (nd u i)) (xq (nd u i)) i:=hu i (by omega) hi
  unfold tV at h
  have ea:xa (nd u i)=((nd u i).tail.headD 0).toNat:=rfl
  have eb:xb (nd u i)=((nd u i).tail.tail.headD 0).toNat:=rfl
  refine⟨⟨λh1=> ?_,λh1=> ?_,λh1=> ?_⟩, ?_,λh1=> ?_,λh1=> ?_⟩<;>(try unfold Cq at h1)<;>(try unfold Cn at h1)<;>omega
 refine⟨h40,rfl,ok,λi hi=> ?_⟩
 have hx:=(ok i hi).toNdOk
 have hX:∀i,i<u.length->NdOk (nd u i) i:=λi hi=>(ok i hi).toNdOk
 exact Mf (λh=>GR hX _ _ _ (by have:=hx.a h;omega) (by have:=hx.a h;omega) (by omega)) (λh=>GR hX _ _ _ (by have:=hx.b h;omega) (by have:=hx.b h;omega) (by omega))
def rE(u:aH):Prop:=(1<=u.length/\u.length<=40)/\aX u 0
open Classical in
theorem uE{α:Type}(m:Nat){u:aH}(hu:kH u)(hm:1048576<m)(p q:Int)(k:Int->Option α):
  NK m p q u k=if rE u then(if(0<=p/\p<u.length)/\0<=q/\q<=64 then k 0 else k 2) else k 1:=by
 have h2:=hu.len
 rw[aDF,aqQ m 0 hu (by omega)]
 by_cases hu0:rE u
 .have hu1:(1<=u.length/\u.length<=40)/\aX u 0:=hu0
  rw[dT hu1,if_pos hu0,Bool.not_true,cond_false,aFi,arz,bP (by omega) (by omega)]
  by_cases hp:0<=p/\p<u.length
  .rw[dT (by omega),Bool.not_true,cond_false,aFm,arz]
   by_cases hq:0<=q/\q<=64
   .rw[dT hq,Bool.not_true,cond_false,if_pos ⟨hp,hq⟩]
   .rw[dF hq,if_neg (λh=>hq h.2)];rfl
  .rw[dF (by omega),if_neg (λh=>hp h.1)];rfl
 .have hu1:¬((1<=u.length/\u.length<=40)/\aX u 0):=hu0
  rw[dF hu1,if_neg hu0];rfl
open Classical in
theorem nH{α:Type}(m:Nat){u:aH}(hu:kH u)(hm:1048576<m)(p q w:Int)(k1:Int->Option α)(k:iM->aH->Option α):
  EP m q w 0 1 1 u [p] k1 k=if rE u then(if(0<=p/\p<u.length)/\0<=q/\q<=w then k [] [] else k1 2) else k1 1:=by
 have h2:=hu.len
 obtain⟨f,rfl⟩:∃f,m=f+2:=⟨m-2,by omega⟩
 rw[aDO,Zx (f+2) 0 hu (by omega)]
 by_cases hu0:rE u
 .have hu1:(1<=u.length/\u.length<=40)/\aX u 0:=hu0
  rw[dT hu1,if_pos hu0,Bool.not_true,cond_false,aFs,show f+2=(f+1)+1 from rfl,aej,dT (by omega),cond_true,if_pos (by omega),if_pos (by decide),aai,bP (x:=((u.length:Nat):Int)-1) (by omega) (by omega)]
  by_cases hp:0<=p/\p<u.length
  .rw[dT (show 0<=List.getD [p] (0+(0:Int).toNat) 0/\List.getD [p] (0+(0:Int).toNat) 0<=((u.length:Nat):Int)-1 by
     show 0<=p/\p<=((u.length:Nat):Int)-1;omega),Bool.not_true,cond_false,aej,show IntKind.wrap .i64 ((0:Int)+1)=1 from by decide,dF (by omega),cond_false,cond_false,aai]
   by_cases hq:0<=q/\q<=w
   .rw[dT hq,Bool.not_true,cond_false,aFw,if_pos ⟨hp,hq⟩]
   .rw[dF hq,if_neg (λh=>hq h.2)];rfl
  .rw[dF (show¬(0<=List.getD [p] (0+(0:Int).toNat) 0/\List.getD [p] (0+(0:Int).toNat) 0<=((u.length:Nat):Int)-1) by
     show¬(0<=p/\p<=((u.length:Nat):Int)-1);omega),if_neg (λh=>hp h.1)];rfl
 .have hu1:¬((1<=u.length/\u.length<=40)/\aX u 0):=hu0
  rw[dF hu1,if_neg hu0];rfl
theorem aow(N:Nat):(List.replicate N []:gN)=rowsOf N ([]:List (Nat×Nat×Int)):=by
 unfold rowsOf
 refine List.ext_getElem (by simp) λi h1 h2=> ?_
 simp
abbrev ms0:MS:=([],[])
theorem avX{α:Type}(m:Nat)(u:aH)(h:u.length<=40)(k:Nat->Nat->gN->aH->Option α):Z0 m u k=k u.length u.length (rowsOf u.length ms0.1) (aZ ms0.2):=by
 rw[aDI,if_pos ⟨rfl,by omega,by omega⟩]
 dsimp only
 rw[aow];rfl
theorem inv0(N:Nat)(v:Nat->Rat)(b:Nat):eF N v b ms0:=⟨by simp,by simp,by simp,by simp,by simp,by simp⟩
theorem Yw{β:Type}{P:β->MS->Prop}{r:Except Int (β×MS)}{c:Int}(ho:Eh P r)(hr:r= .error c):c≠0:=by
 subst hr
 have ho:c=3\/c=7:=ho
 omega
section
variable {u:aH} {m:Nat}
open Classical in
theorem anG(hU:kH u)(hm:1048576<m)(p:Int):∃x c,0<=x/\(∀{α:Type} (k:Int->Int->Option α),g26 m p u k=k x c)/\
  (∀{α:Type} (k:Int->Int->Option α),g25 m p u k=k x c):=by
 by_cases hok:rE u
 .by_cases hp:0<=p/\p<u.length
  .have hn:=sQ hok.1.2 hok.2
   obtain⟨j,rfl⟩:∃j:Nat,p=j:=⟨p.toNat,by omega⟩
   have hj:j<u.length:=by omega
   have h40:=hok.1.2
   have ho:=hn.grow (f:=u.length) (Nat.le_refl _) (Nat.le_refl _) hj (inv0 _ _ _)
   have hS:=λ{α:Type} (k:Int->Int->Nat->Nat->Nat->gN->aH->Option α)=>aeC hn (show 300<=m by omega) (GN hn u.length m u.length (by omega) (Nat.le_refl _) (Nat.le_refl _)) hj hj hj (inv0 _ _ _) k
   have hI:=λ{α:Type} (k:Int->Bool->Int->iM->aH->Option α)=>aeB hn (show 300<=m by omega) (Gw hn u.length m u.length (by omega) (Nat.le_refl _) (Nat.le_refl _)) hj hj hj (inv0 _ _ _) k
   have s0:∀{α:Type} (k:Int->Int->Option α),g26 m (j:Int) u k=Yf (λ{α}=>xL m) m (j:Int) 0 u.length u.length u (rowsOf u.length ms0.1) (aZ ms0.2) (λx c _ _ _ _ _=>k x c):=λk=>by
    rw[amh,uE m hU hm,if_pos hok,if_pos ⟨hp,by omega,by omega⟩,zc,avX m u h40]
   have i0:∀{α:Type} (k:Int->Int->Option α),g25 m (j:Int) u k=Wj (λ{α}=>y_ m) m (j:Int) false 0 u (mapOf ms0.1) (aZ ms0.2) (λx b c M L=>pJ m b c u M L (λb x'=>cond b (k 0 x') (k x 0))):=λk=>by
    rw[amf,nH m hU hm,if_pos hok,if_pos ⟨hp,by omega,by omega⟩,m_ (by omega)];rfl
   cases hr:mG (eY (nd u) u.length) j ms0 with
   |ok r=>
    obtain⟨g,s'⟩:=r
    rw[hr] at hS hI
    refine⟨(g:Int),0,by omega,λk=>(s0 k).trans (hS _),λk=>(i0 k).trans ((hI _).trans ?_)⟩
    exact jv _ _ _
   |error c=>
    have hc:=Yw ho hr
    rw[hr] at hS hI
    refine⟨0,c,by omega,λk=>(s0 k).trans ?_,λk=>(i0 k).trans ?_⟩
    .obtain⟨R,L,h⟩:=hS (λx c _ _ _ _ _=>k x c)
     exact h
    .obtain⟨o,M,L,h⟩:=hI (λx b c M L=>pJ m b c u M L (λb x'=>cond b (k 0 x') (k x 0)))
     exact h.trans (gH o hc _ _ _)
  .refine⟨0,2,by omega,λk=> ?_,λk=> ?_⟩
   .rw[amh,uE m hU hm,if_pos hok,if_neg (λh=>hp h.1)];rfl
   .rw[amf,nH m hU hm,if_pos hok,if_neg (λh=>hp h.1)];rfl
 .refine⟨0,1,by omega,λk=> ?_,λk=> ?_⟩
  .rw[amh,uE m hU hm,if_neg hok];rfl
  .rw[amf,nH m hU hm,if_neg hok];rfl
open Classical in
theorem apj(hok:rE u)(hm:1048576<m){j n:Nat}(hj:j<u.length)(hn1:n<=1000):
  (∃(z:Int) (s':MS),z.natAbs<aj/\s'.2.length<=6440/\(∀q∈s'.2,q.1<u.length/\q.2<=160)/\
   (∀{α:Type} (k:Bool->List Int->Int->Nat->Nat->Nat->aH->gN->aH->Option α),xL m (j:Int) (n:Int) 0 u.length u.length u (rowsOf u.length ms0.1) (aZ ms0.2) k=
    k (zs z) (zl z) 0 0 u.length u.length u (rowsOf u.length s'.1) (aZ s'.2))/\
   (∀{α:Type} (k:Bool->List Int->Bool->Int->aH->iM->aH->Option α),y_ m (j:Int) (n:Int) false 0 u (mapOf ms0.1) (aZ ms0.2) k=
    k (zs z) (zl z) false 0 u (mapOf s'.1) (aZ s'.2)))\/
  ∃c:Int,c≠0/\
   (∀{α:Type} (k:Bool->List Int->Int->Nat->Nat->Nat->aH->gN->aH->Option α),∃R L,xL m (j:Int) (n:Int) 0 u.length u.length u (rowsOf u.length ms0.1) (aZ ms0.2) k=
    k false [0,0,0,0,0,0] c 0 u.length u.length u R L)/\
   (∀{α:Type} (k:Bool->List Int->Bool->Int->aH->iM->aH->Option α),∃o M L,y_ m (j:Int) (n:Int) false 0 u (mapOf ms0.1) (aZ ms0.2) k=
    k (zs 0) (zl 0) o c u M L):=by
 have hn:=sQ hok.1.2 hok.2
 have h40:=hok.1.2
 have ho:=hn.good (f:=u.length) (n:=n) hj hj hj (inv0 _ _ _)
 have hS:=λ{α:Type} (k:Bool->List Int->Int->Nat->Nat->Nat->aH->gN->aH->Option α)=>(GN hn u.length m u.length (by omega) (Nat.le_refl _) (Nat.le_refl _)) j n ms0 hj hn1 (inv0 _ _ _) k
 have hI:=λ{α:Type} (k:Bool->List Int->Bool->Int->aH->iM->aH->Option α)=>(Gw hn u.length m u.length (by omega) (Nat.le_refl _) (Nat.le_refl _)) j n ms0 hj hn1 (inv0 _ _ _) k
 cases hr:eY (nd u) u.length j n ms0 with
 |ok r=>
  obtain⟨z,s'⟩:=r
  rw[hr] at hS hI ho
  obtain⟨_,h1,_,h2⟩:=ho
  exact .inl ⟨z,s',dB h1,(h2.short h40).1,h2.log,hS,hI⟩
 |error c=>
  have hc:=Yw ho hr
  rw[hr] at hS hI
  exact .inr ⟨c,hc,hS,hI⟩
end
theorem tH{x:Int}(h1:-32768<=x)(h2:x<=32767):IntKind.wrap .i16 x=x:=by
 have:IntKind.wrap .i16 x=if(x%65536)>=32768 then x%65536-65536 else x%65536:=by
  simp[IntKind.wrap,IntKind.bits,IntKind.signed]
 rw[this]
 split<;>omega
def KZ(f:Int->Int)(kd a:Int):Int:=cond (two kd||gy kd) (f a) a
def K3(f:Int->Int)(kd b:Int):Int:=cond (two kd) (f b) b
def sO(f:Int->Int)(x:List Int):List Int:=[x.headD 0,KZ f (x.headD 0) (x.tail.headD 0),K3 f (x.headD 0) (x.tail.tail.headD 0),x.tail.tail.tail.headD 0,x.tail.tail.tail.tail.headD 0]
def tX(kd a n:Int):Prop:=(two kd||gy kd)=true->0<=a/\a<n
def tY(kd b n:Int):Prop:=two kd=true->0<=b/\b<n
theorem asq{kd a b p q v:Int}(h:tV kd a b p q v):tX kd a v/\tY kd b v:=by
 unfold tX tY two gy
 rcases h with⟨rfl,_⟩|⟨h,h1,h2,h3,h4,_⟩|⟨h,h1,h2,_⟩|⟨h,_⟩
 .exact⟨λh=>by simp at h,λh=>by simp at h⟩
 .exact⟨λ_=>⟨h1,h2⟩,λ_=>⟨h3,h4⟩⟩
 .refine⟨λ_=>⟨h1,h2⟩,λh2=> ?_⟩
  simp only[decide_eq_true_eq] at h2
  omega
 .refine⟨λh2=> ?_,λh2=> ?_⟩
  .simp only[Bool.or_eq_true,decide_eq_true_eq] at h2
   omega
  .simp only[decide_eq_true_eq] at h2
   omega
theorem wR{f g:Int->Int}{kd a:Int}(h:(two kd||gy kd)=true->f a=g a):KZ f kd a=KZ g kd a:=by
 unfold KZ
 cases hk:(two kd||gy kd) with
 |true=>exact h hk
 |false=>rfl
theorem wS{f g:Int->Int}{kd b:Int}(h:two kd=true->f b=g b):K3 f kd b=K3 g kd b:=by
 unfold K3
 cases hk:two kd with
 |true=>exact h hk
 |false=>rfl
theorem aaB{f:List Int->List Int}(u:List (List Int)){i:Nat}(h:i<u.length):(u.map f)[i]'(by simpa using h)=f (List.getD u i []):=by simp[List.getD,h]
theorem kg{u:List (List Int)}(h:aX u 0){i:Nat}(hi:i<u.length):tX ((List.getD u i []).headD 0) ((List.getD u i []).tail.headD 0) i/\tY ((List.getD u i []).headD 0) ((List.getD u i []).tail.tail.headD 0) i:=
 asq (h i (by omega) hi)
def fI(idx:List Int)(a:Int):Int:=IntKind.wrap .i16 (List.getD idx a.toNat 0)
theorem aAl{α:Type}(m:Nat){kd a b p q:Int}{idx:List Int}(hA:tX kd a idx.length)(hB:tY kd b idx.length)(k:Int->Int->Option α):oP m kd a b p q idx k=k (KZ (fI idx) kd a) (K3 (fI idx) kd b):=by
 rw[aqM]
 simp only[aru,afQ]
 unfold tX at hA
 unfold tY at hB
 unfold KZ K3 fI
 cases h1:gy kd<;>cases h2:two kd
 .rfl
 .rw[h2] at hA hB
  simp only[Bool.true_or,true_implies] at hA hB
  simp only[cond_true,cond_false,Bool.true_or]
  rw[if_pos hA,if_pos (by omega),if_pos hB,if_pos (by omega)]
 .rw[h1,h2] at hA
  simp only[Bool.or_true,true_implies] at hA
  simp only[cond_true,cond_false,Bool.or_true]
  rw[if_pos hA,if_pos (by omega)]
 .rw[h2] at hA hB
  simp only[Bool.true_or,true_implies] at hA hB
  simp only[cond_true,cond_false,Bool.true_or]
  rw[if_pos hA,if_pos (by omega),if_pos hB,if_pos (by omega)]
def RP(n1 n2:Nat):List Int:=(List.range n2).map λ(i:Nat)=>((n1+i:Nat):Int)
theorem uX(n1 n2:Nat):(RP n1 n2).length=n2:=by simp[RP]
theorem aeD(n1:Nat){n2 i:Nat}(h:i<n2):(RP n1 n2)[i]'(by rw[uX];exact h)=((n1+i:Nat):Int):=by simp[RP]
theorem aBx{n1 n2:Nat}(hn:n1+n2<=40){a:Int}(h0:0<=a)(h1:a<n2):fI (RP n1 n2) a=a+n1:=by
 have hl:a.toNat<(RP n1 n2).length:=by rw[uX];omega
 unfold fI
 rw[getD_at _ _ hl,aeD n1 (by omega),tH (by omega) (by omega)];omega
def joined(t u:List (List Int)):List (List Int):=t++u.map (sO λa=>a+t.length)
theorem lM(t u:List (List Int)):(joined t u).length=t.length+u.length:=by simp[joined]
theorem Uv(t l:List (List Int)){i:Nat}(h:i<l.length):t++l.take i++[l[i]]=t++l.take (i+1):=by rw[List.append_assoc,OP l h]
open Classical in
theorem aF6{α:Type}(m:Nat){t u:List (List Int)}(ht:kH t)(hu:kH u)(hm:1048576<m)(ht0:rE t)(hu0:rE u)(hs:t.length+u.length<=40)(k:Int->List (List Int)->Option α):
  g22 m t u k=k 0 (joined t u):=by
 have h1:=ht.len
 have h2:=hu.len
 have hJ:=uX t.length u.length
 rw[aCT,aqQ m 0 ht (by omega),dT (show(1<=t.length/\t.length<=40)/\aX t 0 from ht0),Bool.not_true,cond_false,aqQ m 0 hu (by omega),dT (show(1<=u.length/\u.length<=40)/\aX u 0 from hu0),Bool.not_true,cond_false,bP (by omega) (by omega),dF (by omega),cond_false]
 have:=mH (λm' i=>NH t u (λl5151=>if 0+t.length<=67108864 then J5 (oP m) t u l5151 (λl5191=>k (0:Int) l5191) m (0:Int) t else none) m' (i:Int) ((RP t.length u.length).take i)) (λ_=>k 0 (joined t u)) u.length (λm'=> ?_) (λm' i hi h=> ?_) u.length 0 m (by omega) (by omega)
 .simpa using this
 .rw[ady,dF (by omega),cond_false,if_pos (by omega),List.take_of_length_le (l:=RP t.length u.length) (by omega)]
  have:=mH (λm' i=>J5 (oP m) t u (RP t.length u.length) (λl=>k 0 l) m' (i:Int) (t++(u.map (sO λa=>a+t.length)).take i)) (λ_=>k 0 (joined t u)) u.length
   (λm'=> ?_) (λm' i hi h=> ?_) u.length 0 m (by omega) (by omega)
  .simpa using this
  .have hml:(u.map (sO λa=>a+t.length)).length=u.length:=by simp
   rw[adA,dF (by omega),cond_false,List.take_of_length_le (by omega)];rfl
  .obtain⟨hA,hB⟩:=kg hu0.2 hi
   rw[adA,dT (by omega),cond_true,if_pos (bV hi),Int.toNat_natCast,if_pos hi]
   dsimp only
   rw[aAl m (λh=>by have:=hA h;rw[hJ];omega) (λh=>by have:=hB h;rw[hJ];omega),if_pos (by rw[List.length_append,List.length_take];omega),iK (by omega),
    wR (g:=λa=>a+t.length) (λh=>aBx hs (hA h).1 (by have:=(hA h).2;omega)),wS (g:=λa=>a+t.length) (λh=>aBx hs (hB h).1 (by have:=(hB h).2;omega))]
   have e:[(List.getD u i []).headD 0,KZ (λa=>a+t.length) ((List.getD u i []).headD 0) ((List.getD u i []).tail.headD 0),K3 (λa=>a+t.length) ((List.getD u i []).headD 0) ((List.getD u i []).tail.tail.headD 0),
     (List.getD u i []).tail.tail.tail.headD 0,(List.getD u i []).tail.tail.tail.tail.headD 0]=(u.map (sO λa=>a+t.length))[i]'(by simpa using hi):=(aaB (f:=sO λa=>a+t.length) u hi).symm
   rw[e,Uv _ _ (by simpa using hi)]
   exact h
 .rw[ady,dT (by omega),cond_true,if_pos (by rw[List.length_take];omega),bP (x:=((t.length:Nat):Int)+(i:Int)) (by omega) (by omega),show((t.length:Nat):Int)+(i:Int)=((t.length+i:Nat):Int) by omega,iK (by omega),
   <-aeD t.length hi,OP _ (by rw[hJ];exact hi)]
  exact h
theorem aAj{α:Type}(m:Nat)(u:List (List Int))(kd a b p q:Int)(k:Int->Int->Option α):
  tL m kd a b p q u k=k (KZ (λx=>IntKind.wrap .i16 (x+IntKind.wrap .i16 u.length)) kd a) (K3 (λx=>IntKind.wrap .i16 (x+IntKind.wrap .i16 u.length)) kd b):=by
 rw[aqF,yM]
 simp only[aEA]
 unfold KZ K3
 cases two kd||gy kd<;>cases two kd<;>rfl
open Classical in
theorem aF5{α:Type}(m:Nat){t u:List (List Int)}(ht:kH t)(hu:kH u)(hm:1048576<m)(ht0:rE t)(hu0:rE u)(hs:t.length+u.length<=40)(k1:Int->Option α)(k:List (List Int)->Option α):
  g21 m t u k1 k=k (joined t u):=by
 have h1:=ht.len
 have h2:=hu.len
 have h3:=ht0.1
 rw[aCQ,Zx m 0 ht (by omega),dT (show(1<=t.length/\t.length<=40)/\aX t 0 from ht0),Bool.not_true,cond_false,Zx m 0 hu (by omega),dT (show(1<=u.length/\u.length<=40)/\aX u 0 from hu0),Bool.not_true,cond_false,bP (by omega) (by omega),dF (by omega),cond_false,
  aEu,if_pos (by omega),if_pos (by omega)]
 have hml:(u.map (sO λa=>a+t.length)).length=u.length:=by simp
 have:=mH (λm' i=>NG (tL m) ((u.length:Nat):Int) t u (λl=>k l) m' (i:Int) (t++(u.map (sO λa=>a+t.length)).take i)) (λ_=>k (joined t u)) u.length
  (λm'=> ?_) (λm' i hi h=> ?_) u.length 0 m (by omega) (by omega)
 .simpa using this
 .rw[adv,dF (by omega),cond_false,List.take_of_length_le (by omega)];rfl
 .obtain⟨hA,hB⟩:=kg hu0.2 hi
  rw[adv,dT (by omega),cond_true,if_pos (bV hi),Int.toNat_natCast,if_pos hi]
  dsimp only
  rw[aAj,if_pos (by rw[List.length_append,List.length_take];omega),iK (by omega),tH (x:=((t.length:Nat):Int)) (by omega) (by omega),
   wR (g:=λa=>a+t.length) (λh=>tH (by have:=hA h;omega) (by have:=hA h;omega)),wS (g:=λa=>a+t.length) (λh=>tH (by have:=hB h;omega) (by have:=hB h;omega))]
  have e:[(List.getD u i []).headD 0,KZ (λa=>a+t.length) ((List.getD u i []).headD 0) ((List.getD u i []).tail.headD 0),K3 (λa=>a+t.length) ((List.getD u i []).headD 0) ((List.getD u i []).tail.tail.headD 0),
    (List.getD u i []).tail.tail.tail.headD 0,(List.getD u i []).tail.tail.tail.tail.headD 0]=(u.map (sO λa=>a+t.length))[i]'(by simpa using hi):=(aaB (f:=sO λa=>a+t.length) u hi).symm
  rw[e,Uv _ _ (by simpa using hi)]
  exact h
def mM(y:List Int)(v0 v1 v2 v3 v4:Int):Bool:=((y.headD 0)==v0)&&(((y.tail.headD 0)==v1)&&(((y.tail.tail.headD 0)==v2)&&(((y.tail.tail.tail.headD 0)==v3)&&((y.tail.tail.tail.tail.headD 0)==v4))))
def yU(P:Nat->Bool):Nat->Nat->Nat
 |0,i=>i
 |d+1,i=>cond (P i) i (yU P d (i+1))
theorem ae0(P:Nat->Bool):∀d i,i<=yU P d i/\yU P d i<=i+d
 |0,i=>⟨Nat.le_refl _,Nat.le_refl _⟩
 |d+1,i=>by
  have h:=ae0 P d (i+1)
  simp only[yU]
  cases P i<;>simp only[cond_true,cond_false]<;>omega
def MI(l:List (List Int))(v0 v1 v2 v3 v4:Int):Nat:=yU (λi=>mM (List.getD l i []) v0 v1 v2 v3 v4) l.length 0
theorem asv(l:List (List Int))(v0 v1 v2 v3 v4:Int):MI l v0 v1 v2 v3 v4<=l.length:=by
 have:=(ae0 (λi=>mM (List.getD l i []) v0 v1 v2 v3 v4) l.length 0).2
 unfold MI;omega
theorem Ox(P:Nat->Bool){n i:Nat}(h:i<n):yU P (n-i) i=cond (P i) i (yU P (n-(i+1)) (i+1)):=by
 have:n-i=(n-(i+1))+1:=by omega
 rw[this];rfl
theorem aGH{α:Type}(m x1 x2 x3:Nat)(v:Int)(u:List (List Int))(l:List (List Int))(n2:Nat)(idx:List Int)(v0 v1 v2 v3 v4:Int)(hl:l.length<=1000000)(hm:1048576<m)(k:Int->Option α):
  EL x1 x2 x3 v u l n2 idx v0 v1 v2 v3 v4 k m (0:Int)=k (MI l v0 v1 v2 v3 v4:Nat):=by
 have:=mH (λm' i=>EL x1 x2 x3 v u l n2 idx v0 v1 v2 v3 v4 k m' (i:Int)) (λi=>k (yU (λi=>mM (List.getD l i []) v0 v1 v2 v3 v4) (l.length-i) i:Nat)) l.length (λm'=> ?_) (λm' i hi h=> ?_) l.length 0 m (by omega) (by omega)
 .exact this
 .rw[adt,dF (by omega),cond_false,Nat.sub_self];rfl
 .rw[adt,dT (by omega),cond_true,if_pos (bV hi),Int.toNat_natCast,if_pos hi,Ox _ hi]
  show cond (!(mM (List.getD l i []) v0 v1 v2 v3 v4)) _ _=_
  cases mM (List.getD l i []) v0 v1 v2 v3 v4
  .rw[Bool.not_false,cond_true,iK (by omega),h];rfl
  .rfl
theorem aaU(y:List Int)(v0 v1 v2 v3 v4:Int):((v0==(y.headD 0))&&((v1==(y.tail.headD 0))&&((v2==(y.tail.tail.headD 0))&&((v3==(y.tail.tail.tail.headD 0))&&(v4==(y.tail.tail.tail.tail.headD 0))))))=mM y v0 v1 v2 v3 v4:=by
 unfold mM
 rw[Bool.beq_comm (a:=v0),Bool.beq_comm (a:=v1),Bool.beq_comm (a:=v2),Bool.beq_comm (a:=v3),Bool.beq_comm (a:=v4)]
theorem aGG{α:Type}(m:Nat)(l:List (List Int))(v0 v1 v2 v3 v4:Int)(hl:l.length<=1000000)(hm:1048576<m)(k:Int->Option α):
  g93 m v0 v1 v2 v3 v4 l k=k (if MI l v0 v1 v2 v3 v4<l.length then(MI l v0 v1 v2 v3 v4:Nat) else-1):=by
 rw[aFK]
 have:=mH (λm' i=>NZ ((l.length:Nat):Int) l v0 v1 v2 v3 v4 (λx=>k x) (k (-1)) m' (i:Int))
  (λi=>k (if yU (λi=>mM (List.getD l i []) v0 v1 v2 v3 v4) (l.length-i) i<l.length then(yU (λi=>mM (List.getD l i []) v0 v1 v2 v3 v4) (l.length-i) i:Nat) else-1)) l.length (λm'=> ?_) (λm' i hi h=> ?_) l.length 0 m (by omega) (by omega)
 .exact this
 .rw[aem,dF (by omega),cond_false,Nat.sub_self,if_neg (by simp[yU])]
 .rw[aem,dT (by omega),cond_true,if_pos (bV hi),Int.toNat_natCast,if_pos hi,Ox _ hi,aaU]
  cases mM (List.getD l i []) v0 v1 v2 v3 v4
  .rw[cond_false,cond_false,iK (by omega),h]
  .rw[cond_true,cond_true,if_pos hi]
def shN(u:List (List Int))(idx:List Int)(i:Nat):List Int:=sO (fI idx) (List.getD u i [])
def Sr(u:List (List Int))(s:List (List Int)×List Int)(i:Nat):Nat:=
 MI s.1 ((List.getD u i []).headD 0) (KZ (fI s.2) ((List.getD u i []).headD 0) ((List.getD u i []).tail.headD 0)) (K3 (fI s.2) ((List.getD u i []).headD 0) ((List.getD u i []).tail.tail.headD 0)) ((List.getD u i []).tail.tail.tail.headD 0) ((List.getD u i []).tail.tail.tail.tail.headD 0)
def kD(u:List (List Int))(s:List (List Int)×List Int)(i:Nat):List (List Int)×List Int:=
 (if Sr u s i<s.1.length then s.1 else s.1++[shN u s.2 i],s.2.set i ((Sr u s i:Nat):Int))
def bQ(u:List (List Int)):Nat->List (List Int)×List Int
 |0=>([],List.replicate u.length 0)
 |i+1=>kD u (bQ u i) i
theorem Ch(u:List (List Int)):∀i,(bQ u i).1.length<=i/\(bQ u i).2.length=u.length
 |0=>⟨Nat.le_refl _,by simp[bQ]⟩
 |i+1=>by
  obtain⟨h1,h2⟩:=Ch u i
  refine⟨?_,by simp[bQ,kD,h2]⟩
  simp only[bQ,kD]
  split
  .omega
  .rw[List.length_append,List.length_singleton];omega
theorem Sv(u:List (List Int))(s:List (List Int)×List Int)(i:Nat):Sr u s i<=s.1.length:=asv _ _ _ _ _ _
theorem aeT{α:Type}(m cap n:Nat){kd a b p q:Int}{idx:List Int}(hn:idx.length=n)(hA:tX kd a n)(hB:tY kd b n)(k:Int->Int->Option α):Kg m kd a b p q 0 n cap n idx k=k (KZ (fI idx) kd a) (K3 (fI idx) kd b):=by
 rw[aD4]
 simp only[aru,afQ,Nat.zero_add]
 unfold tX at hA
 unfold tY at hB
 unfold KZ K3 fI
 cases h1:gy kd<;>cases h2:two kd
 .rfl
 .rw[h2] at hA hB
  simp only[Bool.true_or,true_implies] at hA hB
  simp only[cond_true,cond_false,Bool.true_or]
  rw[if_pos hA,if_pos (by omega),if_pos hB,if_pos (by omega)]
 .rw[h1,h2] at hA
  simp only[Bool.or_true,true_implies] at hA
  simp only[cond_true,cond_false,Bool.or_true]
  rw[if_pos hA,if_pos (by omega)]
 .rw[h2] at hA hB
  simp only[Bool.true_or,true_implies] at hA hB
  simp only[cond_true,cond_false,Bool.true_or]
  rw[if_pos hA,if_pos (by omega),if_pos hB,if_pos (by omega)]
theorem asi{α:Type}(m cap n:Nat){kd a b p q:Int}{idx:List Int}(hn:idx.length=n)(hA:tX kd a n)(hB:tY kd b n)(k:Int->Int->Option α):qV m kd a b p q 0 n cap n idx k=k (KZ (fI idx) kd a) (K3 (fI idx) kd b):=by
 rw[aqB,yM]
 simp only[aFH,Nat.zero_add]
 unfold tX at hA
 unfold tY at hB
 unfold KZ K3 fI
 cases h1:gy kd<;>cases h2:two kd
 .rfl
 .rw[h2] at hA hB
  simp only[Bool.true_or,true_implies] at hA hB
  simp only[cond_true,cond_false,Bool.true_or]
  rw[if_pos hA,if_pos (by omega),if_pos hB,if_pos (by omega)]
 .rw[h1,h2] at hA
  simp only[Bool.or_true,true_implies] at hA
  simp only[cond_true,cond_false,Bool.or_true]
  rw[if_pos hA,if_pos (by omega)]
 .rw[h2] at hA hB
  simp only[Bool.true_or,true_implies] at hA hB
  simp only[cond_true,cond_false,Bool.true_or]
  rw[if_pos hA,if_pos (by omega),if_pos hB,if_pos (by omega)]
open Classical in
theorem aAy{α:Type}(m:Nat){u:List (List Int)}(hu:kH u)(hm:1048576<m)(hu0:rE u)(k1:List (List Int)->List Int->Option α)(k:Nat->Nat->List (List Int)->Nat->List Int->Option α):
  g19 m u k1 k=k u.length u.length (bQ u u.length).1 u.length (bQ u u.length).2:=by
 have h2:=hu.len
 have h40:=hu0.1.2
 rw[aCG,aqQ m 0 hu (by omega),decide_eq_true (show(1<=u.length/\u.length<=40)/\aX u 0 from hu0),Bool.not_true,cond_false,if_pos ⟨rfl,by omega,by omega⟩]
 have:=mH (λm' i=>JW (Kg m) (nS m) 0 u.length u.length u u.length (λl756 l757=>k u.length u.length l756 u.length l757) m' (i:Int) (bQ u i).1 (bQ u i).2) (λ_=>k u.length u.length (bQ u u.length).1 u.length (bQ u u.length).2) u.length
  (λm'=> ?_) (λm' i hi h=> ?_) u.length 0 m (by omega) (by omega)
 .exact this
 .rw[ads,dF (by omega),cond_false]
 .obtain⟨hA,hB⟩:=kg hu0.2 hi
  obtain⟨q1,q2⟩:=Ch u i
  rw[ads,dT (by omega),cond_true,if_pos (bV hi),Int.toNat_natCast,if_pos hi]
  dsimp only
  rw[aeT m _ _ q2 (λh=>by have:=hA h;omega) (λh=>by have:=hB h;omega),aGH m _ _ _ _ _ _ _ _ _ _ _ _ _ (by omega) hm]
  simp only[Nat.zero_add,if_pos (bV hi),if_pos hi,if_pos (show(bQ u i).1.length+1<=67108864 by omega),iK (show i<2000000000 by omega)]
  rw[<-h]
  show cond ((((Sr u (bQ u i) i:Nat):Int))==(((bQ u i).1.length:Nat):Int)) _ _=JW (Kg m) (nS m) 0 u.length u.length u u.length (λl756 l757=>k u.length u.length l756 u.length l757) m' ((i+1:Nat):Int) (kD u (bQ u i) i).1 (kD u (bQ u i) i).2
  have hle:=Sv u (bQ u i) i
  unfold kD
  by_cases hp:Sr u (bQ u i) i<(bQ u i).1.length
  .rw[show((((Sr u (bQ u i) i:Nat):Int))==(((bQ u i).1.length:Nat):Int))=false from beq_eq_false_iff_ne.2 (by omega),cond_false,if_pos hp];rfl
  .rw[show((((Sr u (bQ u i) i:Nat):Int))==(((bQ u i).1.length:Nat):Int))=true from beq_iff_eq.2 (by omega),cond_true,if_neg hp];rfl
open Classical in
theorem aoH{α:Type}(m:Nat){u:List (List Int)}(hu:kH u)(hm:1048576<m)(hu0:rE u)(k1:Option α)(k:Nat->Nat->List (List Int)->Nat->List Int->Option α):
  g18 m u k1 k=k u.length u.length (bQ u u.length).1 u.length (bQ u u.length).2:=by
 have h2:=hu.len
 have h40:=hu0.1.2
 rw[aCA,Zx m 0 hu (by omega),decide_eq_true (show(1<=u.length/\u.length<=40)/\aX u 0 from hu0),Bool.not_true,cond_false,aEk,if_pos ⟨rfl,by omega,by omega⟩]
 have:=mH (λm' i=>Ki (qV m) (g93 m) ((u.length:Nat):Int) u 0 u.length u.length u.length (λl859 l860=>k u.length u.length l859 u.length l860) m' (i:Int) (bQ u i).1 (bQ u i).2) (λ_=>k u.length u.length (bQ u u.length).1 u.length (bQ u u.length).2) u.length
  (λm'=> ?_) (λm' i hi h=> ?_) u.length 0 m (by omega) (by omega)
 .exact this
 .rw[adU,dF (by omega),cond_false]
 .obtain⟨hA,hB⟩:=kg hu0.2 hi
  obtain⟨q1,q2⟩:=Ch u i
  rw[adU,dT (by omega),cond_true,if_pos (bV hi),Int.toNat_natCast,if_pos hi]
  dsimp only
  rw[asi m _ _ q2 (λh=>by have:=hA h;omega) (λh=>by have:=hB h;omega),aGG m _ _ _ _ _ _ (by omega) hm]
  simp only[Nat.zero_add,if_pos (bV hi),if_pos hi,if_pos (show(bQ u i).1.length+1<=67108864 by omega),iK (show i<2000000000 by omega)]
  rw[<-h]
  show cond (decide ((if Sr u (bQ u i) i<(bQ u i).1.length then((Sr u (bQ u i) i:Nat):Int) else-1)<(0:Int))) _ _=Ki (qV m) (g93 m) ((u.length:Nat):Int) u 0 u.length u.length u.length (λl859 l860=>k u.length u.length l859 u.length l860) m' ((i+1:Nat):Int) (kD u (bQ u i) i).1 (kD u (bQ u i) i).2
  have hle:=Sv u (bQ u i) i
  unfold kD
  by_cases hp:Sr u (bQ u i) i<(bQ u i).1.length
  .have hp':=hp
   unfold Sr at hp'
   rw[if_pos hp,dF (by omega),cond_false,if_pos hp,if_pos hp'];rfl
  .have he:Sr u (bQ u i) i=(bQ u i).1.length:=by omega
   rw[if_neg hp,dT (by omega),cond_true,if_neg hp,he];rfl
def oC(u:List (List Int))(i:Nat):Int:=(List.getD u i []).headD 0
def aOf(u:List (List Int))(i:Nat):Int:=(List.getD u i []).tail.headD 0
def bOf(u:List (List Int))(i:Nat):Int:=(List.getD u i []).tail.tail.headD 0
def jF(u:List (List Int))(b:List Bool)(i:Nat):List Bool:=
 cond (List.getD b i false) (cond (two (oC u i)) ((cond (two (oC u i)||gy (oC u i)) (b.set (aOf u i).toNat true) b).set (bOf u i).toNat true) (cond (two (oC u i)||gy (oC u i)) (b.set (aOf u i).toNat true) b)) b
def gJ(u:List (List Int))(p:Nat):Nat->List Bool
 |0=>(List.replicate u.length false).set p true
 |t+1=>jF u (gJ u p t) (p-t)
theorem aaG(u:List (List Int))(b:List Bool)(i:Nat):(jF u b i).length=b.length:=by
 unfold jF
 cases List.getD b i false<;>cases two (oC u i)<;>cases gy (oC u i)<;>simp
theorem KV(u:List (List Int))(p:Nat):∀t,(gJ u p t).length=u.length
 |0=>by simp[gJ]
 |t+1=>by rw[gJ,aaG,KV u p t]
theorem getD_set_ne{T:Type}(l:List T)(d x:T){i j:Nat}(h:i≠j):List.getD (l.set i x) j d=List.getD l j d:=by simp[List.getD,List.getElem?_set_ne h]
theorem aga{u:List (List Int)}(b:List Bool){i j:Nat}(hA:tX (oC u i) (aOf u i) i)(hB:tY (oC u i) (bOf u i) i)(hj:i<=j):List.getD (jF u b i) j false=List.getD b j false:=by
 unfold jF
 unfold tX at hA
 unfold tY at hB
 cases hb:List.getD b i false
 .rfl
 .cases h2:two (oC u i)
  .cases h1:gy (oC u i)
   .rfl
   .rw[h1,h2] at hA
    simp only[Bool.or_true,true_implies] at hA
    simp only[cond_true,cond_false,Bool.or_true]
    exact getD_set_ne _ _ _ (by omega)
  .rw[h2] at hA hB
   simp only[Bool.true_or,true_implies] at hA hB
   simp only[cond_true,cond_false,Bool.true_or]
   rw[getD_set_ne _ _ _ (by omega),getD_set_ne _ _ _ (by omega)]
theorem RY{u:List (List Int)}(hu:aX u 0){p:Nat}(hp:p<u.length):∀(d t:Nat),t+d<=p+1->∀j,p<=j+t->List.getD (gJ u p (t+d)) j false=List.getD (gJ u p t) j false
 |0,t,_,j,_=>rfl
 |d+1,t,h,j,hj=>by
  have hi:p-(t+d)<u.length:=by omega
  obtain⟨hA,hB⟩:=kg hu hi
  rw[show t+(d+1)=t+d+1 by omega,gJ,aga _ hA hB (by omega)]
  exact RY hu hp d t (by omega) j hj
def marked(u:List (List Int))(p:Nat):List Bool:=gJ u p (p+1)
theorem Oj{u:List (List Int)}(hu:aX u 0){p t:Nat}(hp:p<u.length)(ht:t<=p):List.getD (gJ u p t) (p-t) false=List.getD (marked u p) (p-t) false:=by
 have:=RY hu hp (p+1-t) t (by omega) (p-t) (by omega)
 rw[show t+(p+1-t)=p+1 by omega] at this
 exact this.symm
theorem sM{u:List (List Int)}(hu:aX u 0){p j:Nat}(hp:p<u.length)(hj:p<j):List.getD (marked u p) j false=false:=by
 have:=RY hu hp (p+1) 0 (by omega) j (by omega)
 rw[Nat.zero_add] at this
 unfold marked
 rw[this,gJ,getD_set_ne _ _ _ (by omega)]
 by_cases h:j<u.length
 .simp[List.getD,h]
 .simp[List.getD,h]
def oz(M:List Bool)(l:List Nat):List Int:=(l.filter λj=>List.getD M j false).map λ(j:Nat)=>(j:Int)
theorem U6(M:List Bool)(l:List Nat):(oz M l).length<=l.length:=by simp[oz,List.length_filter_le]
theorem Nw(M:List Bool)(i:Nat):oz M (List.range (i+1))=cond (List.getD M i false) (oz M (List.range i)++[(i:Int)]) (oz M (List.range i)):=by
 unfold oz
 rw[List.range_succ,List.filter_append,List.map_append,List.filter_cons,List.filter_nil]
 cases List.getD M i false
 .simp only[Bool.false_eq_true,if_false,List.map_nil,List.append_nil,cond_false]
 .rfl
theorem afG(M:List Bool)(i c:Nat):oz M (List.range' i (c+1))=cond (List.getD M i false) ((i:Int)::oz M (List.range' (i+1) c)) (oz M (List.range' (i+1) c)):=by
 unfold oz
 rw[List.range'_succ,List.filter_cons]
 cases List.getD M i false<;>rfl
def pQ(u:List (List Int))(p:Nat):List Int:=oz (marked u p) (List.range u.length)
theorem Oy{u:List (List Int)}(hu:aX u 0){p:Nat}(hp:p<u.length):∀d,p+1+d<=u.length->oz (marked u p) (List.range (p+1+d))=oz (marked u p) (List.range (p+1))
 |0,_=>rfl
 |d+1,h=>by
  rw[show p+1+(d+1)=p+1+d+1 by omega,Nw,sM hu hp (by omega),cond_false]
  exact Oy hu hp d (by omega)
theorem aaR{u:List (List Int)}(hu:aX u 0){p:Nat}(hp:p<u.length):pQ u p=oz (marked u p) (List.range' 0 (p+1)):=by
 have:=Oy hu hp (u.length-(p+1)) (by omega)
 rw[show p+1+(u.length-(p+1))=u.length by omega] at this
 unfold pQ
 rw[this,List.range_eq_range']
theorem aAt{α:Type}(m:Nat){u:List (List Int)}(h40:u.length<=40)(hu:aX u 0){p:Nat}(hp:p<u.length)(hm:1048576<m)(k:List Int->Option α):g50 m (p:Int) u k=k (pQ u p):=by
 rw[aD1,if_pos ⟨rfl,by omega,by omega⟩]
 simp only[Int.toNat_natCast]
 rw[if_pos (bV hp),Nat.zero_add,if_pos hp]
 have:=mH (λm' t=>NP (Mr m) (xM m) 0 u.length u.length u u.length (λl=>k l) m' ((p:Int)-(t:Int)) (gJ u p t) (oz (marked u p) (List.range' (p+1-t) t))) (λ_=>k (pQ u p)) (p+1)
  (λm'=> ?_) (λm' t ht h=> ?_) (p+1) 0 m (by omega) (by omega)
 .simpa[gJ,oz] using this
 .rw[adP,dF (by omega),cond_false,aaR hu hp,show p+1-(p+1)=0 by omega]
 .obtain⟨i,hi⟩:∃i,i=p-t:=⟨_,rfl⟩
  have hiu:i<u.length:=by omega
  obtain⟨hA,hB⟩:=kg hu hiu
  have hml:=KV u p t
  have hmk:=Oj hu hp (show t<=p by omega)
  rw[<-hi] at hmk
  have hfl:=U6 (marked u p) (List.range' (p+1-t) t)
  rw[List.length_range'] at hfl
  have hv:(p:Int)-(t:Int)=(i:Int):=by omega
  have hv2:IntKind.wrap .i64 ((i:Int)-(1:Int))=(p:Int)-((t+1:Nat):Int):=by rw[bP (by omega) (by omega)];omega
  have hr:oz (marked u p) (List.range' (p+1-(t+1)) (t+1))=cond (List.getD (marked u p) i false) ((i:Int)::oz (marked u p) (List.range' (p+1-t) t)) (oz (marked u p) (List.range' (p+1-t) t)):=by
   rw[show p+1-(t+1)=i by omega,afG,show i+1=p+1-t by omega]
  have hst:gJ u p (t+1)=jF u (gJ u p t) i:=by rw[gJ,hi]
  rw[hr,hst] at h
  rw[hv,adP,dT (by omega),cond_true,if_pos (bV hiu),Int.toNat_natCast,Nat.zero_add,if_pos hiu,hv2]
  unfold jF at h
  unfold tX at hA
  unfold tY at hB
  rw[<-hmk] at h
  cases hb:List.getD (gJ u p t) i false
  .rw[hb] at h
   rw[Bool.not_false,cond_true]
   exact h
  .rw[hb] at h
   simp only[cond_true] at h
   have e1:(0:Int)<=(i:Int)/\(i:Int)<((u.length:Nat):Int):=bV hiu
   simp only[Bool.not_true,cond_false,if_pos e1,if_pos hiu,aru,afQ,Nat.zero_add]
   rw[if_pos (by omega)]
   unfold oC aOf bOf at h
   cases h1:gy ((List.getD u i []).headD 0)<;>cases h2:two ((List.getD u i []).headD 0)
   .rw[h1,h2] at h
    exact h
   .rw[h1,h2] at h
    rw[h2] at hA hB
    simp only[Bool.true_or,true_implies] at hA hB
    simp only[cond_true,cond_false,Bool.true_or] at h|-
    rw[if_pos (by omega),if_pos (by omega),if_pos (by omega),if_pos (by omega)]
    exact h
   .rw[h1,h2] at h
    rw[h1,h2] at hA
    simp only[Bool.or_true,true_implies] at hA
    simp only[cond_true,cond_false,Bool.or_true] at h|-
    rw[if_pos (by omega),if_pos (by omega)]
    exact h
   .rw[h1,h2] at h
    rw[h2] at hA hB
    simp only[Bool.true_or,true_implies] at hA hB
    simp only[cond_true,cond_false,Bool.true_or] at h|-
    rw[if_pos (by omega),if_pos (by omega),if_pos (by omega),if_pos (by omega)]
    exact h
theorem Xw{α:Type}(m:Nat){u:List (List Int)}(h40:u.length<=40)(hu:aX u 0){p:Nat}(hp:p<u.length)(hm:1048576<m)(k:Nat->Nat->Nat->List Bool->Option α):g47 m (p:Int) u k=k u.length u.length u.length (marked u p):=by
 rw[aDQ,if_pos ⟨rfl,by omega,by omega⟩]
 simp only[Int.toNat_natCast]
 rw[if_pos (bV hp),Nat.zero_add,if_pos hp]
 have:=mH (λm' t=>NN (kG m) 0 u.length u.length u u.length (λl=>k u.length u.length u.length l) m' ((p:Int)-(t:Int)) (gJ u p t)) (λ_=>k u.length u.length u.length (marked u p)) (p+1)
  (λm'=> ?_) (λm' t ht h=> ?_) (p+1) 0 m (by omega) (by omega)
 .simpa[gJ] using this
 .rw[adL,dF (by omega),cond_false];rfl
 .obtain⟨i,hi⟩:∃i,i=p-t:=⟨_,rfl⟩
  have hiu:i<u.length:=by omega
  obtain⟨hA,hB⟩:=kg hu hiu
  have hv:(p:Int)-(t:Int)=(i:Int):=by omega
  have hv2:IntKind.wrap .i64 ((i:Int)-(1:Int))=(p:Int)-((t+1:Nat):Int):=by rw[bP (by omega) (by omega)];omega
  have hst:gJ u p (t+1)=jF u (gJ u p t) i:=by rw[gJ,hi]
  rw[hst] at h
  rw[hv,adL,dT (by omega),cond_true,if_pos (bV hiu),Int.toNat_natCast,Nat.zero_add,if_pos hiu,hv2]
  unfold jF at h
  unfold tX at hA
  unfold tY at hB
  cases hb:List.getD (gJ u p t) i false
  .rw[hb] at h
   rw[Bool.not_false,cond_true]
   exact h
  .rw[hb] at h
   simp only[cond_true] at h
   have e1:(0:Int)<=(i:Int)/\(i:Int)<((u.length:Nat):Int):=bV hiu
   simp only[Bool.not_true,cond_false,if_pos e1,if_pos hiu,yM,Nat.zero_add]
   unfold oC aOf bOf at h
   cases h1:gy ((List.getD u i []).headD 0)<;>cases h2:two ((List.getD u i []).headD 0)
   .rw[h1,h2] at h
    exact h
   .rw[h1,h2] at h
    rw[h2] at hA hB
    simp only[Bool.true_or,true_implies] at hA hB
    simp only[cond_true,cond_false,Bool.true_or] at h|-
    rw[if_pos (by omega),if_pos (by omega),if_pos (by omega),if_pos (by omega)]
    exact h
   .rw[h1,h2] at h
    rw[h1,h2] at hA
    simp only[Bool.or_true,true_implies] at hA
    simp only[cond_true,cond_false,Bool.or_true,Bool.false_or] at h|-
    rw[if_pos (by omega),if_pos (by omega)]
    exact h
   .rw[h1,h2] at h
    rw[h2] at hA hB
    simp only[Bool.true_or,true_implies] at hA hB
    simp only[cond_true,cond_false,Bool.true_or] at h|-
    rw[if_pos (by omega),if_pos (by omega),if_pos (by omega),if_pos (by omega)]
    exact h
theorem aF_{α:Type}(m n:Nat){u:List (List Int)}(M:List Bool)(h40:n<=40)(hm:1048576<m)(k:List Int->Option α):JL 0 n n ((n:Nat):Int) u n M k m (0:Int) []=k (oz M (List.range n)):=by
 have:=mH (λm' i=>JL 0 n n ((n:Nat):Int) u n M k m' (i:Int) (oz M (List.range i))) (λ_=>k (oz M (List.range n))) n (λm'=> ?_) (λm' i hi h=> ?_) n 0 m (by omega) (by omega)
 .exact this
 .rw[adm,dF (by omega),cond_false]
 .have hfl:=U6 M (List.range i)
  rw[List.length_range] at hfl
  rw[adm,dT (by omega),cond_true,if_pos (bV hi),Int.toNat_natCast,Nat.zero_add,if_pos hi,iK (by omega)]
  rw[Nw] at h
  cases hb:List.getD M i false
  .rw[hb] at h;exact h
  .rw[hb] at h
   rw[cond_true,if_pos (by omega)]
   exact h
theorem aAs{α:Type}(m:Nat){u:List (List Int)}(hu:kH u)(hm:1048576<m)(hu0:rE u){p:Nat}(hp:p<u.length)(k1:Int->Option α)(k:List Int->Option α):g15 m (p:Int) u k1 k=k (pQ u p):=by
 rw[aCg,nH m hu hm,if_pos hu0,if_pos ⟨⟨by omega,by omega⟩,by decide,by decide⟩,Xw m hu0.1.2 hu0.2 hp hm,aF_ m _ _ hu0.1.2 hm];rfl
def lC(u:List (List Int))(s:List (List Int)×List Int)(i:Nat):List (List Int)×List Int:=
 (s.1++[sO (fI (s.2.set i ((s.1.length:Nat):Int))) (List.getD u i [])],s.2.set i ((s.1.length:Nat):Int))
def mI(u:List (List Int))(l:List Nat):List (List Int)×List Int:=l.foldl (lC u) ([],List.replicate u.length 0)
theorem Lu(u:List (List Int))(l:List Nat)(i:Nat):mI u (l++[i])=lC u (mI u l) i:=by simp[mI]
theorem ae1(u:List (List Int)):∀(l:List Nat) (s:List (List Int)×List Int),(l.foldl (lC u) s).1.length=s.1.length+l.length/\(l.foldl (lC u) s).2.length=s.2.length
 |[],s=>⟨rfl,rfl⟩
 |i::l,s=>by
  obtain⟨h1,h2⟩:=ae1 u l (lC u s i)
  rw[List.foldl_cons]
  refine⟨by rw[h1];simp[lC];omega,by rw[h2];simp[lC]⟩
theorem Sd(u:List (List Int))(l:List Nat):(mI u l).1.length=l.length/\(mI u l).2.length=u.length:=by
 obtain⟨h1,h2⟩:=ae1 u l ([],List.replicate u.length 0)
 exact⟨by unfold mI;rw[h1];simp,by unfold mI;rw[h2];simp⟩
theorem Xt(u:List (List Int)):∀(l:List Nat) (s:List (List Int)×List Int) (B:Nat),s.1.length+l.length<=B->(∀x∈s.2,0<=x/\x<=(B:Int))->∀x∈(l.foldl (lC u) s).2,0<=x/\x<=(B:Int)
 |[],s,B,_,h=>h
 |i::l,s,B,hl,h=>by
  rw[List.foldl_cons]
  simp only[List.length_cons] at hl
  refine Xt u l _ B (by simp[lC];omega) λx hx=> ?_
  simp only[lC] at hx
  rcases List.mem_or_eq_of_mem_set hx with hx|rfl
  .exact h x hx
  .omega
theorem ags(u:List (List Int))(l:List Nat){B:Nat}(hl:l.length<=B):∀x∈(mI u l).2,0<=x/\x<=(B:Int):=
 Xt u l _ B (by simpa using hl) λx hx=>by rw[List.eq_of_mem_replicate hx];omega
theorem Wy{l:List Int}{i:Nat}:List.getD l i 0∈l\/List.getD l i 0=0:=by
 by_cases h:i<l.length
 .left;rw[getD_at l 0 h];exact List.getElem_mem h
 .right;simp[List.getD,h]
theorem ahP{idx:List Int}(h:∀x∈idx,0<=x/\x<=(1000:Int))(a:Int):fI idx a=List.getD idx a.toNat 0:=by
 unfold fI
 rcases Wy (l:=idx) (i:=a.toNat) with h1|h1
 .have:=h _ h1
  exact tH (by omega) (by omega)
 .rw[h1];decide
theorem aAk{α:Type}(m cap n:Nat){kd a b p q:Int}{idx:List Int}(hs:∀x∈idx,0<=x/\x<=(1000:Int))(hn:idx.length=n)(hA:tX kd a n)(hB:tY kd b n)(k:Int->Int->Option α):g48 m kd a b p q 0 n cap n idx k=k (KZ (fI idx) kd a) (K3 (fI idx) kd b):=by
 rw[aDU,yM]
 simp only[aDY,Nat.zero_add]
 unfold tX at hA
 unfold tY at hB
 unfold KZ K3
 simp only[ahP hs]
 cases h1:gy kd<;>cases h2:two kd
 .rfl
 .rw[h2] at hA hB
  simp only[Bool.true_or,true_implies] at hA hB
  simp only[cond_true,cond_false,Bool.true_or]
  rw[if_pos hA,if_pos (by omega),if_pos hB,if_pos (by omega)]
 .rw[h1,h2] at hA
  simp only[Bool.or_true,true_implies] at hA
  simp only[cond_true,cond_false,Bool.or_true]
  rw[if_pos hA,if_pos (by omega)]
 .rw[h2] at hA hB
  simp only[Bool.true_or,true_implies] at hA hB
  simp only[cond_true,cond_false,Bool.true_or]
  rw[if_pos hA,if_pos (by omega),if_pos hB,if_pos (by omega)]
def bq(u:List (List Int))(p:Nat):List Nat:=(List.range u.length).filter λj=>List.getD (marked u p) j false
theorem yV(u:List (List Int))(p:Nat):pQ u p=(bq u p).map λ(j:Nat)=>(j:Int):=rfl
theorem aaS(u:List (List Int))(p:Nat):(bq u p).length<=u.length:=by
 have:=List.length_filter_le (λj=>List.getD (marked u p) j false) (List.range u.length)
 rw[List.length_range] at this
 exact this
theorem agw{u:List (List Int)}{p k:Nat}(h:k<(bq u p).length):(bq u p)[k]<u.length:=by
 have:=List.getElem_mem h
 unfold bq at this
 have:=(List.mem_filter.1 this).1
 exact List.mem_range.1 this
open Classical in
theorem aAq{α:Type}(m:Nat){u:List (List Int)}(hu:kH u)(hu0:rE u){p:Nat}(hp:p<u.length)(hm:1048576<m)(k:Int->List (List Int)->Option α):
  g14 m (p:Int) u k=k 0 (mI u (bq u p)).1:=by
 have h40:=hu0.1.2
 have hok:=hu0.2
 rw[aB7,uE m hu hm,if_pos hu0,if_pos ⟨⟨by omega,by omega⟩,by decide,by decide⟩,bne_self_eq_false,cond_false,aAt m h40 hok hp hm,if_pos ⟨rfl,by omega,by omega⟩]
 have hrl:(pQ u p).length=(bq u p).length:=by rw[yV];simp
 have hr40:=aaS u p
 have:=mH (λm' i=>NE (Kg m) 0 u.length u.length u (pQ u p) u.length (λl=>k 0 l) m' (i:Int) (mI u ((bq u p).take i)).2 (mI u ((bq u p).take i)).1) (λ_=>k 0 (mI u (bq u p)).1) (bq u p).length
  (λm'=> ?_) (λm' i hi h=> ?_) (bq u p).length 0 m (by omega) (by omega)
 .exact this
 .rw[adf,hrl,dF (by omega),cond_false,List.take_of_length_le (Nat.le_refl _)]
 .obtain⟨q1,q2⟩:=Sd u ((bq u p).take i)
  have hlt:=agw hi
  have hg:List.getD (pQ u p) i 0=(((bq u p)[i]:Nat):Int):=by rw[yV];simp[List.getD,hi]
  generalize hj:(bq u p)[i]=j at hlt hg
  have htl:((bq u p).take i).length=i:=by rw[List.length_take];omega
  rw[htl] at q1
  obtain⟨hA,hB⟩:=kg hok hlt
  have hst:mI u ((bq u p).take (i+1))=lC u (mI u ((bq u p).take i)) j:=by rw[List.take_succ_eq_append_getElem hi,Lu,hj]
  rw[hst] at h
  rw[adf,hrl,dT (by omega),cond_true,if_pos (bV hi),Int.toNat_natCast,if_pos hi]
  dsimp only
  rw[hg,if_pos (bV hlt),Int.toNat_natCast,Nat.zero_add,if_pos hlt,if_pos (bV hi),if_pos hi,if_pos (bV hlt),if_pos hlt,
   aeT m _ _ (by rw[List.length_set,q2]) (λh=>by have:=hA h;omega) (λh=>by have:=hB h;omega),if_pos (by omega),iK (by omega),<-h]
  unfold lC
  rw[q1];rfl
theorem agt{α:Type}(m:Nat){u:List (List Int)}(h40:u.length<=40)(hok:aX u 0){p:Nat}(hp:p<u.length)(hm:1048576<m)(k:List (List Int)->Option α):
  Ju (g48 m) 0 u.length u.length ((u.length:Nat):Int) u 0 u.length u.length u.length (marked u p) u.length k m (0:Int) [] (List.replicate u.length 0)=k (mI u (bq u p)).1:=by
 have:=mH (λm' i=>Ju (g48 m) 0 u.length u.length ((u.length:Nat):Int) u 0 u.length u.length u.length (marked u p) u.length k m' (i:Int)
   (mI u ((List.range i).filter λj=>List.getD (marked u p) j false)).1 (mI u ((List.range i).filter λj=>List.getD (marked u p) j false)).2) (λ_=>k (mI u (bq u p)).1) u.length
  (λm'=> ?_) (λm' i hi h=> ?_) u.length 0 m (by omega) (by omega)
 .exact this
 .rw[ada,dF (by omega),cond_false];rfl
 .rw[List.range_succ,List.filter_append,List.filter_cons,List.filter_nil] at h
  generalize hL:((List.range i).filter λj=>List.getD (marked u p) j false)=L at h|-
  have hLl:L.length<=i:=by
   have:=List.length_filter_le (λj=>List.getD (marked u p) j false) (List.range i)
   rw[hL,List.length_range] at this;exact this
  obtain⟨q1,q2⟩:=Sd u L
  obtain⟨hA,hB⟩:=kg hok hi
  rw[ada,dT (by omega),cond_true,if_pos (bV hi),Int.toNat_natCast,Nat.zero_add,if_pos hi]
  cases hb:List.getD (marked u p) i false
  .rw[hb] at h
   simp only[Bool.false_eq_true,if_false,List.append_nil] at h
   rw[cond_false,iK (by omega)]
   exact h
  .rw[hb] at h
   simp only[if_true] at h
   rw[Lu] at h
   have hsm:∀x∈(mI u L).2.set i (((mI u L).1.length:Nat):Int),0<=x/\x<=(1000:Int):=by
    intro x hx
    rcases List.mem_or_eq_of_mem_set hx with hx|rfl
    .exact ags u L (B:=1000) (by omega) x hx
    .omega
   rw[cond_true,if_pos (bV hi),if_pos hi]
   dsimp only
   rw[tH (x:=(((mI u L).1.length:Nat):Int)) (by omega) (by omega),if_pos (bV hi),if_pos hi,
    aAk m _ _ hsm (by rw[List.length_set,q2]) (λh=>by have:=hA h;omega) (λh=>by have:=hB h;omega),if_pos (by omega),iK (by omega),<-h]
   rfl
theorem aAp{α:Type}(m:Nat){u:List (List Int)}(hu:kH u)(hm:1048576<m)(hu0:rE u){p:Nat}(hp:p<u.length)(k1:Int->Option α)(k:List (List Int)->Option α):g13 m (p:Int) u k1 k=k (mI u (bq u p)).1:=by
 have h40:=hu0.1.2
 rw[aB2,nH m hu hm,if_pos hu0,if_pos ⟨⟨by omega,by omega⟩,by decide,by decide⟩,if_pos ⟨rfl,by omega,by omega⟩,Xw m hu0.1.2 hu0.2 hp hm]
 exact agt m hu0.1.2 hu0.2 hp hm _
end Go.Proofs.YtlmmgjngihlpeaaGreatDoor.Sx
