import Derived.Test.YtlmmgjngihlpeaaGreatAskH
import Derived.Test.YtlmmgjngihlpeaaGreatZedD
namespace Go.Proofs.YtlmmgjngihlpeaaGreat.Sx
open Go
set_option linter.unusedVariables false
set_option linter.unusedSimpArgs false
set_option maxRecDepth 100000
section
variable {α:Type} {m:Nat}
theorem nearS(hm:300≤m){p:Nat}(h0:0<p)(hp:p<192){x:Int}(hx:x.natAbs<W192)(k:Bool→List Int→Option α):
  g76 m (zs x) (zl x) (p:Int) k=k (zs (nearZ x p)) (zl (nearZ x p)):=by
 obtain⟨n,rfl⟩:∃n,m=n+40:=⟨m-40,by omega⟩
 have e:=nearN_Z x h0
 unfold zl
 rw[g76L n p (zs x) h0 hp hx,mk_zs,mk_zl (zs x),e];rfl
theorem mulW(hm:300≤m){x y:Int}(hx:x.natAbs<W192)(hy:y.natAbs<W192)(k:Bool→List Int→Int→Option α):
  g119 m (zs x) (zl x) (zs y) (zl y) k=cond (fitZ (x*y)) (k (zs (x*y)) (zl (x*y)) 0) (k false [0,0,0,0,0,0] 3):=by
 obtain⟨n,rfl⟩:∃n,m=n+7:=⟨m-7,by omega⟩
 unfold zl
 rw[g119L n hx hy,fitZ_eq (Int.natAbs_mul x y),zs_mul,Int.natAbs_mul]
theorem isLen_lenZ(z:Int):isLen z.natAbs (lenZ z)=true:=by
 unfold lenZ
 by_cases h:z=0
 ·subst h;rfl
 ·rw[if_neg h,isLen_iff]
  exact⟨Nat.lt_log2_self, .inr (by simpa using Nat.log2_self_le (by omega))⟩
theorem bitsI(hm:300≤m){x:Int}(hx:x.natAbs<W192)(k:Int→Option α):g72 m (zl x) k=k (lenZ x:Int):=by
 obtain⟨n,rfl⟩:∃n,m=n+7:=⟨m-7,by omega⟩
 exact g72L n hx (isLen_lenZ x) k
theorem bitsS(hm:300≤m){x:Int}(hx:x.natAbs<W192)(k:Int→Option α):g122 m (zl x) k=k (lenZ x:Int):=by
 obtain⟨n,rfl⟩:∃n,m=n+40:=⟨m-40,by omega⟩
 exact g122L n hx (isLen_lenZ x) k
theorem rootS(hm:300≤m){x:Int}(hx:x.natAbs<W192)(k:Bool→List Int→Option α):g101 m false (zl x) k=k (zs (isq x.natAbs:Int)) (zl (isq x.natAbs:Int)):=by
 obtain⟨n,rfl⟩:∃n,m=n+40:=⟨m-40,by omega⟩
 obtain⟨b,hb⟩:=len_of x.natAbs
 have hb192:=len_le192 hx hb
 unfold zl
 rw[g101M,g122L n hx hb,half_start hb192]
 have:=g101loop (α:=α) n hx [0,0,0,0,0,0] (fun b l=>k b l) ((b+1)/2) (n+40) 0 (by omega) (by omega) (start_ok hb192)
 rw[show limbs 6 0=[0,0,0,0,0,0] from rfl] at this
 rw[this,rootN_isq hb,zs_nat];rfl
theorem rootI(hm:300≤m){x:Int}(hx:x.natAbs<W192)(k:List Int→Option α):g92 m (zl x) k=k (zl (isq x.natAbs:Int)):=by
 obtain⟨n,rfl⟩:∃n,m=n+40:=⟨m-40,by omega⟩
 exact g92N n (by omega) hx k
def cmpI(x y:Int):Int:=if x<y then-1 else if y<x then 1 else 0
theorem cmpI_pos{x y:Int}(sx:zs x=false)(sy:zs y=false):cmpN x.natAbs y.natAbs=cmpI x y:=by
 have hx:¬x<0:=of_decide_eq_false sx
 have hy:¬y<0:=of_decide_eq_false sy
 unfold cmpN cmpI
 repeat' split
 all_goals first|rfl|omega
theorem cmpI_neg{x y:Int}(sx:zs x=true)(sy:zs y=true):cmpN y.natAbs x.natAbs=cmpI x y:=by
 have hx:x<0:=of_decide_eq_true sx
 have hy:y<0:=of_decide_eq_true sy
 unfold cmpN cmpI
 repeat' split
 all_goals first|rfl|omega
theorem cmpI_lt{x y:Int}(sx:zs x=true)(sy:zs y=false):-1=cmpI x y:=by
 have hx:x<0:=of_decide_eq_true sx
 have hy:¬y<0:=of_decide_eq_false sy
 unfold cmpI
 rw[if_pos (by omega)]
theorem cmpI_gt{x y:Int}(sx:zs x=false)(sy:zs y=true):1=cmpI x y:=by
 have hx:¬x<0:=of_decide_eq_false sx
 have hy:y<0:=of_decide_eq_true sy
 unfold cmpI
 rw[if_neg (by omega),if_pos (by omega)]
theorem cmpS(hm:300≤m){x y:Int}(hx:x.natAbs<W192)(hy:y.natAbs<W192)(k:Int→Option α):
  g81 m (zs x) (zl x) (zs y) (zl y) k=k (cmpI x y):=by
 obtain⟨n,rfl⟩:∃n,m=n+7:=⟨m-7,by omega⟩
 unfold zl
 rw[g81_o]
 cases sx:zs x<;>cases sy:zs y<;>simp only[cond_true,cond_false,Bool.not_true,Bool.not_false]
 ·rw[g111L n hx hy,cmpI_pos sx sy]
 ·rw[cmpI_gt sx sy]
 ·rw[cmpI_lt sx sy]
 ·rw[g111L n hy hx,cmpI_neg sx sy]
theorem cmpIm(hm:300≤m){x y:Int}(hx:x.natAbs<W192)(hy:y.natAbs<W192)(k:Int→Option α):
  g89 m (zs x) (zl x) (zs y) (zl y) k=k (cmpI x y):=by
 obtain⟨n,rfl⟩:∃n,m=n+7:=⟨m-7,by omega⟩
 unfold zl
 rw[g89_o]
 cases sx:zs x<;>cases sy:zs y<;>simp only[cond_true,cond_false,Bool.not_true,Bool.not_false,beq_self_eq_true,show(false==true)=false from rfl,show(true==false)=false from rfl]
 ·rw[g46L n hx hy,cmpI_pos sx sy]
 ·rw[cmpI_gt sx sy]
 ·rw[cmpI_lt sx sy]
 ·rw[g46L n hy hx,cmpI_neg sx sy]
theorem upS(hm:300≤m){p:Nat}{x:Int}(hx:x.natAbs<W192)(k:Bool→List Int→Int→Option α):
  g97 m (zs x) (zl x) (p:Int) k=if p≤191 then cond (fitZ (x*2^p)) (k (zs (x*2^p)) (zl (x*2^p)) 0) (k false [0,0,0,0,0,0] 3) else k false [0,0,0,0,0,0] 3:=by
 obtain⟨n,rfl⟩:∃n,m=n+40:=⟨m-40,by omega⟩
 rw[g97_o]
 by_cases h:p≤191
 ·rw[if_pos h,dF (by omega),cond_false,g77Z p (by omega) hx]
 ·rw[if_neg h,dT (by omega),cond_true]
theorem nearB(hm:300≤m){p:Nat}(h0:0<p){x:Int}(hx:x.natAbs<W192)(k:Bool→List Int→Int→Option α):
  g124 m (zs x) (zl x) (p:Int) k=if p≤191 then k (zs (nearZ x p)) (zl (nearZ x p)) 0 else k false [0,0,0,0,0,0] 3:=by
 rw[g124_o]
 by_cases h:p≤191
 ·rw[if_pos h,dF (by omega),cond_false,nearS hm h0 (by omega) hx]
 ·rw[if_neg h,dT (by omega),cond_true]
theorem upI(hm:300≤m){p:Nat}{x:Int}(o:Bool)(hx:x.natAbs<W192)(k:Bool→List Int→Bool→Option α):
  g42 m (zs x) (zl x) (p:Int) o k=if p≤191 then cond (fitZ (x*2^p)) (k (zs (x*2^p)) (zl (x*2^p)) o) (k false [0,0,0,0,0,0] true) else k false [0,0,0,0,0,0] true:=by
 by_cases h:p≤191
 ·obtain⟨n,rfl⟩:∃n,m=n+40:=⟨m-40,by omega⟩
  rw[if_pos h,g42Z p o (by omega) hx]
 ·rw[g42_o,if_neg h,dT (by omega),cond_true]
theorem nearI(hm:300≤m){p:Nat}{x:Int}(o:Bool)(hx:x.natAbs<W192)(k:Bool→List Int→Bool→Option α):
  g74 m (zs x) (zl x) (p:Int) o k=if p≤191 then k (zs (nearZ x p)) (zl (nearZ x p)) o else k false [0,0,0,0,0,0] true:=by
 by_cases h:p≤191
 ·obtain⟨n,rfl⟩:∃n,m=n+7:=⟨m-7,by omega⟩
  rw[if_pos h,g74W p (by omega) hx]
 ·rw[g74_o,if_neg h,dT (by omega),cond_true]
theorem addI(hm:300≤m){x y:Int}(hx:x.natAbs<W192)(hy:y.natAbs<W192)(o:Bool)(k:Bool→List Int→Bool→Option α):
  g53 m (zs x) (zl x) (zs y) (zl y) o k=k (zs (zt (x+y))) (zl (zt (x+y))) (o|| !(fitZ (x+y))):=by
 obtain⟨n,rfl⟩:∃n,m=n+7:=⟨m-7,by omega⟩
 exact g53Z hx hy o k
theorem subI(hm:300≤m){x y:Int}(hx:x.natAbs<W192)(hy:y.natAbs<W192)(o:Bool)(k:Bool→List Int→Bool→Option α):
  g41 m (zs x) (zl x) (zs y) (zl y) o k=k (zs (zt (x-y))) (zl (zt (x-y))) (o|| !(fitZ (x-y))):=by
 obtain⟨n,rfl⟩:∃n,m=n+7:=⟨m-7,by omega⟩
 exact g41Z hx hy o k
theorem mulI(hm:300≤m){x y:Int}(hx:x.natAbs<W192)(hy:y.natAbs<W192)(o:Bool)(k:Bool→List Int→Bool→Option α):
  g54 m (zs x) (zl x) (zs y) (zl y) o k=cond (fitZ (x*y)) (k (zs (x*y)) (zl (x*y)) o) (k false [0,0,0,0,0,0] true):=by
 obtain⟨n,rfl⟩:∃n,m=n+7:=⟨m-7,by omega⟩
 exact g54Z hx hy o k
theorem addS(hm:300≤m){x y:Int}(hx:x.natAbs<W192)(hy:y.natAbs<W192)(k:Bool→List Int→Int→Option α):
  g78 m (zs x) (zl x) (zs y) (zl y) k=cond (fitZ (x+y)) (k (zs (x+y)) (zl (x+y)) 0) (k false [0,0,0,0,0,0] 3):=by
 obtain⟨n,rfl⟩:∃n,m=n+7:=⟨m-7,by omega⟩
 exact g78Z hx hy k
theorem compare5(hm:300≤m){x:Int}(hx:x.natAbs<W192)(k:Int→Option α):g46 m (zl x) [5,0,0,0,0,0] k=k (cmpN x.natAbs 5):=by
 obtain⟨n,rfl⟩:∃n,m=n+7:=⟨m-7,by omega⟩
 exact g46L n (b:=5) hx (by decide) k
end
section
variable {α:Type} (m:Nat) (q:Bool) (u:List Int) (r:Bool) (w:List Int) (p:Int) (o:Bool) (d:Int) (f:Ty0) (g:Ty1) (h:Ty0) (k:Bool→List Int→Bool→Option α)
theorem add1:g53v1 m q u r w o d f g h k=g53 m q u r w o k:=by rw[g53v1_o,g53_o]
theorem sub1:g41v1 m q u r w o d f g h k=g41 m q u r w o k:=by rw[g41v1_o,g41_o];simp only[add1]
theorem mul1:g54v1 m q u r w o d f g h k=g54 m q u r w o k:=by rw[g54v1_o,g54_o]
theorem up1:g42v1 m q u p o d f g h k=g42 m q u p o k:=by rw[g42v1_o,g42_o]
theorem near1:g74v1 m q u p o d f g h k=g74 m q u p o k:=by rw[g74v1_o,g74_o]
theorem divn1:g87v1 m q u r w o d f g h k=g87 m q u r w o k:=by rw[g87v1_o,g87_o];simp only[add1]
end
theorem w192d:W192=6277101735386680763835789423207666416102355444464034512896:=by decide
theorem zz_one:([1,0,0,0,0,0]:List Int)=limbs 6 1:=rfl
theorem wrapU32S{i:Nat}(h:i<4294967296):IntKind.wrap .u32 (i:Int)=(i:Int):=by rw[wrapU32,Nat.mod_eq_of_lt h]
theorem p176{n:Nat}(hn:n≤160):2^(n+16)≤2^176:=Nat.pow_le_pow_right (by decide) (by omega)
def Bsum:Nat:=1532495540865888858358347027150309183618739122183602176
theorem bsumW:Bsum<W192:=by decide
theorem b176:2^176*16=Bsum:=by decide
theorem div2{p i b:Nat}(hi:2≤i)(hp:p<2^(b+1)):p/i<2^b:=by
 have h1:p/i≤p/2:=Nat.div_le_div_left hi (by omega)
 rw[Nat.pow_succ] at hp
 omega
theorem eulN_zero(G i:Nat):eulN G i 0=0:=by cases G<;>simp[eulN]
theorem arcN_zero(d G i:Nat):arcN d G i 0=0:=by cases G<;>simp[arcN]
theorem eulN_step(G i:Nat){p:Nat}(h:p≠0):eulN (G+1) i p=p+eulN G (i+1) (p/i):=by simp[eulN,h]
def sgI(i:Nat)(t:Nat):Int:=cond (decide (i%2=1)) (-(t:Int)) t
theorem arcN_step(d G i:Nat){p:Nat}(h:p≠0):arcN d (G+1) i p=sgI i (p/(2*i+1))+arcN d G (i+1) (p/(d*d)):=by
 simp only[arcN,if_neg h];unfold sgI
 by_cases h2:i%2=1
 ·rw[if_pos h2,decide_eq_true h2,cond_true]
 ·rw[if_neg h2,decide_eq_false h2,cond_false]
theorem sgI_abs(i t:Nat):(sgI i t).natAbs=t:=by
 unfold sgI;cases decide (i%2=1)<;>simp
theorem dd4{d p:Nat}(hd:2≤d):p/(d*d)≤p/4:=Nat.div_le_div_left (Nat.mul_le_mul hd hd) (by omega)
theorem arc_bound{d:Nat}(hd:2≤d):∀(G i p:Nat),(arcN d G i p).natAbs≤2*p
 |0,i,p=>by simp[arcN]
 |G+1,i,p=>by
  by_cases h:p=0
  ·subst h;rw[arcN_zero];decide
  ·rw[arcN_step d G i h]
   have h1:=arc_bound hd G (i+1) (p/(d*d))
   have h2:=sgI_abs i (p/(2*i+1))
   have h3:p/(2*i+1)≤p:=Nat.div_le_self _ _
   have h4:=dd4 (p:=p) hd
   omega
theorem eul_sum:∀(G i p:Nat),2≤i→eulN G i p≤2*p
 |0,i,p,_=>by simp[eulN]
 |G+1,i,p,hi=>by
  by_cases h:p=0
  ·subst h;rw[eulN_zero];decide
  ·rw[eulN_step G i h]
   have h1:=eul_sum G (i+1) (p/i) (by omega)
   have h2:p/i≤p/2:=Nat.div_le_div_left hi (by omega)
   omega
theorem nz_limbs{p:Nat}(hp:p<W192):(!(eqLI (limbs 6 p) [0,0,0,0,0,0]))= !(decide (p=0)):=by rw[eqLI_zero hp]
section
variable {α:Type} {m:Nat} (d:Int) (f:Ty0) (g:Ty1) (h:Ty0)
theorem wideN(q:Bool){t:Nat}(ht:t<W192)(k:Bool→Option α):g73 m q (limbs 6 t) k=k (zs (cond q (-(t:Int)) t)):=g73Z m q ht k
theorem bySmallN(hm:300≤m){t i:Nat}(ht:t<W192)(h0:0<i)(h1:i<4294967296)(k:List Int→Int→Option α):g116 m (limbs 6 t) (i:Int) k=k (limbs 6 (t/i)) ((t%i:Nat):Int):=by
 obtain⟨n,rfl⟩:∃n,m=n+7:=⟨m-7,by omega⟩
 exact g116L n ht h0 h1 k
theorem eulI(hm:300≤m)(o cz:Bool)(z:List Int)(k:Bool→Bool→List Int→Option α):∀(w i p S F G:Nat),p<2^w→2≤i→i+w≤1000→w<F→w<G→S+2*p≤Bsum→
  g94l0 (g73 m) (g53v1 m) (g116 m) d f g h cz z k F (i:Int) o (limbs 6 p) (zs (S:Int)) (zl (S:Int))=
  k o (zs ((S+eulN G i p:Nat):Int)) (zl ((S+eulN G i p:Nat):Int)):=by
 intro w
 induction w with
 |zero=>
  intro i p S F G hp h2 h3 h4 h5 h6
  obtain⟨F,rfl⟩:∃n,F=n+1:=⟨F-1,by omega⟩
  have:p=0:=by simpa using hp
  subst this
  rw[g94l0_s,nz_limbs (by decide),eulN_zero];rfl
 |succ w ih=>
  intro i p S F G hp h2 h3 h4 h5 h6
  obtain⟨F,rfl⟩:∃n,F=n+1:=⟨F-1,by omega⟩
  obtain⟨G,rfl⟩:∃n,G=n+1:=⟨G-1,by omega⟩
  have hW:=bsumW
  rw[g94l0_s,nz_limbs (by omega)]
  by_cases hz:p=0
  ·subst hz;rw[eulN_zero];rfl
  ·rw[decide_eq_false hz,Bool.not_false,cond_true,wideN false (by omega),cond_false,←zl_nat p,add1,addI hm (by omega) (by omega),zl_nat p,
    bySmallN hm (by omega) (by omega) (by omega),←Int.natCast_add,zt_of (by omega),fitZ_iff.2 (by omega),eulN_step G i hz]
   have hd:=div2 h2 hp
   have hq:p/i≤p/2:=Nat.div_le_div_left h2 (by omega)
   rw[show((i:Int)+1)=((i+1:Nat):Int) by omega,wrapU32S (by omega),Bool.not_true,Bool.or_false,ih (i+1) (p/i) (S+p) F G hd (by omega) (by omega) (by omega) (by omega) (by omega),Nat.add_assoc]
theorem upN(hm:300≤m){t p:Nat}(ht:t<W192)(hp:p<192)(k:List Int→Option α):g44 m (limbs 6 t) (p:Int) k=k (limbs 6 (t*2^p)):=by
 obtain⟨n,rfl⟩:∃n,m=n+7:=⟨m-7,by omega⟩
 exact g44L n p hp ht k
theorem wrap16{n:Nat}(h:n≤1000):IntKind.wrap .i64 ((n:Int)+16)=((n+16:Nat):Int):=by rw[wrapI (by omega) (by omega)];rfl
theorem eul_top{n:Nat}(hn:n≤160):((eulN 200 1 (2^(n+16)):Nat))=2^(n+16)+eulN 199 2 (2^(n+16))∧2^(n+16)+2*2^(n+16)≤Bsum∧2^(n+16)<2^177∧0<2^(n+16)∧eulN 200 1 (2^(n+16))≤Bsum:=by
 have h1:=p176 hn
 have h2:0<2^(n+16):=Nat.pow_pos (by decide)
 have h3:2^176*3≤Bsum:=by decide
 have h4:(2:Nat)^176<2^177:=by decide
 have h5:eulN 200 1 (2^(n+16))=2^(n+16)+eulN 199 2 (2^(n+16)):=by rw[eulN_step 199 1 (by omega),Nat.div_one]
 have h6:=eul_sum 199 2 (2^(n+16)) (by decide)
 omega
theorem eulerI(hm:300≤m){n:Nat}(hn:n≤160)(o:Bool)(k:Bool→List Int→Bool→Option α):
  g94 m (n:Int) o d f g h k=k (zs (eulZ n)) (zl (eulZ n)) o:=by
 obtain⟨e1,e2,e3,e4,e5⟩:=eul_top hn
 obtain⟨M,rfl⟩:∃M,m=M+1:=⟨m-1,by omega⟩
 have hW:=bsumW
 rw[g94_o,g43_o,wrap16 (by omega),zz_one,upN hm (by decide) (by omega),Nat.one_mul]
 generalize hw:2^(n+16)=w at*
 conv=>lhs;rw[show(1:Int)=((1:Nat):Int) from rfl]
 rw[g94l0_s,nz_limbs (by omega),decide_eq_false (show¬w=0 by omega),Bool.not_false,cond_true,wideN false (by omega),cond_false,
  show([0,0,0,0,0,0]:List Int)=zl 0 from rfl,show false=zs 0 from rfl,←zl_nat w,add1,addI hm (by decide) (by omega),zl_nat w,bySmallN hm (by omega) (by omega) (by omega),Int.zero_add,zt_of (by omega),fitZ_iff.2 (by omega),Nat.div_one,
  show(((1:Nat):Int)+1)=((2:Nat):Int) from rfl,wrapU32S (by omega),Bool.not_true,Bool.or_false,
  eulI d f g h hm o _ _ _ 177 2 w w M 199 e3 (by omega) (by omega) (by omega) (by omega) (by omega)]
 rw[←e1,near1,show eulZ n=nearZ (eulN 200 1 w:Int) 16 by unfold eulZ;rw[hw]]
 exact(nearI hm (p:=16) o (by omega) k).trans (if_pos (by omega))
theorem wrapDbl{i:Nat}(hi:i≤2000):IntKind.wrap .u32 ((IntKind.wrap .u32 ((2:Int)*(i:Int)))+(1:Int))=((2*i+1:Nat):Int):=by
 rw[show(2:Int)*(i:Int)=((2*i:Nat):Int) by omega,wrapU32S (by omega),show(((2*i:Nat):Int)+1)=((2*i+1:Nat):Int) by omega,wrapU32S (by omega)]
theorem wrapSq{v:Nat}(hv:v≤1000):IntKind.wrap .u32 ((v:Int)*(v:Int))=((v*v:Nat):Int):=by
 have:v*v≤1000*1000:=Nat.mul_le_mul hv hv
 rw[←Int.natCast_mul,wrapU32S (by omega)]
theorem oddB(i:Nat):((Int.tmod (i:Int) (2:Int))==(1:Int))=decide (i%2=1):=by
 rw[show Int.tmod (i:Int) 2=((i%2:Nat):Int) from rfl]
 rcases Nat.mod_two_eq_zero_or_one i with h|h<;>rw[h]<;>rfl
theorem arcI(hm:300≤m)(o cz:Bool)(z:List Int){v:Nat}(hv:2≤v)(hv2:v≤1000)(k:Bool→Bool→List Int→Option α):∀(w i p F G:Nat) (S:Int),p<2^w→i+w≤1000→w<F→w<G→S.natAbs+2*p≤Bsum→
  g115l0 (g116 m) (g73 m) (g53v1 m) (v:Int) d f g h cz z k F (i:Int) o (limbs 6 p) (zs S) (zl S)=
  k o (zs (S+arcN v G i p)) (zl (S+arcN v G i p)):=by
 intro w
 induction w with
 |zero=>
  intro i p F G S hp h3 h4 h5 h6
  obtain⟨F,rfl⟩:∃n,F=n+1:=⟨F-1,by omega⟩
  have:p=0:=by simpa using hp
  subst this
  rw[g115l0_s,nz_limbs (by decide),arcN_zero,Int.add_zero];rfl
 |succ w ih=>
  intro i p F G S hp h3 h4 h5 h6
  obtain⟨F,rfl⟩:∃n,F=n+1:=⟨F-1,by omega⟩
  obtain⟨G,rfl⟩:∃n,G=n+1:=⟨G-1,by omega⟩
  have hW:=bsumW
  rw[g115l0_s,nz_limbs (by omega)]
  by_cases hz:p=0
  ·subst hz;rw[arcN_zero,Int.add_zero];rfl
  ·have hvv:4≤v*v:=Nat.mul_le_mul hv hv
   have hvv2:v*v≤1000*1000:=Nat.mul_le_mul hv2 hv2
   have h7:p/(2*i+1)≤p:=Nat.div_le_self _ _
   have h8:=dd4 (p:=p) hv
   have h9:=div2 (p:=p) (i:=v*v) (by omega) hp
   have ha:=sgI_abs i (p/(2*i+1))
   rw[decide_eq_false hz,Bool.not_false,cond_true,wrapDbl (by omega),bySmallN hm (by omega) (by omega) (by omega)]
   rw[oddB,wideN _ (by omega),mk_zl (decide (i%2=1)),show cond (decide (i%2=1)) (-((p/(2*i+1):Nat):Int)) ((p/(2*i+1):Nat):Int)=sgI i (p/(2*i+1)) from rfl,add1,addI hm (by omega) (by omega),zt_of (by omega),fitZ_iff.2 (by omega),wrapSq hv2,
    bySmallN hm (by omega) (by omega) (by omega),show((i:Int)+1)=((i+1:Nat):Int) by omega,wrapU32S (by omega),Bool.not_true,Bool.or_false,
    ih (i+1) (p/(v*v)) F G _ h9 (by omega) (by omega) (by omega) (by omega),arcN_step v G i hz,Int.add_assoc]
theorem arc_top{n v:Nat}(hn:n≤160)(hv:2≤v):2^(n+16)/v<2^176∧2*(2^(n+16)/v)≤2^176∧2^176*16≤Bsum∧(arcZ v n).natAbs≤2^176∧2^(n+16)<W192∧0<2^(n+16):=by
 have h1:=p176 hn
 have h2:2^(n+16)/v≤2^(n+16)/2:=Nat.div_le_div_left hv (by decide)
 have h3:=arc_bound hv 200 0 (2^(n+16)/v)
 have h4:(2:Nat)^176<W192:=by decide
 have h5:0<2^(n+16):=Nat.pow_pos (by decide)
 refine⟨by omega,by omega,by decide, ?_,by omega,h5⟩
 unfold arcZ
 omega
theorem arcIm(hm:300≤m){n v:Nat}(hn:n≤160)(hv:2≤v)(hv2:v≤1000)(o:Bool)(k:Bool→List Int→Bool→Option α):
  g115 m (v:Int) (n:Int) o d f g h k=k (zs (arcZ v n)) (zl (arcZ v n)) o:=by
 obtain⟨e1,e2,e3,e4,e5,e6⟩:=arc_top hn hv
 have hW:=bsumW
 rw[g115_o,g43_o,wrap16 (by omega),zz_one,upN hm (by decide) (by omega),Nat.one_mul,bySmallN hm e5 (by omega) (by omega)]
 have:=arcI (α:=α) d f g h hm o false [0,0,0,0,0,0] hv hv2 (fun x y z=>k y z x) 176 0 (2^(n+16)/v) m 200 0 e1 (by omega) (by omega) (by omega) (by rw[show(0:Int).natAbs=0 from rfl];omega)
 rw[Int.zero_add] at this
 exact this
theorem pi_big{n:Nat}(hn:n≤160):(16*arcZ 5 n).natAbs≤Bsum∧(4*arcZ 239 n).natAbs≤Bsum∧(16*arcZ 5 n-4*arcZ 239 n).natAbs<W192:=by
 obtain⟨_,_,_,h1,_⟩:=arc_top (v:=5) hn (by decide)
 obtain⟨_,_,_,h2,_⟩:=arc_top (v:=239) hn (by decide)
 have h3:=b176
 have h4:Bsum+Bsum<W192:=by decide
 generalize arcZ 5 n=x at*
 generalize arcZ 239 n=y at*
 generalize (2:Nat)^176=w at*
 omega
theorem piI(hm:300≤m){n:Nat}(hn:n≤160)(o:Bool)(k:Bool→List Int→Bool→Option α):
  g93 m (n:Int) o d f g h k=k (zs (piZ n)) (zl (piZ n)) o:=by
 obtain⟨h1,h2,h3⟩:=pi_big hn
 obtain⟨_,_,_,h4,_⟩:=arc_top (v:=5) hn (by decide)
 obtain⟨_,_,_,h5,_⟩:=arc_top (v:=239) hn (by decide)
 have hW:=bsumW
 have h176:2^176<W192:=by decide
 rw[g93_o,g55Z _ (by omega) (by omega),show(5:Int)=((5:Nat):Int) from rfl,arcIm d f g h hm hn (by omega) (by omega),mul1,mulI hm (by decide) (by omega),fitZ_iff.2 (by omega),cond_true,
  g55Z _ (by omega) (by omega),show(239:Int)=((239:Nat):Int) from rfl,arcIm d f g h hm hn (by omega) (by omega),mul1,mulI hm (by decide) (by omega),fitZ_iff.2 (by omega),cond_true,sub1,subI hm (by omega) (by omega),zt_of h3,fitZ_iff.2 h3,Bool.not_true,Bool.or_false,near1]
 exact(nearI hm (p:=16) o h3 k).trans (if_pos (by omega))
end
section
variable {α:Type} {m:Nat}
theorem nb{a:Nat}(h:a<W192):((a:Nat):Int).natAbs<W192:=by rw[Int.natAbs_natCast];exact h
theorem ofS{x:Int}(h1:-9223372036854775808≤x)(h2:x≤9223372036854775807)(k:Bool→List Int→Option α):g80 m x k=k (zs x) (zl x):=g80Z m h1 h2 k
theorem divN(hm:300≤m){x y:Nat}(hx:x<W192)(hy:y<W192)(h0:0<y)(k:Bool→List Int→Bool→List Int→Option α):
  g118 m (zs (x:Int)) (zl (x:Int)) (zs (y:Int)) (zl (y:Int)) k=k (zs ((x/y:Nat):Int)) (zl ((x/y:Nat):Int)) (zs (Int.fmod x y)) (zl (Int.fmod x y)):=by
 rw[g118Z m (by omega) (by rw[Int.natAbs_natCast];exact hx) (by rw[Int.natAbs_natCast];exact hy) (by omega),fdivNat]
theorem eulS(hm:300≤m)(cz:Bool)(z:List Int)(k:Bool→List Int→Option α):∀(w i p S F G:Nat),p<2^w→2≤i→i+w≤1000→w<F→w<G→S+2*p≤Bsum→
  g100l0 (g121 m) (g80 m) (g118 m) (g78 m) cz z k F (i:Int) (zs (p:Int)) (zl (p:Int)) (zs ((S+p:Nat):Int)) (zl ((S+p:Nat):Int))=
  k (zs ((S+eulN G i p:Nat):Int)) (zl ((S+eulN G i p:Nat):Int)):=by
 intro w
 induction w with
 |zero=>
  intro i p S F G hp h2 h3 h4 h5 h6
  obtain⟨F,rfl⟩:∃n,F=n+1:=⟨F-1,by omega⟩
  have:p=0:=by simpa using hp
  subst this
  rw[g100l0_s,g121W m (by decide),eulN_zero];rfl
 |succ w ih=>
  intro i p S F G hp h2 h3 h4 h5 h6
  obtain⟨F,rfl⟩:∃n,F=n+1:=⟨F-1,by omega⟩
  obtain⟨G,rfl⟩:∃n,G=n+1:=⟨G-1,by omega⟩
  have hW:=bsumW
  rw[g100l0_s,g121W m (by omega)]
  by_cases hz:p=0
  ·subst hz;rw[eulN_zero];rfl
  ·have hs:(Int.sign (p:Int) !=0)=true:=by rw[Int.sign_eq_one_of_pos (by omega)];rfl
   have hd:=div2 h2 hp
   have hq:p/i≤p/2:=Nat.div_le_div_left h2 (by omega)
   have hi:(i:Nat)<W192:=by have:=w192d;omega
   rw[hs,cond_true,ofS (by omega) (by omega)]
   rw[divN hm (by omega) hi (by omega),addS hm (nb (by omega)) (nb (by omega)),←Int.natCast_add,fitZ_iff.2 (nb (by omega)),cond_true,wrapS (by omega),ih (i+1) (p/i) (S+p) F G hd (by omega) (by omega) (by omega) (by omega) (by omega),eulN_step G i hz,Nat.add_assoc]
theorem powI(p:Nat):(1:Int)*2^p=((2^p:Nat):Int):=by rw[Int.one_mul];norm_cast
theorem up1S(hm:300≤m){n:Nat}(hn:n≤160)(k:Bool→List Int→Int→Option α):g77 m (zs 1) (zl 1) (IntKind.wrap .i64 ((n:Int)+16)) k=k (zs ((2^(n+16):Nat):Int)) (zl ((2^(n+16):Nat):Int)) 0:=by
 obtain⟨M,rfl⟩:∃M,m=M+40:=⟨m-40,by omega⟩
 have:=p176 hn
 have h4:(2:Nat)^176<W192:=by decide
 rw[wrap16 (by omega),g77Z (n+16) (by omega) (by decide),powI,fitZ_iff.2 (by rw[Int.natAbs_natCast];omega),cond_true]
theorem eulerS(hm:300≤m){n:Nat}(hn:n≤160)(k:Bool→List Int→Option α):
  g100 m (n:Int) k=k (zs (eulZ n)) (zl (eulZ n)):=by
 obtain⟨e1,e2,e3,e4,e5⟩:=eul_top hn
 obtain⟨M,rfl⟩:∃M,m=M+1:=⟨m-1,by omega⟩
 have hW:=bsumW
 rw[g100_o,ofS (by omega) (by omega),up1S hm hn]
 generalize hw:2^(n+16)=w at*
 have hs:(Int.sign (w:Int) !=0)=true:=by rw[Int.sign_eq_one_of_pos (by omega)];rfl
 rw[g100l0_s,g121W _ (by omega),hs,cond_true,ofS (by omega) (by omega),show(1:Int)=((1:Nat):Int) from rfl]
 rw[divN hm (by omega) (by decide) (by omega),Nat.div_one,addS hm (by omega) (by omega),←Int.natCast_add,fitZ_iff.2 (by omega),cond_true,show IntKind.wrap .i64 (((1:Nat):Int)+((1:Nat):Int))=((2:Nat):Int) from rfl,
  eulS hm _ _ _ 177 2 w w M 199 e3 (by omega) (by omega) (by omega) (by omega) (by omega),←e1,show eulZ n=nearZ (eulN 200 1 w:Int) 16 by unfold eulZ;rw[hw]]
 exact nearS hm (p:=16) (by omega) (by omega) (by omega) k
theorem wrapDbl64{i:Nat}(hi:i≤2000):IntKind.wrap .i64 ((IntKind.wrap .i64 ((2:Int)*(i:Int)))+(1:Int))=((2*i+1:Nat):Int):=by
 have e:IntKind.wrap .i64 ((2:Int)*(i:Int))=2*(i:Int):=wrapI (by omega) (by omega)
 rw[e,wrapI (by omega) (by omega)];omega
theorem wrapSq64{v:Nat}(hv:v≤1000):IntKind.wrap .i64 ((v:Int)*(v:Int))=((v*v:Nat):Int):=by
 have:v*v≤1000*1000:=Nat.mul_le_mul hv hv
 rw[←Int.natCast_mul,wrapI (by omega) (by omega)]
theorem cmpI_le{x y:Nat}:decide (cmpI (x:Int) (y:Int)≤0)=decide (x≤y):=by
 unfold cmpI
 by_cases h1:(x:Int)<y
 ·rw[if_pos h1,decide_eq_true (by decide),decide_eq_true (by omega)]
 ·rw[if_neg h1]
  by_cases h2:(y:Int)<x
  ·rw[if_pos h2,decide_eq_false (by decide),decide_eq_false (by omega)]
  ·rw[if_neg h2,decide_eq_true (by decide),decide_eq_true (by omega)]
theorem partS(hm:300≤m){W v:Nat}(hW0:W<W192)(cz:Bool)(z:List Int)(hv:2≤v)(hv2:v≤1000)(k:Bool→List Int→Option α):∀(w i D F G:Nat) (S:Int),0<D→D<W192→W/D<2^w→i+w≤1000→w<F→w<G→S.natAbs+2*(W/D)≤Bsum→
  g120l0 (g81 m) (g118 m) (g80 m) (g79 m) (g78 m) (g119 m) (v:Int) (zs (W:Int)) (zl (W:Int)) cz z k F (i:Int) (zs S) (zl S) (zs (D:Int)) (zl (D:Int))=
  k (zs (S+arcN v G i (W/D))) (zl (S+arcN v G i (W/D))):=by
 intro w
 have hbW:=bsumW
 have stop:∀(i D F G:Nat) (S:Int),0<D→D<W192→W/D=0→g120l0 (g81 m) (g118 m) (g80 m) (g79 m) (g78 m) (g119 m) (v:Int) (zs (W:Int)) (zl (W:Int)) cz z k (F+1) (i:Int) (zs S) (zl S) (zs (D:Int)) (zl (D:Int))=
   k (zs (S+arcN v G i (W/D))) (zl (S+arcN v G i (W/D))):=fun i D F G S h0 hD hz=>by
  have hlt:W<D:=by
   rcases Nat.div_eq_zero_iff.1 hz with h|h
   ·omega
   ·exact h
  rw[g120l0_s,cmpS hm (by omega) (by omega),cmpI_le,dF (by omega),cond_false,hz,arcN_zero,Int.add_zero]
 induction w with
 |zero=>
  intro i D F G S h0 hD hp h3 h4 h5 h6
  obtain⟨F,rfl⟩:∃n,F=n+1:=⟨F-1,by omega⟩
  exact stop i D F G S h0 hD (by simpa using hp)
 |succ w ih=>
  intro i D F G S h0 hD hp h3 h4 h5 h6
  obtain⟨F,rfl⟩:∃n,F=n+1:=⟨F-1,by omega⟩
  by_cases hz:W/D=0
  ·exact stop i D F G S h0 hD hz
  obtain⟨G,rfl⟩:∃n,G=n+1:=⟨G-1,by omega⟩
  have hle:D≤W:=by
   rcases Nat.lt_or_ge W D with h|h
   ·exact absurd (Nat.div_eq_of_lt h) hz
   ·exact h
  have hvv:4≤v*v:=Nat.mul_le_mul hv hv
  have hvv2:v*v≤1000*1000:=Nat.mul_le_mul hv2 hv2
  have h7:W/D/(2*i+1)≤W/D:=Nat.div_le_self _ _
  have h8:=dd4 (p:=W/D) hv
  have h9:=div2 (p:=W/D) (i:=v*v) (by omega) hp
  have ha:=sgI_abs i (W/D/(2*i+1))
  have hWD:W/D≤W:=Nat.div_le_self _ _
  have h10:W/D/(v*v)=W/(D*(v*v)):=Nat.div_div_eq_div_mul _ _ _
  have h192:=w192d
  have hfin:S+arcN v (G+1) i (W/D)=S+sgI i (W/D/(2*i+1))+arcN v G (i+1) (W/(D*(v*v))):=by rw[arcN_step v G i hz,h10,Int.add_assoc]
  have htail:∀b l,b=zs (S+sgI i (W/D/(2*i+1)))→l=zl (S+sgI i (W/D/(2*i+1)))→
    g80 m (IntKind.wrap .i64 ((v:Int)*(v:Int))) (fun b2012 l2013=>(g119 m) (zs (D:Int)) (zl (D:Int)) b2012 l2013 (fun b2088 l2089 x2090=>
    cond (x2090 !=(0:Int)) (k b l) ((g120l0 (g81 m) (g118 m) (g80 m) (g79 m) (g78 m) (g119 m) (v:Int) (zs (W:Int)) (zl (W:Int)) cz z k F) (IntKind.wrap .i64 ((i:Int)+(1:Int))) b l b2088 l2089)))=
    k (zs (S+arcN v (G+1) i (W/D))) (zl (S+arcN v (G+1) i (W/D))):=by
   rintro b l rfl rfl
   rw[hfin,wrapSq64 hv2,ofS (by omega) (by omega),mulW hm (by omega) (by omega),←Int.natCast_mul]
   by_cases hf:D*(v*v)<W192
   ·rw[fitZ_iff.2 (by rw[Int.natAbs_natCast];exact hf),cond_true]
    rw[show((0:Int) !=0)=false from rfl,cond_false,wrapS (by omega)]
    exact ih (i+1) (D*(v*v)) F G _ (Nat.mul_pos h0 (by omega)) hf (by rw[←h10];exact h9) (by omega) (by omega) (by omega) (by rw[←h10];omega)
   ·have:fitZ ((D*(v*v):Nat):Int)=false:=by
     rw[fitZ_eq (Int.natAbs_natCast _)];exact decide_eq_false hf
    rw[this,cond_false,show((3:Int) !=0)=true from rfl,cond_true,Nat.div_eq_of_lt (show W<D*(v*v) by omega),arcN_zero,Int.add_zero]
  rw[g120l0_s,cmpS hm (by omega) (by omega),cmpI_le,dT hle,cond_true]
  rw[g118Z m (by omega) (by omega) (by omega) (by omega),fdivNat,wrapDbl64 (by omega),ofS (by omega) (by omega),g118Z m (by omega) (by omega) (by omega) (by omega),fdivNat,oddB]
  by_cases ho:i%2=1
  ·rw[dT ho,cond_true,g79Z m (by omega),←zl_neg ((W/D/(2*i+1):Nat):Int),addS hm (by omega) (by omega)]
   have e:sgI i (W/D/(2*i+1))=-((W/D/(2*i+1):Nat):Int):=by unfold sgI;rw[dT ho,cond_true]
   rw[←e,fitZ_iff.2 (by omega),cond_true]
   exact htail _ _ rfl rfl
  ·rw[dF ho,cond_false,addS hm (by omega) (by omega)]
   have e:sgI i (W/D/(2*i+1))=((W/D/(2*i+1):Nat):Int):=by unfold sgI;rw[dF ho,cond_false]
   rw[←e,fitZ_iff.2 (by omega),cond_true]
   exact htail _ _ rfl rfl
theorem partSm(hm:300≤m){n v:Nat}(hn:n≤160)(hv:2≤v)(hv2:v≤1000)(k:Bool→List Int→Option α):
  g120 m (zs ((2^(n+16):Nat):Int)) (zl ((2^(n+16):Nat):Int)) (v:Int) k=k (zs (arcZ v n)) (zl (arcZ v n)):=by
 obtain⟨e1,e2,e3,e4,e5,e6⟩:=arc_top hn hv
 have hW:=bsumW
 have h192:=w192d
 rw[g120_o,ofS (by omega) (by omega)]
 have:=partS (α:=α) hm e5 false [0,0,0,0,0,0] hv hv2 (fun y z=>k y z) 176 0 v m 200 0 (by omega) (by omega) e1 (by omega) (by omega) (by omega) (by rw[show(0:Int).natAbs=0 from rfl];omega)
 rw[Int.zero_add] at this
 exact this
theorem piS(hm:300≤m){n:Nat}(hn:n≤160)(k:Bool→List Int→Option α):
  g99 m (n:Int) k=k (zs (piZ n)) (zl (piZ n)):=by
 obtain⟨h1,h2,h3⟩:=pi_big hn
 obtain⟨_,_,_,h4,_⟩:=arc_top (v:=5) hn (by decide)
 obtain⟨_,_,_,h5,_⟩:=arc_top (v:=239) hn (by decide)
 have hW:=bsumW
 have h176:2^176<W192:=by decide
 have e:-4*arcZ 239 n=-(4*arcZ 239 n):=by rw[Int.neg_mul]
 rw[g99_o,ofS (by omega) (by omega),up1S hm hn,ofS (by omega) (by omega),show(5:Int)=((5:Nat):Int) from rfl,partSm hm hn (by omega) (by omega),mulW hm (by decide) (by omega),fitZ_iff.2 (by omega),cond_true,
  ofS (by omega) (by omega),show(239:Int)=((239:Nat):Int) from rfl,partSm hm hn (by omega) (by omega),mulW hm (by decide) (by omega),fitZ_iff.2 (by omega),cond_true,addS hm (by omega) (by omega),e,←Int.sub_eq_add_neg,fitZ_iff.2 h3,cond_true]
 exact nearS hm (p:=16) (by omega) (by omega) h3 k
end
end Go.Proofs.YtlmmgjngihlpeaaGreat.Sx
