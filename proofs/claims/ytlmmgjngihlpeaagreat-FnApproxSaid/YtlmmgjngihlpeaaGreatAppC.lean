import Derived.Test.YtlmmgjngihlpeaaGreatGskDl
import Derived.Test.YtlmmgjngihlpeaaGreatDrawT
import Derived.Test.YtlmmgjngihlpeaaGreatAskH
import Derived.Test.YtlmmgjngihlpeaaGreatSxQ
namespace Go.Proofs.YtlmmgjngihlpeaaGreat.Sx
open Go
set_option linter.unusedVariables false
set_option linter.unusedSimpArgs false
set_option maxRecDepth 100000
section
variable {u:Ty0} {m:Nat}
theorem ask_runM(hok:Okd u)(hm:1048576<m){j n:Nat}(hj:j<u.length)(hn1:n≤1000):
  (∀{z:Int} {s':MS},askM (nd u) u.length j n ms0= .ok (z,s')→
   (∀{α:Type} (k:Bool→List Int→Int→Nat→Nat→Nat→Ty0→Ty3→Ty0→Option α),g36 m (j:Int) (n:Int) 0 u.length u.length u (rowsOf u.length ms0.1) (logOf ms0.2) k=
    k (zs z) (zl z) 0 0 u.length u.length u (rowsOf u.length s'.1) (logOf s'.2))∧
   (∀{α:Type} (k:Bool→List Int→Bool→Int→Ty0→Ty1→Ty0→Option α),g32 m (j:Int) (n:Int) false 0 u (mapOf ms0.1) (logOf ms0.2) k=
    k (zs z) (zl z) false 0 u (mapOf s'.1) (logOf s'.2)))∧
  (∀{c:Int},askM (nd u) u.length j n ms0= .error c→
   (∀{α:Type} (k:Bool→List Int→Int→Nat→Nat→Nat→Ty0→Ty3→Ty0→Option α),∃R L,g36 m (j:Int) (n:Int) 0 u.length u.length u (rowsOf u.length ms0.1) (logOf ms0.2) k=
    k false [0,0,0,0,0,0] c 0 u.length u.length u R L)∧
   (∀{α:Type} (k:Bool→List Int→Bool→Int→Ty0→Ty1→Ty0→Option α),∃o M L,g32 m (j:Int) (n:Int) false 0 u (mapOf ms0.1) (logOf ms0.2) k=
    k (zs 0) (zl 0) o c u M L)):=by
 have hn:=nds_of hok.1.2 hok.2
 have h40:=hok.1.2
 have hS:=fun{α:Type} (k:Bool→List Int→Int→Nat→Nat→Nat→Ty0→Ty3→Ty0→Option α)=>(specAsk hn u.length m u.length (by omega) (Nat.le_refl _) (Nat.le_refl _)) j n ms0 hj hn1 (inv0 _ _ _) k
 have hI:=fun{α:Type} (k:Bool→List Int→Bool→Int→Ty0→Ty1→Ty0→Option α)=>(implAsk hn u.length m u.length (by omega) (Nat.le_refl _) (Nat.le_refl _)) j n ms0 hj hn1 (inv0 _ _ _) k
 refine⟨fun{z s'} hr=> ?_,fun{c} hr=> ?_⟩
 ·rw[hr] at hS hI
  exact⟨hS,hI⟩
 ·rw[hr] at hS hI
  exact⟨hS,hI⟩
theorem askedOk(hok:Okd u){j n:Nat}(hj:j<u.length):OkR (fun z s'=>Near1 (valF (nd u) (j+1) j) n z∧z.natAbs≤B190∧n≤160∧InvS u.length (fun i=>valF (nd u) (i+1) i) u.length s') (askM (nd u) u.length j n ms0):=
 (nds_of hok.1.2 hok.2).good hj hj hj (inv0 _ _ _)
section
variable (hU:RowN u) (hm:1048576<m) (hok:Okd u) {j n:Nat} (hj:j<u.length) (hn:n≤64)
include hU hm hok hj hn
theorem approx_s{α:Type}(k:Bool→List Int→Int→Option α):g9 m (j:Int) (n:Int) u k=g36 m (j:Int) (n:Int) 0 u.length u.length u (rowsOf u.length ms0.1) (logOf ms0.2) (fun b l c _ _ _ _ _ _=>k b l c):=by
 rw[g9_o,askedS m hU hm,if_pos hok,if_pos ⟨⟨by omega,by omega⟩,by omega,by omega⟩,zc,begS m u hok.1.2]
theorem approx_i{α:Type}(k:Bool→List Int→Int→Option α):g8 m (j:Int) (n:Int) u k=g32 m (j:Int) (n:Int) false 0 u (mapOf ms0.1) (logOf ms0.2) (fun x l b c _ M L=>g33 m b c u M L (fun b x'=>cond b (k false [0,0,0,0,0,0] x') (k x l 0))):=by
 have h40:=hok.1.2
 rw[g8_o,begunI m hU hm,if_pos hok,if_pos ⟨⟨by omega,by omega⟩,by omega,by omega⟩,wrap16N (by omega)];rfl
theorem asks_s{α:Type}(k:Int→Ty0→Option α):g13 m (j:Int) (n:Int) u k=g36 m (j:Int) (n:Int) 0 u.length u.length u (rowsOf u.length ms0.1) (logOf ms0.2) (fun _ _ c _ _ _ _ _ L=>cond (c !=0) (k c []) (k 0 L)):=by
 rw[g13_o,askedS m hU hm,if_pos hok,if_pos ⟨⟨by omega,by omega⟩,by omega,by omega⟩,zc,begS m u hok.1.2]
theorem asks_i{α:Type}(k1:Int→Option α)(k2:Ty0→Option α):g12 m (j:Int) (n:Int) u k1 k2=g32 m (j:Int) (n:Int) false 0 u (mapOf ms0.1) (logOf ms0.2) (fun x l b c _ M L=>g33 m b c u M L (fun b x'=>cond b (k1 x') (k2 L))):=by
 have h40:=hok.1.2
 rw[g12_o,begunI m hU hm,if_pos hok,if_pos ⟨⟨by omega,by omega⟩,by omega,by omega⟩,wrap16N (by omega)];rfl
theorem approxOk{z:Int}{s':MS}(hr:askM (nd u) u.length j n ms0= .ok (z,s')):
  (∀{α:Type} (k:Bool→List Int→Int→Option α),g9 m (j:Int) (n:Int) u k=k (zs z) (zl z) 0)∧(∀{α:Type} (k:Bool→List Int→Int→Option α),g8 m (j:Int) (n:Int) u k=k (zs z) (zl z) 0)∧
  (∀{α:Type} (k:Int→Ty0→Option α),g13 m (j:Int) (n:Int) u k=k 0 (logOf s'.2))∧(∀{α:Type} (k1:Int→Option α) (k2:Ty0→Option α),g12 m (j:Int) (n:Int) u k1 k2=k2 (logOf s'.2)):=by
 obtain⟨h2,h3⟩:=(ask_runM (m:=m) hok hm hj (n:=n) (by omega)).1 hr
 exact⟨fun k=>(approx_s hU hm hok hj hn k).trans (h2 _),fun k=>(approx_i hU hm hok hj hn k).trans ((h3 _).trans (failLive _ _ _)),
  fun k=>(asks_s hU hm hok hj hn k).trans (h2 _),fun k1 k2=>(asks_i hU hm hok hj hn k1 k2).trans ((h3 _).trans (failLive _ _ _))⟩
theorem approxErr{c:Int}(hc:c≠0)(hr:askM (nd u) u.length j n ms0= .error c):
  (∀{α:Type} (k:Bool→List Int→Int→Option α),g9 m (j:Int) (n:Int) u k=k false [0,0,0,0,0,0] c)∧(∀{α:Type} (k:Bool→List Int→Int→Option α),g8 m (j:Int) (n:Int) u k=k false [0,0,0,0,0,0] c):=by
 obtain⟨h2,h3⟩:=(ask_runM (m:=m) hok hm hj (n:=n) (by omega)).2 hr
 refine⟨fun k=>(approx_s hU hm hok hj hn k).trans ?_,fun k=>(approx_i hU hm hok hj hn k).trans ?_⟩
 ·exact useEx2 h2 fun R L=>rfl
 ·exact useEx3 h3 fun o M L=>failDead o hc _ _ _
end
end
section
variable {α:Type}
theorem withinI(n:Nat){x y:Int}(hx:x.natAbs<W192)(hy:y.natAbs<W192){p t:Nat}(hp:p≤64)(ht:t≤64)(h1:(x*2^t).natAbs<W192)(h2:(x*2^t-y).natAbs<W192)(hle:(x*2^t-y).natAbs≤2^t+1)(k:Bool→Int→Option α):
  g11 (n+40) (zs x) (zl x) (zs y) (zl y) (p:Int) (t:Int) k=k true 0:=by
 have f1:1*2^t<W192:=by
  rw[Nat.one_mul]
  exact Nat.lt_of_le_of_lt (Nat.pow_le_pow_right (by decide) ht) (by decide)
 have f2:1*2^t+1<W192:=by
  rw[Nat.one_mul]
  have:=Nat.pow_le_pow_right (n:=2) (by decide) ht
  exact Nat.lt_of_le_of_lt (Nat.add_le_add_right this 1) (by decide)
 rw[g11_o,g15Z _ hx,Bool.not_true,cond_false,g15Z _ hy,Bool.not_true,cond_false,g40L,dT ⟨by omega,by omega⟩,Bool.not_true,cond_false,g40L,dT ⟨by omega,by omega⟩,Bool.not_true,cond_false,
  g42Z (n:=n) t false (by omega) hx,fitZ_iff.2 h1,cond_true,g41Z (n:=n+33) h1 hy,fitZ_iff.2 h2,zt_of h2,Bool.not_true,Bool.or_false,cond_false,g43L,g44L (n+33) t (by omega) (show 1<W192 by decide),g43L,
  g45L (n+33) f1 (by decide)]
 unfold zl
 rw[g46L (n+33) h2 f2,cmpN_le,dT (by rw[Nat.one_mul];exact hle)]
end
theorem near_two{v:Rat}{n t:Nat}{x y:Int}(hx:Near1 v n x)(hy:Near1 v (n+t) y):(x*2^t-y).natAbs≤2^t+1:=by
 obtain⟨a1,a2⟩:=hx
 obtain⟨b1,b2⟩:=hy
 have hp:=pow2Q_pos t
 have e:v*2^(n+t)=v*2^n*2^t:=by rw[pow2Q_add,Rat.mul_assoc]
 rw[e] at b1 b2
 generalize v*2^n=w at*
 have c1:((x:Rat)-w)*2^t≤1*2^t:=Rat.mul_le_mul_of_nonneg_right a1 (Rat.le_of_lt hp)
 have c2:(w-(x:Rat))*2^t≤1*2^t:=Rat.mul_le_mul_of_nonneg_right a2 (Rat.le_of_lt hp)
 have d:((2^t:Int):Rat)=(2:Rat)^t:=by simp
 have g1:((x*2^t-y:Int):Rat)≤((2^t+1:Int):Rat):=by
  rw[Rat.intCast_sub,Rat.intCast_mul,Rat.intCast_add,d]
  grind
 have g2:((y-x*2^t:Int):Rat)≤((2^t+1:Int):Rat):=by
  rw[Rat.intCast_sub,Rat.intCast_mul,Rat.intCast_add,d]
  grind
 have h1:=Rat.intCast_le_intCast.1 g1
 have h2:=Rat.intCast_le_intCast.1 g2
 have h3:((2^t:Nat):Int)=(2:Int)^t:=by simp
 omega
section
variable {α:Type}
theorem sameAsks(m:Nat)(u:List (List Int))(hn:u.length≤1048576)(hm:1048576<m)(k:Bool→Option α):g14v1 m u u k=k true:=by
 rw[g14v1_o,bne_self_eq_false,cond_false]
 have:=loopR (fun m' i=>g14v1l0 u u (k false) (k true) m' (i:Int)) (fun _=>k true) u.length (fun m'=> ?_) (fun m' i hi h=> ?_) u.length 0 m (by omega) (by omega)
 ·simpa using this
 ·rw[g14v1l0_s,dF (by omega),cond_false]
 ·rw[g14v1l0_s,dT (by omega),cond_true,if_pos (cast_lt hi),Int.toNat_natCast,if_pos hi,if_pos (cast_lt hi),if_pos hi,beq_self_eq_true,beq_self_eq_true,Bool.and_true,Bool.not_true,cond_false,wrapS (by omega),h]
theorem sameDigits(m:Nat)(u:List Int)(hn:u.length≤1048576)(hm:1048576<m)(k:Bool→Option α):g18v1 m u u k=k true:=by
 rw[g18v1_o,bne_self_eq_false,cond_false]
 have:=loopR (fun m' i=>g18v1l0 u u (k false) (k true) m' (i:Int)) (fun _=>k true) u.length (fun m'=> ?_) (fun m' i hi h=> ?_) u.length 0 m (by omega) (by omega)
 ·simpa using this
 ·rw[g18v1l0_s,dF (by omega),cond_false]
 ·rw[g18v1l0_s,dT (by omega),cond_true,if_pos (cast_lt hi),Int.toNat_natCast,if_pos hi,if_pos (cast_lt hi),if_pos hi,bne_self_eq_false,cond_false,wrapS (by omega),h]
theorem sameDigits0(m:Nat)(hm:0<m)(k:Bool→Option α):g18 m [] k=k true:=by
 obtain⟨m,rfl⟩:∃n,m=n+1:=⟨m-1,by omega⟩
 rw[g18_o,g18l0_s];rfl
theorem noneOther(m:Nat){u:List Int}(hd:∀d∈u,-1≤d∧d≤1)(hn:u.length≤1048576)(hm:1048576<m)(k:Bool→Option α):g50 m u k=k false:=by
 rw[g50_o,g83_o]
 have:=loopR (fun m' i=>g83l0 (g51 m) ((u.length:Nat):Int) u (fun x=>k (decide (x≥0))) (k (decide ((-1:Int)≥0))) m' (i:Int)) (fun _=>k false) u.length (fun m'=> ?_) (fun m' i hi h=> ?_) u.length 0 m (by omega) (by omega)
 ·exact this
 ·rw[g83l0_s,dF (by omega),cond_false];rfl
 ·have hx:=hd _ (List.getElem_mem hi)
  rw[g83l0_s,dT (by omega),cond_true,if_pos (cast_lt hi),Int.toNat_natCast,if_pos hi,getD_at u 0 hi,g51_o,g52_o,dT (by omega),cond_true,dT (by omega),Bool.not_true,cond_false,wrapS (by omega),h]
theorem digV_back{L:List Int}{d W:Int}(hd:-1≤d∧d≤1):(digV W L).natAbs≤(digV W (L++[d])).natAbs∧(2*digV W L).natAbs≤(digV W (L++[d])).natAbs+1:=by
 rw[digV_snoc]
 generalize digV W L=S
 omega
theorem digV_take{W:Int}{u:List Int}(hd:∀d∈u,-1≤d∧d≤1):∀(e i:Nat),i+e=u.length→(digV W (u.take i)).natAbs≤(digV W u).natAbs
 |0,i,h=>by rw[List.take_of_length_le (by omega)];exact Nat.le_refl _
 |e+1,i,h=>by
  have hi:i<u.length:=by omega
  have ih:=digV_take (W:=W) hd e (i+1) (by omega)
  rw[←take_snoc u hi] at ih
  exact Nat.le_trans (digV_back (hd _ (List.getElem_mem hi))).1 ih
theorem valueLoop(q:Nat)(hq:300≤q){W:Int}{u:List Int}(hd:∀d∈u,-1≤d∧d≤1)(hn:u.length≤1048576)(hB:(digV W u).natAbs+1<W192)(a:Bool)(b:List Int)(k:Bool→Bool→List Int→Option α):∀(e f i:Nat),i+e=u.length→e<f→
  g19l0 (g55 q) (g54 q) (g53 q) ((u.length:Nat):Int) u a b k f (i:Int) false (zs (digV W (u.take i))) (zl (digV W (u.take i)))=k false (zs (digV W u)) (zl (digV W u))
 |0,f,i,h,hf=>by
  obtain⟨f,rfl⟩:∃g,f=g+1:=⟨f-1,by omega⟩
  rw[g19l0_s,dF (by omega),cond_false,List.take_of_length_le (by omega)]
 |e+1,f,i,h,hf=>by
  obtain⟨f,rfl⟩:∃g,f=g+1:=⟨f-1,by omega⟩
  have hi:i<u.length:=by omega
  have hx:=hd _ (List.getElem_mem hi)
  have h1:=digV_take (W:=W) hd (e+1) i h
  have h2:=digV_take (W:=W) hd e (i+1) (by omega)
  have h3:=(digV_back (L:=u.take i) (W:=W) hx).2
  have ih:=valueLoop q hq hd hn hB a b k e f (i+1) (by omega) (by omega)
  rw[←take_snoc u hi] at h2 ih
  have es:=digV_snoc W (u.take i) u[i]
  have hu:(u[i]).natAbs<W192:=Nat.lt_of_le_of_lt (show(u[i]).natAbs≤1 by omega) (by decide)
  rw[g19l0_s,dT (by omega),cond_true,if_pos (cast_lt hi),Int.toNat_natCast,if_pos hi,getD_at u 0 hi,g55Z _ (by omega) (by omega),mulI hq (by decide) (by omega),fitZ_iff.2 (by omega),cond_true,wrapI (by omega) (by omega),g55Z _ (by omega) (by omega),
   addI hq (by omega) hu,←es,zt_of (by omega),fitZ_iff.2 (by omega),Bool.not_true,Bool.or_false,wrapS (by omega)]
  exact ih
theorem valueI(m:Nat)(hm:1048576<m){W:Int}{u:List Int}(hd:∀d∈u,-1≤d∧d≤1)(hn:u.length≤64)(hB:(digV W u).natAbs+1<W192)(hW:W.natAbs<W192)(k:Bool→List Int→Int→Option α):
  g19 m (zs W) (zl W) u k=k (zs (digV W u)) (zl (digV W u)) 0:=by
 rw[g19_o,g15Z _ hW,Bool.not_true,cond_false,noneOther m hd (by omega) hm,cond_false,dF (by omega),cond_false]
 refine(valueLoop m (by omega) (W:=W) hd (by omega) hB _ _ _ u.length m 0 (by omega) (by omega)).trans ?_
 rw[g56_o];rfl
end
theorem kept_of{X:Nat→List Int}{len f j n:Nat}(hX:∀i,i<len→NdOk (X i) i)(hf:j<f)(hl:j<len){z:Int}{s':MS}(hr:askM X f j n ([],[])= .ok (z,s')):KeptOk X len s':=by
 cases hP:askP X (j+1) j n with
 |error c=>
  have:=(askM_err_iff hX hf hl (keptOk0 X len)).2 hP
  rw[hr] at this;cases this
 |ok z2=>
  obtain⟨s2,h1,h2⟩:=(askM_ok_iff hX hf hl (keptOk0 X len)).2 hP
  rw[hr] at h1
  cases h1
  exact h2
theorem asked_all{u:Ty0}(hok:Okd u){j n:Nat}(hj:j<u.length){z:Int}{s':MS}(hr:askM (nd u) u.length j n ms0= .ok (z,s')):∀p∈s'.2,p.1<u.length∧p.2≤160∧
  ∃z2 s2,z2.natAbs<W192∧askM (nd u) u.length p.1 (min 64 p.2) ms0= .ok (z2,s2):=by
 have hn:=nds_of hok.1.2 hok.2
 have hX:∀i,i<u.length→NdOk (nd u i) i:=fun i hi=>(hn.ok i hi).toNdOk
 have ho:=askedOk (n:=n) hok hj
 rw[hr] at ho
 obtain⟨_,_,_,hs⟩:=ho
 have hk:=kept_of hX hj hj hr
 intro p hp
 obtain⟨hl,h160⟩:=hs.log p hp
 obtain⟨z1,hz1⟩:=hs.don p hp hl
 have e1:=hk _ hz1 hl
 obtain⟨z2,e2⟩:=(askP_good hX hn.val (inv0 _ _ _) (p.1+1) p.1 (by omega) hl).mono p.2 (min 64 p.2) (Nat.min_le_right _ _) ⟨z1,e1⟩
 obtain⟨s2,e3,_⟩:=(askM_ok_iff hX (f:=u.length) hl hl (keptOk0 (nd u) u.length)).2 e2
 have ho2:=askedOk (n:=min 64 p.2) hok hl
 rw[e3] at ho2
 exact⟨hl,h160,z2,s2,b190h ho2.2.1,e3⟩
section
variable {α:Type}
theorem log_at(L:List (Nat×Nat)){i:Nat}(hi:i<L.length):List.getD (logOf L) i []=[((L[i]).1:Int),((L[i]).2:Int)]:=by
 rw[getD_at _ _ (by rw[log_len];exact hi)]
 simp[logOf]
theorem distinctLoop(x y:Int){L:List (Nat×Nat)}(hL:L.length≤1048576)(hnd:L.Nodup){i:Nat}(hi:i<L.length)(a c:Nat)(b d:List Int)(u:Ty0)(e:Bool)(l:List Int)(kF kT:Option α):∀(r f v:Nat),v+r=i→r<f→
  g3l2 x y (i:Int) a b c d u e l (logOf L) kF kT f (v:Int)=kT
 |0,f,v,h,hf=>by
  obtain⟨f,rfl⟩:∃g,f=g+1:=⟨f-1,by omega⟩
  rw[g3l2_s,dF (by omega),cond_false]
 |r+1,f,v,h,hf=>by
  obtain⟨f,rfl⟩:∃g,f=g+1:=⟨f-1,by omega⟩
  have hv:v<L.length:=by omega
  have ih:=distinctLoop x y hL hnd hi a c b d u e l kF kT r f (v+1) (by omega) (by omega)
  have hne:L[v]≠L[i]:=fun he=>by
   have:=(List.getElem_inj hnd).1 he
   omega
  have hc:(((((L[v]).1:Nat):Int)==(((L[i]).1:Nat):Int))&&((((L[v]).2:Nat):Int)==(((L[i]).2:Nat):Int)))=false:=by
   by_cases h1:(L[v]).1=(L[i]).1
   ·have h2:(L[v]).2≠(L[i]).2:=fun h2=>hne (Prod.ext h1 h2)
    rw[show((((L[v]).2:Nat):Int)==(((L[i]).2:Nat):Int))=false from dF (p:=(((L[v]).2:Nat):Int)=(((L[i]).2:Nat):Int)) (by omega),Bool.and_false]
   ·rw[show((((L[v]).1:Nat):Int)==(((L[i]).1:Nat):Int))=false from dF (p:=(((L[v]).1:Nat):Int)=(((L[i]).1:Nat):Int)) (by omega),Bool.false_and]
  rw[g3l2_s,dT (by omega),cond_true,if_pos ⟨by omega,by rw[log_len];omega⟩,Int.toNat_natCast,if_pos (by rw[log_len];exact hv),if_pos ⟨by omega,by rw[log_len];omega⟩,Int.toNat_natCast,if_pos (by rw[log_len];exact hi),log_at L hv,log_at L hi]
  simp only[List.headD_cons,List.tail_cons]
  rw[hc,cond_false,wrapS (by omega)]
  exact ih
theorem imin64(n:Nat):imin (64:Int) (n:Int)=((min 64 n:Nat):Int):=by
 unfold imin
 split<;>omega
theorem allLoop{q:Nat}(hq:1048576<q){u:Ty0}(hU:RowN u)(hok:Okd u)(x y:Int){L:List (Nat×Nat)}(hL:L.length≤6440)(hnd:L.Nodup)
  (hall:∀p∈L,p.1<u.length∧p.2≤160∧∃z2 s2,z2.natAbs<W192∧askM (nd u) u.length p.1 (min 64 p.2) ms0= .ok (z2,s2)) (a c:Nat) (b d:List Int) (e:Bool) (l:List Int) (kF kT:Option α):∀(r f i:Nat),i+r=L.length→r<f→
  g3l0 (g8 q) (g15 q) (g3l2M q) x y a b c d u e l (logOf L) kF kT f (i:Int)=kT
 |0,f,i,h,hf=>by
  obtain⟨f,rfl⟩:∃g,f=g+1:=⟨f-1,by omega⟩
  rw[g3l0_s,log_len,dF (by omega),cond_false]
 |r+1,f,i,h,hf=>by
  obtain⟨f,rfl⟩:∃g,f=g+1:=⟨f-1,by omega⟩
  have hi:i<L.length:=by omega
  have ih:=allLoop hq hU hok x y hL hnd hall a c b d e l kF kT r f (i+1) (by omega) (by omega)
  obtain⟨hp1,hp2,z2,s2,hz2,hr⟩:=hall _ (List.getElem_mem hi)
  have h40:=hok.1.2
  have hA:=(approxOk hU hq hok hp1 (n:=min 64 (L[i]).2) (Nat.min_le_left _ _) hr).2.1 (α:=α)
  rw[g3l0_s,log_len,dT (by omega),cond_true]
  refine(distinctLoop x y (by omega) hnd hi a c b d u e l _ _ i q 0 (by omega) (by omega)).trans ?_
  rw[if_pos ⟨by omega,by omega⟩,Int.toNat_natCast,if_pos hi,if_pos ⟨by omega,by omega⟩,if_pos hi,log_at L hi]
  simp only[List.headD_cons,List.tail_cons]
  rw[wrapI (x:=(((L[i]).1:Nat):Int)) (by omega) (by omega),wrapI (x:=(((L[i]).2:Nat):Int)) (by omega) (by omega),imin64,hA,bne_self_eq_false,cond_false,g15Z _ hz2,Bool.not_true,cond_false,wrapS (by omega)]
  exact ih
end
theorem P6Pick_resV(m:Nat){u:List Int}(hu:Byt u)(n:Int)(hn:n≤1000000):∃x:Int,0≤x∧(1<n→x<n)∧(n≤1→x=0)∧
  ∀{α:Type} (k:Int→Option α),g7v1 m n u k=k x:=by
 obtain⟨x,s,b,h1,h2,h3,_,_,h⟩:=pick_resV m hu (at':=0) (by omega) 0 n hn
 exact⟨x,h1,h2,h3,fun{α} k=>by rw[g7v1_o,g29v1_o];exact h _⟩
theorem selfP{x:Int}(hx:x.natAbs<W192):((zs x==zs x)&&(eqLI (zl x) (zl x)))=true:=by
 have e:eqLI (zl x) (zl x)=decide (x.natAbs=x.natAbs):=eqLI_limbs hx hx
 rw[e,beq_self_eq_true,decide_eq_true rfl];rfl
theorem small12:2^12+2+2*B190<W192:=by
 have h1:=b190W
 have h2:2^12+2<2*B190:=by decide
 omega
open Classical in
theorem validT{α:Type}{u:Ty0}(hU:RowN u)(hok:Okd u)(m:Nat)(hm:u.length<m)(k:Bool→Option α):g10 m u k=k true:=by
 rw[g10L m 0 hU hm]
 congr 1
 exact decide_eq_true hok
theorem lawApprox{α:Type}(m c c':Nat)(hm:1048576<m){u v:List Int}(hu:Byt u)(hv:Byt v)(k:Bool→Option α):
  g3 m 0 u.length c 0 v.length c' u.length u v.length v k=k true:=by
 obtain⟨m0,hm0⟩:∃g,m=g+40:=⟨m-40,by omega⟩
 rw[g3_o,g5_o]
 by_cases hul:u.length≤4096
 ·rw[dF (by omega),cond_false,g5_o]
  by_cases hvl:v.length≤4096
  ·rw[dF (by omega),cond_false]
   obtain⟨t,ht,t1,t7,et⟩:=P6Term_res m c (by omega) hu
   obtain⟨x,x0,x1,_,ex⟩:=P6Pick_res m c' hv 12 (by omega)
   have hv1:Byt ([(1:Int)]++List.take v.length (List.drop 0 v)):=by
    intro x hx
    rw[List.drop_zero,List.take_length] at hx
    rcases List.mem_append.1 hx with h|h
    ·rw[List.mem_singleton.1 h];omega
    ·exact hv x h
   obtain⟨y,y0,y1,_,ey⟩:=P6Pick_resV m hv1 12 (by omega)
   have hx12:=x1 (by omega)
   have hy12:=y1 (by omega)
   obtain⟨n,rfl⟩:∃n:Nat,x=n:=⟨x.toNat,by omega⟩
   obtain⟨s,rfl⟩:∃s:Nat,y=s:=⟨y.toNat,by omega⟩
   have hU:=ht.rowN (by omega)
   have hok:Okd t:=⟨⟨t1,by omega⟩,ht.okFrom⟩
   obtain⟨j,hjl⟩:∃j,t.length=j+1:=⟨t.length-1,by omega⟩
   have hj:j<t.length:=by omega
   have hwj:IntKind.wrap .i64 (((t.length:Nat):Int)-(1:Int))=(j:Int):=by rw[wrapI (by omega) (by omega)];omega
   have hwn:IntKind.wrap .i64 ((n:Int)+(s:Int))=((n+s:Nat):Int):=by rw[wrapI (by omega) (by omega)];omega
   have hvalid:∀k:Bool→Option α,g10 m t k=k true:=validT hU hok m (by omega)
   have hS:=small12
   have ok1:=askedOk (n:=n) hok hj
   have ok2:=askedOk (n:=n+s) hok hj
   rw[et]
   dsimp only
   rw[hwj,ex,if_pos (by omega),if_pos (by rw[List.drop_zero,List.take_length];omega),ey,hwn]
   cases hr1:askM (nd t) t.length j n ms0 with
   |error c1=>
    rw[hr1] at ok1
    have hc1:c1=3∨c1=7:=ok1
    obtain⟨a1,a2⟩:=approxErr hU hm hok hj (n:=n) (by omega) (show c1≠0 by omega) hr1
    have a1':=a1 (α:=α)
    have a2':=a2 (α:=α)
    rw[a2',a1']
    cases hr2:askM (nd t) t.length j (n+s) ms0 with
    |error c2=>
     rw[hr2] at ok2
     have hc2:c2=3∨c2=7:=ok2
     obtain⟨b1,b2⟩:=approxErr hU hm hok hj (n:=n+s) (by omega) (show c2≠0 by omega) hr2
     have b1':=b1 (α:=α)
     have b2':=b2 (α:=α)
     rw[b2',b1',bne_self_eq_false,cond_false,show(!((false==false)&&(eqLI [0,0,0,0,0,0] [0,0,0,0,0,0])))=false from rfl,cond_false,bne_self_eq_false,cond_false,cond_false,hvalid,Bool.not_true,cond_false]
     rcases hc1 with rfl|rfl<;>rcases hc2 with rfl|rfl<;>rfl
    |ok r2=>
     obtain⟨z2,s2⟩:=r2
     rw[hr2] at ok2
     have hz2:=b190h ok2.2.1
     obtain⟨b1,b2,_,_⟩:=approxOk hU hm hok hj (n:=n+s) (by omega) hr2
     have b1':=b1 (α:=α)
     have b2':=b2 (α:=α)
     rw[b2',b1',bne_self_eq_false,cond_false,show(!((false==false)&&(eqLI [0,0,0,0,0,0] [0,0,0,0,0,0])))=false from rfl,cond_false,bne_self_eq_false,cond_false,selfP hz2,Bool.not_true,cond_false,hvalid,Bool.not_true,cond_false]
     rcases hc1 with rfl|rfl<;>rfl
   |ok r1=>
    obtain⟨z1,s1⟩:=r1
    rw[hr1] at ok1
    obtain⟨n1,q1,_,inv1⟩:=ok1
    have hz1:=b190h q1
    obtain⟨a1,a2,a3,a4⟩:=approxOk hU hm hok hj (n:=n) (by omega) hr1
    have a1':=a1 (α:=α)
    have a2':=a2 (α:=α)
    have a3':=a3 (α:=α)
    have a4':=a4 (α:=α)
    rw[a2',a1']
    cases hr2:askM (nd t) t.length j (n+s) ms0 with
    |error c2=>
     rw[hr2] at ok2
     have hc2:c2=3∨c2=7:=ok2
     obtain⟨b1,b2⟩:=approxErr hU hm hok hj (n:=n+s) (by omega) (show c2≠0 by omega) hr2
     have b1':=b1 (α:=α)
     have b2':=b2 (α:=α)
     rw[b2',b1',bne_self_eq_false,cond_false,selfP hz1,Bool.not_true,cond_false,bne_self_eq_false,cond_false,show(!((false==false)&&(eqLI [0,0,0,0,0,0] [0,0,0,0,0,0])))=false from rfl,cond_false,hvalid,Bool.not_true,cond_false]
     rcases hc2 with rfl|rfl<;>rfl
    |ok r2=>
     obtain⟨z2,s2⟩:=r2
     rw[hr2] at ok2
     obtain⟨n2,q2,_,_⟩:=ok2
     have hz2:=b190h q2
     obtain⟨b1,b2,_,_⟩:=approxOk hU hm hok hj (n:=n+s) (by omega) hr2
     have b1':=b1 (α:=α)
     have b2':=b2 (α:=α)
     have hle:=near_two n1 n2
     have hs12:2^s≤2^12:=Nat.pow_le_pow_right (by decide) (by omega)
     have hf2:(z1*2^s-z2).natAbs<W192:=by omega
     have hf1:(z1*2^s).natAbs<W192:=by omega
     have hw1:∀k:Bool→Int→Option α,g11 m (zs z1) (zl z1) (zs z2) (zl z2) (n:Int) (s:Int) k=k true 0:=fun k=>by
      rw[hm0];exact withinI m0 hz1 hz2 (by omega) (by omega) hf1 hf2 hle k
     have hn:=nds_of hok.1.2 hok.2
     have hX:∀i,i<t.length→NdOk (nd t i) i:=fun i hi=>(hn.ok i hi).toNdOk
     obtain⟨rest,hhead⟩:=askM_head hX hn.val (inv0 _ _ _) hj hj hr1
     have hlen:s1.2.length≤6440:=(inv1.short hok.1.2).1
     have h0len:0<s1.2.length:=by rw[hhead];exact Nat.succ_pos _
     have hat:List.getD (logOf s1.2) 0 []=[(j:Int),(n:Int)]:=by rw[hhead];rfl
     rw[b2',b1',bne_self_eq_false,cond_false,selfP hz1,Bool.not_true,cond_false,cond_false,selfP hz2,Bool.not_true,cond_false,hvalid,Bool.not_true,cond_false,cond_false,cond_false,hw1,a4',a3',bne_self_eq_false,cond_false,Bool.not_true,cond_false,cond_false,sameAsks m _ (by rw[log_len];omega) hm,Bool.not_true,cond_false,
      log_len,dF (by omega),cond_false,if_pos ⟨by omega,by omega⟩,if_pos h0len,hat]
     simp only[List.headD_cons,List.tail_cons]
     rw[wrap16N (by omega),wrap16N (by omega),beq_self_eq_true,beq_self_eq_true,Bool.and_true,Bool.not_true,cond_false]
     refine(allLoop hm hU hok _ _ hlen inv1.nod (asked_all hok hj hr1) _ _ _ _ _ _ _ _ s1.2.length m 0 (by omega) (by omega)).trans ?_
     rcases dig_res hU hm (j:Int) (n:Int) with⟨cd,hcd,e1,e2,e3⟩|⟨j',n',W,L,ej,en,hj',hn64,_,hW4,hdk,e1,e2⟩
     ·have hc3:=e3 hok ⟨⟨by omega,by omega⟩,by omega,by omega⟩
      have e1':=e1 (α:=α)
      have e2':=e2 (α:=α)
      rw[e2',e1',bne_self_eq_false,cond_false,show(!((false==false)&&(eqLI [0,0,0,0,0,0] [0,0,0,0,0,0])))=false from rfl,cond_false,sameDigits0 m (by omega),Bool.not_true,cond_false]
      rcases hc3 with rfl|rfl<;>rfl
     ·obtain rfl:j=j':=by omega
      obtain rfl:n=n':=by omega
      have e1':=e1 (α:=α)
      have e2':=e2 (α:=α)
      have hval:=sNear_val hdk.near n1
      have hWW:W.natAbs<W192:=by omega
      have hVW:(digV W L).natAbs+1<W192:=by omega
      have hLl:=hdk.len
      have hw2:∀k:Bool→Int→Option α,g11 m (zs (digV W L)) (zl (digV W L)) (zs z1) (zl z1) (n:Int) (0:Int) k=k true 0:=fun k=>by
       rw[hm0];exact withinI m0 (t:=0) (by omega) hz1 (by omega) (by omega) (by rw[Int.pow_zero,Int.mul_one];omega) (by rw[Int.pow_zero,Int.mul_one];omega) (by rw[Int.pow_zero,Int.mul_one];omega) k
      rw[e2',e1',bne_self_eq_false,cond_false,selfP hWW,Bool.not_true,cond_false,sameDigits m L (by omega) hm,Bool.not_true,cond_false,valueI m hm hdk.one (by omega) hVW hWW,bne_self_eq_false,cond_false,hLl,bne_self_eq_false,cond_false,hw2]
      rfl
  ·rw[dT (by omega),cond_true]
 ·rw[dT (by omega),cond_true]
def apBB:List AP:=[.sl (.int .u8), .sl (.int .u8)]
theorem byt_of{l:List Int}(h:EK.Ws (.int .u8) l):Byt l:=fun x hx=>lit_u8 (h x hx)
theorem lawApproxM(m:Nat)(hm:1048576<m)(ls:List Lf)(hw:WA apBB ls):g3K (g3 m) ls (fun v _ _=>saysTrue v)=some ():=by
 obtain⟨⟨a1,a2,a3,a4,a5,a6⟩,⟨b1,b2,b3,b4,b5,b6⟩,_⟩:=hw
 unfold g3K
 have e0:(lf ls 0).nat=0:=a1
 have e3:(lf ls 3).nat=0:=b1
 have e1:(lf ls 1).nat=((lf ls 7).lst (.int .u8)).length:=a5.symm
 have e4:(lf ls 4).nat=((lf ls 9).lst (.int .u8)).length:=b5.symm
 have e6:(lf ls 6).nat=(lf ls 1).nat:=a2
 have e8:(lf ls 8).nat=(lf ls 4).nat:=b2
 rw[e6,e8,e0,e3,e1,e4]
 exact lawApprox m _ _ hm (byt_of a6) (byt_of b6) _
theorem lawApprox'(ls:List Lf)(hw:WA apBB ls):g3K (g3 1048577) ls (fun v _ _=>saysTrue v)=some ():=lawApproxM 1048577 (by omega) ls hw
end Go.Proofs.YtlmmgjngihlpeaaGreat.Sx
