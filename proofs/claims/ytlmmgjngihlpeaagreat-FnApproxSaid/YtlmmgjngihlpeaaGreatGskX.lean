import Derived.Test.YtlmmgjngihlpeaaGreatGskW
namespace Go.Proofs.YtlmmgjngihlpeaaGreat.Sx
open Go
set_option linter.unusedVariables false
set_option linter.unusedSimpArgs false
set_option maxRecDepth 100000
theorem valR_congr{v w:Nat→Rat}{x:List Int}(ha:usA (kd x)→v (xa x)=w (xa x))(hb:usB (kd x)→v (xb x)=w (xb x)):valR v x=valR w x:=by
 unfold valR
 unfold usA at ha
 unfold usB at hb
 by_cases k1:kd x=1
 ·rw[if_pos k1,if_pos k1]
 rw[if_neg k1,if_neg k1]
 by_cases k2:kd x=2
 ·rw[if_pos k2,if_pos k2,ha (by omega),hb (by omega)]
 rw[if_neg k2,if_neg k2]
 by_cases k3:kd x=3
 ·rw[if_pos k3,if_pos k3,ha (by omega),hb (by omega)]
 rw[if_neg k3,if_neg k3]
 by_cases k4:kd x=4
 ·rw[if_pos k4,if_pos k4,ha (by omega),hb (by omega)]
 rw[if_neg k4,if_neg k4]
 by_cases k5:kd x=5
 ·rw[if_pos k5,if_pos k5,ha (by omega),hb (by omega)]
 rw[if_neg k5,if_neg k5]
 by_cases k6:kd x=6
 ·rw[if_pos k6,if_pos k6,ha (by omega)]
 rw[if_neg k6,if_neg k6]
 by_cases k7:kd x=7
 ·rw[if_pos k7,if_pos k7,ha (by omega)]
 rw[if_neg k7,if_neg k7]
 by_cases k8:kd x=8
 ·rw[if_pos k8,if_pos k8,ha (by omega),hb (by omega)]
 rw[if_neg k8,if_neg k8]
 by_cases k9:kd x=9
 ·rw[if_pos k9,if_pos k9,ha (by omega),hb (by omega)]
 rw[if_neg k9,if_neg k9]
 by_cases k10:kd x=10
 ·rw[if_pos k10,if_pos k10,ha (by omega)]
 rw[if_neg k10,if_neg k10]
theorem valF_eq{X:Nat→List Int}{N:Nat}(hX:∀i,i<N→NdOk (X i) i):∀(f g i:Nat),i<N→i<f→i<g→valF X f i=valF X g i
 |0,_,i,_,h,_=>by omega
 |_+1,0,i,_,_,h=>by omega
 |f+1,g+1,i,hi,hf,hg=>by
  have hx:=hX i hi
  exact valR_congr (fun h=>valF_eq hX f g _ (by have:=hx.a h;omega) (by have:=hx.a h;omega) (by have:=hx.a h;omega)) (fun h=>valF_eq hX f g _ (by have:=hx.b h;omega) (by have:=hx.b h;omega) (by have:=hx.b h;omega))
theorem nds_of{u:Ty0}(h40:u.length≤40)(hu:OkFrom u 0):Nds u.length (fun i=>valF (nd u) (i+1) i) u:=by
 have ok:∀i,i<u.length→NdR (nd u i) i:=fun i hi=>by
  have h:OkN (kd (nd u i)) ((nd u i).tail.headD 0) ((nd u i).tail.tail.headD 0) (xp (nd u i)) (xq (nd u i)) i:=hu i (by omega) hi
  unfold OkN at h
  have ea:xa (nd u i)=((nd u i).tail.headD 0).toNat:=rfl
  have eb:xb (nd u i)=((nd u i).tail.tail.headD 0).toNat:=rfl
  refine⟨⟨fun h1=> ?_,fun h1=> ?_,fun h1=> ?_⟩, ?_,fun h1=> ?_,fun h1=> ?_⟩<;>(try unfold usA at h1)<;>(try unfold usB at h1)<;>omega
 refine⟨h40,rfl,ok,fun i hi=> ?_⟩
 have hx:=(ok i hi).toNdOk
 have hX:∀i,i<u.length→NdOk (nd u i) i:=fun i hi=>(ok i hi).toNdOk
 exact valR_congr (fun h=>valF_eq hX _ _ _ (by have:=hx.a h;omega) (by have:=hx.a h;omega) (by omega)) (fun h=>valF_eq hX _ _ _ (by have:=hx.b h;omega) (by have:=hx.b h;omega) (by omega))
def Okd(u:Ty0):Prop:=(1≤u.length∧u.length≤40)∧OkFrom u 0
open Classical in
theorem askedS{α:Type}(m:Nat){u:Ty0}(hu:RowN u)(hm:1048576<m)(p q:Int)(k:Int→Option α):
  g34 m p q u k=if Okd u then(if(0≤p∧p<u.length)∧0≤q∧q≤64 then k 0 else k 2) else k 1:=by
 have h2:=hu.len
 rw[g34_o,g67L m 0 hu (by omega)]
 by_cases hu0:Okd u
 ·have hu1:(1≤u.length∧u.length≤40)∧OkFrom u 0:=hu0
  rw[dT hu1,if_pos hu0,Bool.not_true,cond_false,g68_o,g95L,wrapI (by omega) (by omega)]
  by_cases hp:0≤p∧p<u.length
  ·rw[dT (by omega),Bool.not_true,cond_false,g69_o,g95L]
   by_cases hq:0≤q∧q≤64
   ·rw[dT hq,Bool.not_true,cond_false,if_pos ⟨hp,hq⟩]
   ·rw[dF hq,if_neg (fun h=>hq h.2)];rfl
  ·rw[dF (by omega),if_neg (fun h=>hp h.1)];rfl
 ·have hu1:¬((1≤u.length∧u.length≤40)∧OkFrom u 0):=hu0
  rw[dF hu1,if_neg hu0];rfl
open Classical in
theorem begunI{α:Type}(m:Nat){u:Ty0}(hu:RowN u)(hm:1048576<m)(p q w:Int)(k1:Int→Option α)(k:Ty1→Ty0→Option α):
  g31 m q w 0 1 1 u [p] k1 k=if Okd u then(if(0≤p∧p<u.length)∧0≤q∧q≤w then k [] [] else k1 2) else k1 1:=by
 have h2:=hu.len
 obtain⟨f,rfl⟩:∃f,m=f+2:=⟨m-2,by omega⟩
 rw[g31_o,g10L (f+2) 0 hu (by omega)]
 by_cases hu0:Okd u
 ·have hu1:(1≤u.length∧u.length≤40)∧OkFrom u 0:=hu0
  rw[dT hu1,if_pos hu0,Bool.not_true,cond_false,g64_o,show f+2=(f+1)+1 from rfl,g64l0_s,dT (by omega),cond_true,if_pos (by omega),if_pos (by decide),g40L,wrapI (x:=((u.length:Nat):Int)-1) (by omega) (by omega)]
  by_cases hp:0≤p∧p<u.length
  ·rw[dT (show 0≤List.getD [p] (0+(0:Int).toNat) 0∧List.getD [p] (0+(0:Int).toNat) 0≤((u.length:Nat):Int)-1 by
     show 0≤p∧p≤((u.length:Nat):Int)-1;omega),Bool.not_true,cond_false,g64l0_s,show IntKind.wrap .i64 ((0:Int)+1)=1 from by decide,dF (by omega),cond_false,cond_false,g40L]
   by_cases hq:0≤q∧q≤w
   ·rw[dT hq,Bool.not_true,cond_false,g65_o,if_pos ⟨hp,hq⟩]
   ·rw[dF hq,if_neg (fun h=>hq h.2)];rfl
  ·rw[dF (show¬(0≤List.getD [p] (0+(0:Int).toNat) 0∧List.getD [p] (0+(0:Int).toNat) 0≤((u.length:Nat):Int)-1) by
     show¬(0≤p∧p≤((u.length:Nat):Int)-1);omega),if_neg (fun h=>hp h.1)];rfl
 ·have hu1:¬((1≤u.length∧u.length≤40)∧OkFrom u 0):=hu0
  rw[dF hu1,if_neg hu0];rfl
theorem rows_nil(N:Nat):(List.replicate N []:Ty3)=rowsOf N ([]:List (Nat×Nat×Int)):=by
 unfold rowsOf
 refine List.ext_getElem (by simp) fun i h1 h2=> ?_
 simp
abbrev ms0:MS:=([],[])
theorem begS{α:Type}(m:Nat)(u:Ty0)(h:u.length≤40)(k:Nat→Nat→Ty3→Ty0→Option α):g35 m u k=k u.length u.length (rowsOf u.length ms0.1) (logOf ms0.2):=by
 rw[g35_o,if_pos ⟨rfl,by omega,by omega⟩]
 dsimp only
 rw[rows_nil];rfl
theorem inv0(N:Nat)(v:Nat→Rat)(b:Nat):InvS N v b ms0:=⟨by simp,by simp,by simp,by simp,by simp,by simp⟩
theorem err_nz{β:Type}{P:β→MS→Prop}{r:Except Int (β×MS)}{c:Int}(ho:OkR P r)(hr:r= .error c):c≠0:=by
 subst hr
 have ho:c=3∨c=7:=ho
 omega
section
variable {u:Ty0} {m:Nat}
end
end Go.Proofs.YtlmmgjngihlpeaaGreat.Sx
