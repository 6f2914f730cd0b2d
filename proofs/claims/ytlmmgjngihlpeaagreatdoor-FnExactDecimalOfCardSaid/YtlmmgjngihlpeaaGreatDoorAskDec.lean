import Derived.Test.YtlmmgjngihlpeaaGreatDoorAskW
import Derived.Test.YtlmmgjngihlpeaaGreatDoorTxtE
namespace Go.Proofs.YtlmmgjngihlpeaaGreatDoor.Sx
open Go
set_option linter.unusedVariables false
set_option linter.unusedSimpArgs false
set_option maxRecDepth 100000
theorem valR_congr{v w:Nat→Rat}{x:List Int}(ha:usA (kd x)→v (xa x)=w (xa x))(hb:usB (kd x)→v (xb x)=w (xb x)):valR v x=valR w x:=by
 unfold valR
 unfold usA at ha
 unfold usB at hb
 by_cases k1:kd x=1
 ·rw[if_pos k1,if_pos k1]
 rw[if_neg k1,if_neg k1]
 by_cases k2:kd x=2
 ·rw[if_pos k2,if_pos k2,ha (by omega),hb (by omega)]
 rw[if_neg k2,if_neg k2]
 by_cases k3:kd x=3
 ·rw[if_pos k3,if_pos k3,ha (by omega),hb (by omega)]
 rw[if_neg k3,if_neg k3]
 by_cases k4:kd x=4
 ·rw[if_pos k4,if_pos k4,ha (by omega),hb (by omega)]
 rw[if_neg k4,if_neg k4]
 by_cases k5:kd x=5
 ·rw[if_pos k5,if_pos k5,ha (by omega),hb (by omega)]
 rw[if_neg k5,if_neg k5]
 by_cases k6:kd x=6
 ·rw[if_pos k6,if_pos k6,ha (by omega)]
 rw[if_neg k6,if_neg k6]
 by_cases k7:kd x=7
 ·rw[if_pos k7,if_pos k7,ha (by omega)]
 rw[if_neg k7,if_neg k7]
 by_cases k8:kd x=8
 ·rw[if_pos k8,if_pos k8,ha (by omega),hb (by omega)]
 rw[if_neg k8,if_neg k8]
 by_cases k9:kd x=9
 ·rw[if_pos k9,if_pos k9,ha (by omega),hb (by omega)]
 rw[if_neg k9,if_neg k9]
 by_cases k10:kd x=10
 ·rw[if_pos k10,if_pos k10,ha (by omega)]
 rw[if_neg k10,if_neg k10]
theorem valF_eq{X:Nat→List Int}{N:Nat}(hX:∀i,i<N→NdOk (X i) i):∀(f g i:Nat),i<N→i<f→i<g→valF X f i=valF X g i
 |0,_,i,_,h,_=>by omega
 |_+1,0,i,_,_,h=>by omega
 |f+1,g+1,i,hi,hf,hg=>by
  have hx:=hX i hi
  exact valR_congr (fun h=>valF_eq hX f g _ (by have:=hx.a h;omega) (by have:=hx.a h;omega) (by have:=hx.a h;omega)) (fun h=>valF_eq hX f g _ (by have:=hx.b h;omega) (by have:=hx.b h;omega) (by have:=hx.b h;omega))
theorem nds_of{u:Ty0}(h40:u.length≤40)(hu:OkFrom u 0):Nds u.length (fun i=>valF (nd u) (i+1) i) u:=by
 have ok:∀i,i<u.length→NdR (nd u i) i:=fun i hi=>by
  have h:OkN (kd (nd u i)) ((nd u i).tail.headD 0) ((nd u i).tail.tail.headD 0) (xp (nd u i)) (xq (nd u i)) i:=hu i (by omega) hi
  unfold OkN at h
  have ea:xa (nd u i)=((nd u i).tail.headD 0).toNat:=rfl
  have eb:xb (nd u i)=((nd u i).tail.tail.headD 0).toNat:=rfl
  refine⟨⟨fun h1=> ?_,fun h1=> ?_,fun h1=> ?_⟩, ?_,fun h1=> ?_,fun h1=> ?_⟩<;>(try unfold usA at h1)<;>(try unfold usB at h1)<;>omega
 refine⟨h40,ok,fun i hi=> ?_⟩
 have hx:=(ok i hi).toNdOk
 have hX:∀i,i<u.length→NdOk (nd u i) i:=fun i hi=>(ok i hi).toNdOk
 exact valR_congr (fun h=>valF_eq hX _ _ _ (by have:=hx.a h;omega) (by have:=hx.a h;omega) (by omega)) (fun h=>valF_eq hX _ _ _ (by have:=hx.b h;omega) (by have:=hx.b h;omega) (by omega))
def Okd(u:Ty0):Prop:=(1≤u.length∧u.length≤40)∧OkFrom u 0
open Classical in
theorem askedS{α:Type}(m a:Nat){u:Ty0}(hu:RowN u)(hm:1048576<m)(p q:Int)(k:Int→Option α):
  g43 m 0 u.length a p q u.length u k=if Okd u then(if(0≤p∧p<u.length)∧0≤q∧q≤64 then k 0 else k 2) else k 1:=by
 have h2:=hu.len
 rw[g43_o,g57L m a hu (by omega)]
 by_cases hu0:Okd u
 ·have hu1:(1≤u.length∧u.length≤40)∧OkFrom u 0:=hu0
  rw[dT hu1,if_pos hu0,Bool.not_true,cond_false,g85_o,g94L,wrapI (by omega) (by omega)]
  by_cases hp:0≤p∧p<u.length
  ·rw[dT (by omega),Bool.not_true,cond_false,g86_o,g94L]
   by_cases hq:0≤q∧q≤64
   ·rw[dT hq,Bool.not_true,cond_false,if_pos ⟨hp,hq⟩]
   ·rw[dF hq,if_neg (fun h=>hq h.2)];rfl
  ·rw[dF (by omega),if_neg (fun h=>hp h.1)];rfl
 ·have hu1:¬((1≤u.length∧u.length≤40)∧OkFrom u 0):=hu0
  rw[dF hu1,if_neg hu0];rfl
open Classical in
theorem begunI{α:Type}(m a:Nat){u:Ty0}(hu:RowN u)(hm:1048576<m)(p q w:Int)(k1:Int→Option α)(k:Ty4→Ty0→Option α):
  g46 m 0 u.length a q w 0 1 1 u.length u [p] k1 k=if Okd u then(if(0≤p∧p<u.length)∧0≤q∧q≤w then k [] [] else k1 2) else k1 1:=by
 have h2:=hu.len
 obtain⟨f,rfl⟩:∃f,m=f+2:=⟨m-2,by omega⟩
 rw[g46_o,g16L (f+2) a hu (by omega)]
 by_cases hu0:Okd u
 ·have hu1:(1≤u.length∧u.length≤40)∧OkFrom u 0:=hu0
  rw[dT hu1,if_pos hu0,Bool.not_true,cond_false,g88_o,show f+2=(f+1)+1 from rfl,g88l0_s,dT (by omega),cond_true,if_pos (by omega),if_pos (by decide),g79L,wrapI (x:=((u.length:Nat):Int)-1) (by omega) (by omega)]
  by_cases hp:0≤p∧p<u.length
  ·rw[dT (show 0≤List.getD [p] (0+(0:Int).toNat) 0∧List.getD [p] (0+(0:Int).toNat) 0≤((u.length:Nat):Int)-1 by
     show 0≤p∧p≤((u.length:Nat):Int)-1;omega),Bool.not_true,cond_false,g88l0_s,show IntKind.wrap .i64 ((0:Int)+1)=1 from by decide,dF (by omega),cond_false,cond_false,g79L]
   by_cases hq:0≤q∧q≤w
   ·rw[dT hq,Bool.not_true,cond_false,g89_o,if_pos ⟨hp,hq⟩]
   ·rw[dF hq,if_neg (fun h=>hq h.2)];rfl
  ·rw[dF (show¬(0≤List.getD [p] (0+(0:Int).toNat) 0∧List.getD [p] (0+(0:Int).toNat) 0≤((u.length:Nat):Int)-1) by
     show¬(0≤p∧p≤((u.length:Nat):Int)-1);omega),if_neg (fun h=>hp h.1)];rfl
 ·have hu1:¬((1≤u.length∧u.length≤40)∧OkFrom u 0):=hu0
  rw[dF hu1,if_neg hu0];rfl
theorem rows_nil(N:Nat):(List.replicate N []:Ty1)=rowsOf N ([]:List (Nat×Nat×Int)):=by
 unfold rowsOf
 refine List.ext_getElem (by simp) fun i h1 h2=> ?_
 simp
abbrev ms0:MS:=([],[])
theorem begS{α:Type}(m n a N:Nat)(u:Ty0)(h:N≤40)(k:Ty1→Ty0→Option α):g44 m n N a N u k=k (rowsOf N ms0.1) (logOf ms0.2):=by
 rw[g44_o,if_pos ⟨rfl,by omega,by omega⟩,rows_nil];rfl
theorem inv0(N:Nat)(v:Nat→Rat)(b:Nat):InvS N v b ms0:=⟨by simp,by simp,by simp,by simp,by simp,by simp⟩
theorem err_nz{β:Type}{P:β→MS→Prop}{r:Except Int (β×MS)}{c:Int}(ho:OkR P r)(hr:r= .error c):c≠0:=by
 subst hr
 have ho:c=3∨c=7:=ho
 omega
section
variable {u:Ty0} {m:Nat}
open Classical in
theorem ask_run(hok:Okd u)(hm:1048576<m){j n:Nat}(hj:j<u.length)(hn1:n≤1000):
  (∃(z:Int) (s':MS),z.natAbs<W192∧s'.2.length≤6440∧(∀q∈s'.2,q.1<u.length∧q.2≤160)∧
   (∀{α:Type} (k:Bool→List Int→Int→Nat→Nat→Nat→Nat→Nat→Nat→Nat→Ty0→Ty1→Ty0→Option α),g45 m (j:Int) (n:Int) 0 u.length u.length 0 u.length u.length u.length u (rowsOf u.length ms0.1) (logOf ms0.2) k=
    k (zs z) (zl z) 0 0 u.length u.length 0 u.length u.length u.length u (rowsOf u.length s'.1) (logOf s'.2))∧
   (∀{α:Type} (k:Bool→List Int→Bool→Nat→Nat→Nat→Int→Nat→Ty0→Ty4→Ty0→Option α),g54 m (j:Int) (n:Int) false 0 u.length u.length 0 u.length u (mapOf ms0.1) (logOf ms0.2) k=
    k (zs z) (zl z) false 0 u.length u.length 0 u.length u (mapOf s'.1) (logOf s'.2)))∨
  ∃c:Int,c≠0∧
   (∀{α:Type} (k:Bool→List Int→Int→Nat→Nat→Nat→Nat→Nat→Nat→Nat→Ty0→Ty1→Ty0→Option α),∃R L,g45 m (j:Int) (n:Int) 0 u.length u.length 0 u.length u.length u.length u (rowsOf u.length ms0.1) (logOf ms0.2) k=
    k false [0,0,0,0,0,0] c 0 u.length u.length 0 u.length u.length u.length u R L)∧
   (∀{α:Type} (k:Bool→List Int→Bool→Nat→Nat→Nat→Int→Nat→Ty0→Ty4→Ty0→Option α),∃o M L,g54 m (j:Int) (n:Int) false 0 u.length u.length 0 u.length u (mapOf ms0.1) (logOf ms0.2) k=
    k (zs 0) (zl 0) o 0 u.length u.length c u.length u M L):=by
 have hn:=nds_of hok.1.2 hok.2
 have h40:=hok.1.2
 have ho:=hn.good (f:=u.length) (n:=n) hj hj hj (inv0 _ _ _)
 have hS:=fun{α:Type} (k:Bool→List Int→Int→Nat→Nat→Nat→Nat→Nat→Nat→Nat→Ty0→Ty1→Ty0→Option α)=>(specAsk hn u.length m u.length (by omega) (Nat.le_refl _) (Nat.le_refl _)) j n ms0 hj hn1 (inv0 _ _ _) k
 have hI:=fun{α:Type} (k:Bool→List Int→Bool→Nat→Nat→Nat→Int→Nat→Ty0→Ty4→Ty0→Option α)=>(implAsk hn u.length m u.length (by omega) (Nat.le_refl _) (Nat.le_refl _)) j n ms0 hj hn1 (inv0 _ _ _) k
 cases hr:askM (nd u) u.length j n ms0 with
 |ok r=>
  obtain⟨z,s'⟩:=r
  rw[hr] at hS hI ho
  obtain⟨_,h1,_,h2⟩:=ho
  exact .inl ⟨z,s',b190h h1,(h2.short h40).1,h2.log,hS,hI⟩
 |error c=>
  have hc:=err_nz ho hr
  rw[hr] at hS hI
  exact .inr ⟨c,hc,hS,hI⟩
end
section
variable {α:Type} {m:Nat}
end
section
variable {N:Nat} {v:Nat→Rat} {u:Ty0} {m:Nat}
theorem useEx2{K β ρ σ:Type}{F:K→β}{G:K→ρ→σ→β}(h:∀k,∃R L,F k=G k R L){k:K}{y:β}(hy:∀R L,G k R L=y):F k=y:=by
 obtain⟨R,L,e⟩:=h k
 exact e.trans (hy R L)
theorem useEx3{K β ρ σ τ:Type}{F:K→β}{G:K→ρ→σ→τ→β}(h:∀k,∃R L M,F k=G k R L M){k:K}{y:β}(hy:∀R L M,G k R L M=y):F k=y:=by
 obtain⟨R,L,M,e⟩:=h k
 exact e.trans (hy R L M)
end
section
variable {α:Type}
theorem rep9(m:Nat)(k:ByteArray→Option α):g66 m (⟨#[48]⟩:ByteArray) 9 k=k (bytesS [48,48,48,48,48,48,48,48,48]):=by kernel_rfl
theorem rep10(m:Nat)(k:ByteArray→Option α):g66 m (⟨#[48]⟩:ByteArray) 10 k=k (bytesS [48,48,48,48,48,48,48,48,48,48]):=by kernel_rfl
theorem rep11(m:Nat)(k:ByteArray→Option α):g66 m (⟨#[48]⟩:ByteArray) 11 k=k (bytesS [48,48,48,48,48,48,48,48,48,48,48]):=by kernel_rfl
theorem rep12(m:Nat)(k:ByteArray→Option α):g66 m (⟨#[48]⟩:ByteArray) 12 k=k (bytesS [48,48,48,48,48,48,48,48,48,48,48,48]):=by kernel_rfl
theorem rep13(m:Nat)(k:ByteArray→Option α):g66 m (⟨#[48]⟩:ByteArray) 13 k=k (bytesS [48,48,48,48,48,48,48,48,48,48,48,48,48]):=by kernel_rfl
theorem rep14(m:Nat)(k:ByteArray→Option α):g66 m (⟨#[48]⟩:ByteArray) 14 k=k (bytesS [48,48,48,48,48,48,48,48,48,48,48,48,48,48]):=by kernel_rfl
theorem rep15(m:Nat)(k:ByteArray→Option α):g66 m (⟨#[48]⟩:ByteArray) 15 k=k (bytesS [48,48,48,48,48,48,48,48,48,48,48,48,48,48,48]):=by kernel_rfl
theorem repD(m c:Nat)(h:c≤15)(k:ByteArray→Option α):g66 m (⟨#[48]⟩:ByteArray) (c:Int) k=k (bytesS (List.replicate c 48)):=by
 match c,h with
 |0,_=>exact rep0 m k
 |1,_=>exact rep1 m k
 |2,_=>exact rep2 m k
 |3,_=>exact rep3 m k
 |4,_=>exact rep4 m k
 |5,_=>exact rep5 m k
 |6,_=>exact rep6 m k
 |7,_=>exact rep7 m k
 |8,_=>exact rep8 m k
 |9,_=>exact rep9 m k
 |10,_=>exact rep10 m k
 |11,_=>exact rep11 m k
 |12,_=>exact rep12 m k
 |13,_=>exact rep13 m k
 |14,_=>exact rep14 m k
 |15,_=>exact rep15 m k
 |c+16,h=>exact absurd h (by omega)
theorem ext_D(l:List Int)(i j:Nat):ByteArray.extract (bytesS l) i j=bytesS ((l.drop i).take (j-i)):=by
 apply bytes_ext
 rw[ByteArray.data_extract,Array.toList_extract,bytesS_data,bytesS_data]
 simp[List.extract_eq_take_drop,List.map_take,List.map_drop]
def padD(q:Nat)(l:List Int):List Int:=List.replicate (q+1-l.length) 48++l
def dotD(q:Nat)(P:List Int):List Int:=cond (decide (q=0)) P (P.take (P.length-q)++46::P.drop (P.length-q))
theorem padD_len(q:Nat)(l:List Int):q+1≤(padD q l).length∧(padD q l).length≤q+1+l.length:=by
 unfold padD
 rw[List.length_append,List.length_replicate]
 omega
theorem dot46:(⟨#[46]⟩:ByteArray)=bytesS [46]:=rfl
theorem min45:(⟨#[45]⟩:ByteArray)=bytesS [45]:=rfl
theorem finS{sg P:List Int}{q:Nat}(hq:0<q)(hq15:q≤15)(hP:q+1≤P.length)(hl:P.length≤1000000)(hs:sg.length≤1)(k:ByteArray→Option α):
  (let x3006:Int:=IntKind.wrap .i64 ((((bytesS P).size:Nat):Int)-(q:Int))
    if 0≤(0:Int)∧(0:Int)≤x3006∧x3006≤(((bytesS P).size:Nat):Int) then
    let s3007:ByteArray:=ByteArray.extract (bytesS P) 0 (Int.toNat x3006)
    if(bytesS sg).size+s3007.size≤9223372036854775807 then
    let s3008:ByteArray:=(bytesS sg)++s3007
    if s3008.size+(⟨#[46]⟩:ByteArray).size≤9223372036854775807 then
    let s3009:ByteArray:=s3008++(⟨#[46]⟩:ByteArray)
    if 0≤x3006∧x3006≤(((bytesS P).size:Nat):Int)∧(((bytesS P).size:Nat):Int)≤(((bytesS P).size:Nat):Int) then
    let s3010:ByteArray:=ByteArray.extract (bytesS P) (Int.toNat x3006) (Int.toNat (((bytesS P).size:Nat):Int))
    if s3009.size+s3010.size≤9223372036854775807 then
    k (s3009++s3010)
    else
    none
    else
    none
    else
    none
    else
    none
    else
    none)=k (bytesS (sg++dotD q P)):=by
 have e:IntKind.wrap .i64 (((P.length:Nat):Int)-(q:Int))=((P.length-q:Nat):Int):=by rw[wrapI (by omega) (by omega)];omega
 dsimp only
 rw[bytesS_len P,e,Int.toNat_natCast,Int.toNat_natCast,ext_D,ext_D,List.drop_zero,Nat.sub_zero,dot46,←bytesS_app,←bytesS_app,←bytesS_app,if_pos (by omega),if_pos (by rw[bytesS_len,bytesS_len,List.length_take];omega),if_pos (by rw[bytesS_len,bytesS_len,List.length_append,List.length_take];simp only[List.length_singleton];omega),if_pos (by omega),
  if_pos (by rw[bytesS_len,bytesS_len,List.length_append,List.length_append,List.length_take,List.length_take,List.length_drop];simp only[List.length_singleton];omega)]
 congr 2
 unfold dotD
 rw[dF (by omega),cond_false,List.take_of_length_le (i:=P.length-(P.length-q)) (by rw[List.length_drop];omega)]
 simp
theorem padLoopD{q:Nat}(hq:q≤15)(z:ByteArray)(n1 n2 n3 n4 n5 n6 n7:Nat)(u:Ty0)(R:Ty1)(L:Ty0)(k:ByteArray→Option α):∀(d F:Nat) (l:List Int),q+1-l.length=d→d<F→l.length≤1000000→
  g67l2 (q:Int) z n1 n2 n3 n4 n5 n6 n7 u R L k F (bytesS l)=k (bytesS (List.replicate d 48++l))
 |0,F,l,h,hf,hl=>by
  obtain⟨F,rfl⟩:∃g,F=g+1:=⟨F-1,by omega⟩
  rw[g67l2_s,bytesS_len,wrapI (x:=(q:Int)+1) (by omega) (by omega),dF (by omega),cond_false];rfl
 |d+1,F,l,h,hf,hl=>by
  obtain⟨F,rfl⟩:∃g,F=g+1:=⟨F-1,by omega⟩
  have ih:=padLoopD hq z n1 n2 n3 n4 n5 n6 n7 u R L k d F (48::l) (by rw[List.length_cons];omega) (by omega) (by rw[List.length_cons];omega)
  have e:(⟨#[48]⟩:ByteArray)=bytesS [48]:=rfl
  rw[g67l2_s,bytesS_len,wrapI (x:=(q:Int)+1) (by omega) (by omega),dT (by omega),cond_true,e,bytesS_len,if_pos (by simp only[List.length_singleton];omega),←bytesS_app]
  refine ih.trans ?_
  congr 2
  rw[List.replicate_succ',List.append_assoc];rfl
theorem specEnd(m:Nat)(hm:20≤m){sg D:List Int}(hs:sg.length≤1){q:Nat}(hq:q≤15)(hD1:1≤D.length)(hD:D.length≤1000)(n1 n2 n3 n4 n5 n6 n7:Nat)(u:Ty0)(R:Ty1)(L:Ty0)(k:ByteArray→Option α):
  cond ((q:Int)==(0:Int)) (if(bytesS sg).size+(bytesS D).size≤9223372036854775807 then k ((bytesS sg)++(bytesS D)) else none)
   (g67l2 (q:Int) (bytesS sg) n1 n2 n3 n4 n5 n6 n7 u R L (fun s3005=>
    let x3006:Int:=IntKind.wrap .i64 (((s3005.size:Nat):Int)-(q:Int))
    if 0≤(0:Int)∧(0:Int)≤x3006∧x3006≤((s3005.size:Nat):Int) then
    let s3007:ByteArray:=ByteArray.extract s3005 0 (Int.toNat x3006)
    if(bytesS sg).size+s3007.size≤9223372036854775807 then
    let s3008:ByteArray:=(bytesS sg)++s3007
    if s3008.size+(⟨#[46]⟩:ByteArray).size≤9223372036854775807 then
    let s3009:ByteArray:=s3008++(⟨#[46]⟩:ByteArray)
    if 0≤x3006∧x3006≤((s3005.size:Nat):Int)∧((s3005.size:Nat):Int)≤((s3005.size:Nat):Int) then
    let s3010:ByteArray:=ByteArray.extract s3005 (Int.toNat x3006) (Int.toNat ((s3005.size:Nat):Int))
    if s3009.size+s3010.size≤9223372036854775807 then
    k (s3009++s3010)
    else
    none
    else
    none
    else
    none
    else
    none
    else
    none) m (bytesS D))=k (bytesS (sg++dotD q (padD q D))):=by
 have hp:=padD_len q D
 by_cases h0:q=0
 ·subst h0
  rw[show(((0:Nat):Int)==0)=true from rfl,cond_true,if_pos (by rw[bytesS_len,bytesS_len];omega),←bytesS_app]
  congr 3
  unfold dotD padD
  rw[dT rfl,cond_true,show 0+1-D.length=0 by omega];rfl
 ·rw[show((q:Int)==0)=false from dF (p:=(q:Int)=0) (by omega),cond_false]
  refine(padLoopD hq _ n1 n2 n3 n4 n5 n6 n7 u R L _ (q+1-D.length) m D rfl (by omega) (by omega)).trans ?_
  exact finS (P:=padD q D) (by omega) hq hp.1 (by omega) hs k
def finG{α:Type}(q:Nat)(b:Bool)(k:ByteArray→Option α)(s:ByteArray):Option α:=
  (cond (decide ((q:Int)>(0:Int)))
    (
    let x5930:Int:=IntKind.wrap .i64 (((s.size:Nat):Int)-(q:Int))
    if 0≤(0:Int)∧(0:Int)≤x5930∧x5930≤((s.size:Nat):Int) then
    let s5931:ByteArray:=ByteArray.extract s 0 (Int.toNat x5930)
    if s5931.size+(⟨#[46]⟩:ByteArray).size≤9223372036854775807 then
    let s5932:ByteArray:=s5931++(⟨#[46]⟩:ByteArray)
    if 0≤x5930∧x5930≤((s.size:Nat):Int)∧((s.size:Nat):Int)≤((s.size:Nat):Int) then
    let s5933:ByteArray:=ByteArray.extract s (Int.toNat x5930) (Int.toNat ((s.size:Nat):Int))
    if s5932.size+s5933.size≤9223372036854775807 then
    let s5934:ByteArray:=s5932++s5933
    cond b
    (
    if(⟨#[45]⟩:ByteArray).size+s5934.size≤9223372036854775807 then
    k ((⟨#[45]⟩:ByteArray)++s5934)
    else
    none)
    (
    k s5934)
    else
    none
    else
    none
    else
    none
    else
    none)
    (
    cond b
    (
    if(⟨#[45]⟩:ByteArray).size+s.size≤9223372036854775807 then
    k ((⟨#[45]⟩:ByteArray)++s)
    else
    none)
    (
    k s)))
theorem finI{P:List Int}{q:Nat}(hq15:q≤15)(hP:q+1≤P.length)(hl:P.length≤1000000)(b:Bool)(k:ByteArray→Option α):
  finG q b k (bytesS P)=k (bytesS (cond b [45] []++dotD q P)):=by
 unfold finG
 have e:IntKind.wrap .i64 (((P.length:Nat):Int)-(q:Int))=((P.length-q:Nat):Int):=by rw[wrapI (by omega) (by omega)];omega
 have fin:∀Q:List Int,Q.length≤1000100→cond b (if(bytesS [45]).size+(bytesS Q).size≤9223372036854775807 then k (bytesS [45]++bytesS Q) else none) (k (bytesS Q))=k (bytesS (cond b [45] []++Q)):=by
  intro Q hQ
  cases b with
  |false=>rfl
  |true=>rw[cond_true,cond_true,if_pos (by rw[bytesS_len,bytesS_len];simp only[List.length_singleton];omega),←bytesS_app]
 by_cases h0:q=0
 ·subst h0
  rw[dF (by omega),cond_false]
  refine(fin P (by omega)).trans ?_
  congr 3
 ·rw[dT (by omega),cond_true]
  dsimp only
  rw[bytesS_len P,e,Int.toNat_natCast,Int.toNat_natCast,ext_D,ext_D,List.drop_zero,Nat.sub_zero,dot46,←bytesS_app,←bytesS_app,if_pos (by omega),if_pos (by rw[bytesS_len,bytesS_len,List.length_take];simp only[List.length_singleton];omega),if_pos (by omega),
   if_pos (by rw[bytesS_len,bytesS_len,List.length_append,List.length_take,List.length_take,List.length_drop];simp only[List.length_singleton];omega)]
  refine(fin _ ?_).trans ?_
  ·rw[List.length_append,List.length_append,List.length_take,List.length_take,List.length_drop];simp only[List.length_singleton];omega
  ·congr 3
   unfold dotD
   rw[dF h0,cond_false,List.take_of_length_le (i:=P.length-(P.length-q)) (by rw[List.length_drop];omega)]
   simp
theorem implEnd(m:Nat){D:List Int}{q:Nat}(hq:q≤15)(hD1:1≤D.length)(hD:D.length≤1000)(b:Bool)(k:ByteArray→Option α)(G:ByteArray→Option α)(hG:∀P:List Int,q+1≤P.length→P.length≤1000000→G (bytesS P)=k (bytesS (cond b [45] []++dotD q P))):
  (
    let x5925:Int:=IntKind.wrap .i64 ((IntKind.wrap .i64 ((q:Int)+(1:Int)))-(((bytesS D).size:Nat):Int))
    cond (decide (x5925>(0:Int)))
    (
    g66 m (⟨#[48]⟩:ByteArray) x5925
    (fun s5927=>
    if s5927.size+(bytesS D).size≤9223372036854775807 then
    G (s5927++(bytesS D))
    else
    none)) (G (bytesS D)))=k (bytesS (cond b [45] []++dotD q (padD q D))):=by
 have hp:=padD_len q D
 have e:IntKind.wrap .i64 ((IntKind.wrap .i64 ((q:Int)+(1:Int)))-(((bytesS D).size:Nat):Int))=(q:Int)+1-(D.length:Int):=by rw[bytesS_len,wrapI (x:=(q:Int)+1) (by omega) (by omega),wrapI (by omega) (by omega)]
 dsimp only
 rw[e]
 by_cases h:(q:Int)+1-(D.length:Int)>0
 ·have e2:(q:Int)+1-(D.length:Int)=((q+1-D.length:Nat):Int):=by omega
  rw[dT h,cond_true,e2,repD m _ (by omega),if_pos (by rw[bytesS_len,bytesS_len,List.length_replicate];omega),←bytesS_app]
  exact hG (padD q D) hp.1 (by omega)
 ·rw[dF h,cond_false]
  have:padD q D=D:=by unfold padD;rw[show q+1-D.length=0 by omega];rfl
  rw[this] at hp⊢
  exact hG D hp.1 (by omega)
theorem abs10(A:Int)(j:Nat):(A*10^j).natAbs=A.natAbs*10^j:=by
 rw[Int.natAbs_mul,Int.natAbs_pow];rfl
theorem abs10_mono(A:Int){i j:Nat}(h:i≤j):(A*10^i).natAbs≤(A*10^j).natAbs:=by
 rw[abs10,abs10]
 exact Nat.mul_le_mul_left _ (Nat.pow_le_pow_right (by omega) h)
theorem mul10(A:Int)(i:Nat):A*10^i*10=A*10^(i+1):=by rw[Int.pow_succ,Int.mul_assoc]
section
variable {m:Nat} (hm:300≤m) (x:Int) (N:Nat) (u:Ty0) (a b c:Nat) (e:Int) (M:Ty4) (L:Ty0) (k:Bool→Bool→List Int→Option α) {q:Nat} (hq:q≤15)
include hm hq
theorem mulLoop{A:Int}(hA:(A*10^q).natAbs<W192)(o:Bool):∀(d F i:Nat),i+d=q→d<F→
  g23l0 (g62 m) (g61v1 m) (q:Int) x (q:Int) N u a b c e M L k F (i:Int) o (zs (A*10^i)) (zl (A*10^i))=k o (zs (A*10^q)) (zl (A*10^q))
 |0,F,i,h,hf=>by
  obtain⟨F,rfl⟩:∃g,F=g+1:=⟨F-1,by omega⟩
  obtain rfl:i=q:=by omega
  rw[g23l0_s,dF (by omega),cond_false]
 |d+1,F,i,h,hf=>by
  obtain⟨F,rfl⟩:∃g,F=g+1:=⟨F-1,by omega⟩
  have h1:=abs10_mono A (show i≤q by omega)
  have h2:=abs10_mono A (show i+1≤q by omega)
  have ih:=mulLoop hA o d F (i+1) (by omega) (by omega)
  rw[g23l0_s,dT (by omega),cond_true,g62Z _ (by omega) (by omega),mul1,mulI hm (by omega) (by decide),mul10,fitZ_iff.2 (by omega),cond_true,wrapS (by omega)]
  exact ih
theorem overLoop{A:Int}(hA:¬(A*10^q).natAbs<W192)(o:Bool):∀(d F i:Nat),i+d=q→d<F→(A*10^i).natAbs<W192→
  g23l0 (g62 m) (g61v1 m) (q:Int) x (q:Int) N u a b c e M L k F (i:Int) o (zs (A*10^i)) (zl (A*10^i))=k true (zs 0) (zl 0)
 |0,F,i,h,hf,hi=>by
  obtain rfl:i=q:=by omega
  exact absurd hi hA
 |d+1,F,i,h,hf,hi=>by
  obtain⟨F,rfl⟩:∃g,F=g+1:=⟨F-1,by omega⟩
  rw[g23l0_s,dT (by omega),cond_true,g62Z _ (by omega) (by omega),mul1,mulI hm hi (by decide),mul10,wrapS (by omega)]
  by_cases hf1:(A*10^(i+1)).natAbs<W192
  ·rw[fitZ_iff.2 hf1,cond_true]
   exact overLoop hA o d F (i+1) (by omega) (by omega) hf1
  ·have:fitZ (A*10^(i+1))=false:=dF hf1
   rw[this,cond_false]
   have ih:=mulLoop hm x N u a b c e M L k hq (A:=0) (by rw[Int.zero_mul];decide) true d F (i+1) (by omega) (by omega)
   rw[Int.zero_mul,Int.zero_mul] at ih
   exact ih
theorem mulStart{A:Int}(hA:(A*10^q).natAbs<W192)(o:Bool)(hF:q<m):
  g23l0 (g62 m) (g61v1 m) (q:Int) x (q:Int) N u a b c e M L k m (0:Int) o (zs A) (zl A)=k o (zs (A*10^q)) (zl (A*10^q)):=by
 have h:=mulLoop hm x N u a b c e M L k hq hA o q m 0 (by omega) hF
 rw[Int.pow_zero,Int.mul_one] at h
 exact h
theorem overStart{A:Int}(hA:¬(A*10^q).natAbs<W192)(hA0:A.natAbs<W192)(o:Bool)(hF:q<m):
  g23l0 (g62 m) (g61v1 m) (q:Int) x (q:Int) N u a b c e M L k m (0:Int) o (zs A) (zl A)=k true (zs 0) (zl 0):=by
 have h:=overLoop hm x N u a b c e M L k hq hA o q m 0 (by omega) hF (by rw[Int.pow_zero,Int.mul_one];exact hA0)
 rw[Int.pow_zero,Int.mul_one] at h
 exact h
end
theorem ten_fit{j:Nat}(h:j≤15):((10:Int)^j).natAbs<W192:=by
 rw[Int.natAbs_pow]
 exact Nat.lt_of_le_of_lt (Nat.pow_le_pow_right (by decide) h) (by decide)
theorem tenLoop{m:Nat}(hm:300≤m){q:Nat}(hq:q≤15)(x:Int)(n1 n2 n3 n4 n5 n6 n7:Nat)(u:Ty0)(R:Ty1)(b:Bool)(l:List Int)(L:Ty0)(k:Bool→List Int→Option α):∀(d F i:Nat),i+d=q→d<F→
  g67l0 (g109 m) (g110 m) (q:Int) x n1 n2 n3 n4 n5 n6 n7 u R b l L k F (i:Int) (zs ((10:Int)^i)) (zl ((10:Int)^i))=k (zs ((10:Int)^q)) (zl ((10:Int)^q))
 |0,F,i,h,hf=>by
  obtain⟨F,rfl⟩:∃g,F=g+1:=⟨F-1,by omega⟩
  obtain rfl:i=q:=by omega
  rw[g67l0_s,dF (by omega),cond_false]
 |d+1,F,i,h,hf=>by
  obtain⟨F,rfl⟩:∃g,F=g+1:=⟨F-1,by omega⟩
  have ih:=tenLoop hm hq x n1 n2 n3 n4 n5 n6 n7 u R b l L k d F (i+1) (by omega) (by omega)
  rw[g67l0_s,dT (by omega),cond_true,g109Z _ (by omega) (by omega),mulW hm (ten_fit (by omega)) (by decide),←Int.pow_succ,fitZ_iff.2 (ten_fit (by omega)),cond_true,wrapS (by omega)]
  exact ih
theorem txt_nat(n:Nat):txtZ (n:Int)=bytesS (decL n):=by
 unfold txtZ
 rw[zs_nat,Int.natAbs_natCast];rfl
theorem textA(m:Nat)(hm:300≤m){c:Int}(hc:c.natAbs<W192)(k:ByteArray→Option α):g112 m false (zl c) k=k (bytesS (decL c.natAbs)):=by
 have h:=specText m hm (z:=(c.natAbs:Int)) (by rw[Int.natAbs_natCast];exact hc) k
 rw[zs_nat,txt_nat] at h
 exact h
theorem textB(m:Nat)(hm:300≤m){c:Int}(hc:c.natAbs<W192)(k:ByteArray→Option α):g64 m false (zl c) k=k (bytesS (decL c.natAbs)):=by
 have h:=implWideText m hm (z:=(c.natAbs:Int)) (by rw[Int.natAbs_natCast];exact hc) k
 rw[zs_nat,txt_nat] at h
 exact h
theorem wideA(m:Nat){c:Int}(hc:c.natAbs<W192)(k:Bool→Option α):g65 m false (zl c) k=k false:=by
 have h:=g65Z m false hc k
 rw[cond_false,zs_nat] at h
 exact h
end
section
variable {u:Ty0} {m:Nat}
open Classical in
theorem dec_res(hU:RowN u)(hm:1048576<m)(p q:Int):∃(s:ByteArray) (c:Int),
  (∀{α:Type} (k:ByteArray→Int→Option α),g24 m 0 u.length u.length p q u.length u k=k s c)∧
  (∀{α:Type} (k:ByteArray→Int→Option α),g23 m 0 u.length u.length p q u.length u k=k s c):=by
 by_cases hok:Okd u
 ·by_cases hp:(0≤p∧p<u.length)∧0≤q∧q≤15
  ·obtain⟨j,rfl⟩:∃j:Nat,p=j:=⟨p.toNat,by omega⟩
   obtain⟨n,rfl⟩:∃n:Nat,q=n:=⟨q.toNat,by omega⟩
   have h40:=hok.1.2
   have hn15:n≤15:=by omega
   have hm3:300≤m:=by omega
   have hp64:(0≤(j:Int)∧(j:Int)<u.length)∧0≤(n:Int)∧(n:Int)≤64:=⟨hp.1,by omega,by omega⟩
   have hN:IntKind.wrap .i64 ((IntKind.wrap .i64 ((4:Int)*(n:Int)))+(4:Int))=((4*n+4:Nat):Int):=by rw[wrapI (x:=(4:Int)*(n:Int)) (by omega) (by omega),wrapI (by omega) (by omega)];omega
   have hz0:((0:Int)*10^n).natAbs<W192:=by rw[Int.zero_mul];decide
   have sStart:∀{α:Type} (k:ByteArray→Int→Option α) (X:Option α),(∀K,g67 m (j:Int) (n:Int) 0 u.length u.length 0 u.length u.length u.length u (rowsOf u.length ms0.1) (logOf ms0.2) (fun s x _ _ _ _ _ _ _ _=>k s x)=K→K=X)→g24 m 0 u.length u.length (j:Int) (n:Int) u.length u k=X:=fun k X h=>by
    rw[g24_o,askedS m _ hU hm,if_pos hok,if_pos hp64,zc,dF (by omega),cond_false,begS m 0 u.length u.length u h40]
    exact h _ rfl
   rcases ask_run (m:=m) hok hm (j:=j) (n:=4*n+4) (by omega) (by omega) with⟨z,s',h1,_,_,h2,h3⟩|⟨c,hc,h2,h3⟩
   ·by_cases hf:(z*10^n).natAbs<W192
    ·have hcW:=nearZ_fit (p:=4*n+4) hf
     have hnd:=ndigW hcW
     have hnd1:=(ndig_spec (nearZ (z*10^n) (4*n+4)).natAbs (nearZ (z*10^n) (4*n+4)).natAbs (Nat.le_refl _)).2.2
     have hD:=decL_len (nearZ (z*10^n) (4*n+4)).natAbs
     refine⟨bytesS (cond (zs (nearZ (z*10^n) (4*n+4))) [45] []++dotD n (padD n (decL (nearZ (z*10^n) (4*n+4)).natAbs))),0,fun{α} k=> ?_,fun{α} k=> ?_⟩
     ·refine sStart k _ fun K hK=>hK.symm.trans ?_
      rw[g67_o,hN]
      refine(h2 _).trans ?_
      try dsimp only
      rw[zc,g109Z _ (by omega) (by omega)]
      refine(tenLoop hm3 hn15 _ _ _ _ _ _ _ _ _ _ _ _ _ _ n m 0 (by omega) (by omega)).trans ?_
      try dsimp only
      rw[mulW hm3 h1 (ten_fit hn15),fitZ_iff.2 hf,cond_true,zc,nearS hm3 (by omega) (by omega) hf]
      cases hs:zs (nearZ (z*10^n) (4*n+4)) with
      |true=>
       rw[cond_true,textA m hm3 hcW,min45]
       exact specEnd m (by omega) (sg:=[45]) (by decide) hn15 (by omega) (by omega) _ _ _ _ _ _ _ _ _ _ (fun s=>k s 0)
      |false=>
       rw[cond_false,textA m hm3 hcW,bytesS_nil]
       exact specEnd m (by omega) (sg:=[]) (by decide) hn15 (by omega) (by omega) _ _ _ _ _ _ _ _ _ _ (fun s=>k s 0)
     ·rw[g23_o,begunI m _ hU hm,if_pos hok,if_pos hp,wrap16N (by omega)]
      try dsimp only
      rw[hN]
      refine(h3 _).trans ?_
      refine(mulStart hm3 _ _ _ _ _ _ _ _ _ _ hn15 hf false (by omega)).trans ?_
      try dsimp only
      rw[near1,nearI hm3 _ hf,if_pos (by omega),failLive,cond_false,wideA m hcW,textB m hm3 hcW]
      exact implEnd m hn15 (D:=decL (nearZ (z*10^n) (4*n+4)).natAbs) (by omega) (by omega) (zs (nearZ (z*10^n) (4*n+4))) (fun s=>k s 0) (finG n (zs (nearZ (z*10^n) (4*n+4))) (fun s=>k s 0)) (fun P hP hl=>finI hn15 hP hl _ (fun s=>k s 0))
    ·refine⟨⟨#[]⟩,3,fun{α} k=> ?_,fun{α} k=> ?_⟩
     ·refine sStart k _ fun K hK=>hK.symm.trans ?_
      rw[g67_o,hN]
      refine(h2 _).trans ?_
      try dsimp only
      rw[zc,g109Z _ (by omega) (by omega)]
      refine(tenLoop hm3 hn15 _ _ _ _ _ _ _ _ _ _ _ _ _ _ n m 0 (by omega) (by omega)).trans ?_
      try dsimp only
      have:fitZ (z*10^n)=false:=dF hf
      rw[mulW hm3 h1 (ten_fit hn15),this,cond_false]
      exact nzc (by decide) _ _
     ·rw[g23_o,begunI m _ hU hm,if_pos hok,if_pos hp,wrap16N (by omega)]
      try dsimp only
      rw[hN]
      refine(h3 _).trans ?_
      refine(overStart hm3 _ _ _ _ _ _ _ _ _ _ hn15 hf h1 false (by omega)).trans ?_
      try dsimp only
      rw[near1,nearI hm3 _ (by decide),if_pos (by omega),failOver,cond_true]
   ·refine⟨⟨#[]⟩,c,fun{α} k=> ?_,fun{α} k=> ?_⟩
    ·refine sStart k _ fun K hK=>hK.symm.trans ?_
     rw[g67_o,hN]
     refine useEx2 h2 fun R L=> ?_
     try dsimp only
     exact nzc hc _ _
    ·rw[g23_o,begunI m _ hU hm,if_pos hok,if_pos hp,wrap16N (by omega)]
     try dsimp only
     rw[hN]
     refine useEx3 h3 fun o M L=> ?_
     refine(mulStart hm3 _ _ _ _ _ _ _ _ _ _ hn15 hz0 o (by omega)).trans ?_
     try dsimp only
     rw[near1,nearI hm3 _ hz0,if_pos (by omega),failDead _ hc,cond_true]
  ·refine⟨⟨#[]⟩,2,fun{α} k=> ?_,fun{α} k=> ?_⟩
   ·rw[g24_o,askedS m _ hU hm,if_pos hok]
    by_cases h:(0≤p∧p<u.length)∧0≤q∧q≤64
    ·rw[if_pos h,zc,dT (by omega),cond_true]
    ·rw[if_neg h];rfl
   ·rw[g23_o,begunI m _ hU hm,if_pos hok,if_neg hp];rfl
 ·refine⟨⟨#[]⟩,1,fun{α} k=> ?_,fun{α} k=> ?_⟩
  ·rw[g24_o,askedS m _ hU hm,if_neg hok];rfl
  ·rw[g23_o,begunI m _ hU hm,if_neg hok];rfl
end
section
theorem bytesEq_sameD(s:ByteArray):bytesEq s s=true:=by unfold bytesEq;exact beq_self_eq_true _
theorem decLaw{α:Type}(m cap:Nat)(p q:Int){u:List (List Int)}(h5:EK.Ws (.rc [.i8, .i16, .i16, .i64, .i64]) u)(hu:u.length≤9223372036854775807)(hm:1048576<m)(k:Bool→Option α):
  g4 m 0 u.length cap p q u.length u k=k true:=by
 rw[g4_o,show(1048576:Int)=((1048576:Nat):Int) from rfl,g27L m 0 cap u (Nat.le_refl _) hu]
 by_cases hul:u.length≤1048576
 ·have hU:=rowN_of h5 hul
  have hm1:u.length<m:=by omega
  obtain⟨s,c,e1,e2⟩:=dec_res hU hm p q
  rw[if_pos hul,dF (by omega),cond_false,g28L m cap hU.toRow5 hm1,e1,g28L m cap hU.toRow5 hm1,e2,bytesEq_sameD,Bool.not_true,cond_false,bne_self_eq_false,cond_false,g28L m cap hU.toRow5 hm1,g29T m _ _ _ _ hul hm,Bool.not_true,cond_false]
 ·rw[if_neg hul,dT (by omega),cond_true]
end
def apDec:List AP:=[.sl (.rc [.i8, .i16, .i16, .i64, .i64]), .flat (.vl (.sv (.int .i64))), .flat (.vl (.sv (.int .i64)))]
theorem decLawm(m:Nat)(hm:1048576<m)(ls:List Lf)(hw:WA apDec ls):g4K (g4 m) ls (fun v _ _=>saysTrue v)=some ():=by
 obtain⟨⟨a1,a2,a3,a4,a5,a6⟩,_⟩:=hw
 rw[maxLen_eq] at a4
 unfold g4K
 have e0:(lf ls 0).nat=0:=a1
 have e1:(lf ls 1).nat=((lf ls 6).lst (.rc [.i8, .i16, .i16, .i64, .i64])).length:=a5.symm
 have e3:(lf ls 5).nat=(lf ls 1).nat:=a2
 have c1:(lf ls 1).nat≤(lf ls 2).nat:=a3
 have c2:(lf ls 2).nat≤9223372036854775807:=a4
 have w1:EK.Ws (.rc [.i8, .i16, .i16, .i64, .i64]) ((lf ls 6).lst (.rc [.i8, .i16, .i16, .i64, .i64])):=a6
 rw[e3,e0,e1]
 exact decLaw m _ _ _ w1 (by omega) hm _
theorem decLaw'(ls:List Lf)(hw:WA apDec ls):g4K (g4 1048577) ls (fun v _ _=>saysTrue v)=some ():=decLawm 1048577 (by omega) ls hw
end Go.Proofs.YtlmmgjngihlpeaaGreatDoor.Sx
