import Derived.Test.YtlmmgjngihlpeaaDoorDrawB
import Derived.Test.YtlmmgjngihlpeaaDoorSxQ
namespace Go.Proofs.YtlmmgjngihlpeaaDoor.Sx
open Go
set_option linter.unusedVariables false
set_option linter.unusedSimpArgs false
set_option maxRecDepth 100000
section
variable {α:Type}
theorem sameW{x y:Int}(hx:x.natAbs<W192)(hy:y.natAbs<W192):((zs x==zs y)&&(eqLI (zl x) (zl y)))=decide (x=y):=by
 have e:eqLI (zl x) (zl y)=decide (x.natAbs=y.natAbs):=eqLI_limbs hx hy
 rw[e]
 unfold zs
 by_cases h:x=y
 ·subst h;simp
 ·rw[decide_eq_false h]
  by_cases h1:x<0<;>by_cases h2:y<0<;>simp[h1,h2]<;>omega
theorem selfW{x:Int}(hx:x.natAbs<W192):((zs x==zs x)&&(eqLI (zl x) (zl x)))=true:=by rw[sameW hx hx];exact decide_eq_true rfl
def cmpJ(x y:Int):Int:=if x<y then-1 else if y<x then 1 else 0
theorem cmpJ_pos{x y:Int}(sx:zs x=false)(sy:zs y=false):cmpN x.natAbs y.natAbs=cmpJ x y:=by
 have hx:¬x<0:=of_decide_eq_false sx
 have hy:¬y<0:=of_decide_eq_false sy
 unfold cmpN cmpJ
 repeat' split
 all_goals first|rfl|omega
theorem cmpJ_neg{x y:Int}(sx:zs x=true)(sy:zs y=true):cmpN y.natAbs x.natAbs=cmpJ x y:=by
 have hx:x<0:=of_decide_eq_true sx
 have hy:y<0:=of_decide_eq_true sy
 unfold cmpN cmpJ
 repeat' split
 all_goals first|rfl|omega
theorem cmpJ_lt{x y:Int}(sx:zs x=true)(sy:zs y=false):-1=cmpJ x y:=by
 have hx:x<0:=of_decide_eq_true sx
 have hy:¬y<0:=of_decide_eq_false sy
 unfold cmpJ
 rw[if_pos (by omega)]
theorem cmpJ_gt{x y:Int}(sx:zs x=false)(sy:zs y=true):1=cmpJ x y:=by
 have hx:¬x<0:=of_decide_eq_false sx
 have hy:y<0:=of_decide_eq_true sy
 unfold cmpJ
 rw[if_neg (by omega),if_pos (by omega)]
theorem cmpJ_i(n:Nat){x y:Int}(hx:x.natAbs<W192)(hy:y.natAbs<W192)(k:Int→Option α):
  g60 (n+7) (zs x) (zl x) (zs y) (zl y) k=k (cmpJ x y):=by
 unfold zl
 rw[g60_o]
 cases sx:zs x<;>cases sy:zs y<;>simp only[cond_true,cond_false,Bool.not_true,Bool.not_false,beq_self_eq_true,show(false==true)=false from rfl,show(true==false)=false from rfl]
 ·rw[g95L n hx hy,cmpJ_pos sx sy]
 ·rw[cmpJ_gt sx sy]
 ·rw[cmpJ_lt sx sy]
 ·rw[g95L n hy hx,cmpJ_neg sx sy]
theorem cmpJ_anti(x y:Int):IntKind.wrap .i64 (0-cmpJ y x)=cmpJ x y:=by
 unfold cmpJ
 repeat' split
 all_goals first|omega|rfl
theorem cmpJ_zero(x y:Int):(cmpJ x y==0)=decide (x=y):=by
 unfold cmpJ
 repeat' split
 all_goals first|(rw[dT (by omega)];rfl)|(rw[dF (by omega)];rfl)
theorem compareC(n:Nat){x y:Int}(hx:x.natAbs<W192)(hy:y.natAbs<W192)(k:Int→Int→Option α):
  g22 (n+7) (zs x) (zl x) (zs y) (zl y) k=k (cmpJ x y) 0:=by
 rw[g22_o,g20Z _ hx,Bool.not_true,cond_false,g20Z _ hy,Bool.not_true,cond_false,cmpJ_i n hx hy]
theorem signC(m:Nat){x:Int}(hx:x.natAbs<W192)(k:Int→Int→Option α):g23 m (zs x) (zl x) k=k x.sign 0:=by
 rw[g23_o,g20Z _ hx,Bool.not_true,cond_false,g61W _ hx]
theorem negC(m:Nat){x:Int}(hx:x.natAbs<W192)(k:Bool→List Int→Int→Option α):g24 m (zs x) (zl x) k=k (zs (-x)) (zl (-x)) 0:=by
 rw[g24_o,g20Z _ hx,Bool.not_true,cond_false,g62Z _ hx,zl_neg]
theorem sizeC(n:Nat){x:Int}(hx:x.natAbs<W192):∃b:Nat,isLen x.natAbs b=true∧b≤192∧∀{β:Type} (k:Int→Int→Option β),g25 (n+7) (zs x) (zl x) k=k (b:Int) 0:=by
 obtain⟨b,hb⟩:=len_of x.natAbs
 refine⟨b,hb,len_le192 hx hb,fun{β} k=> ?_⟩
 rw[g25_o,g20Z _ hx,Bool.not_true,cond_false]
 unfold zl
 rw[g63L n hx hb]
theorem mulC(n:Nat){x y:Int}(hx:x.natAbs<W192)(hy:y.natAbs<W192)(k:Bool→List Int→Int→Option α):
  g29 (n+7) (zs x) (zl x) (zs y) (zl y) k=cond (fitZ (x*y)) (k (zs (x*y)) (zl (x*y)) 0) (k false [0,0,0,0,0,0] 3):=by
 rw[g29_o,g46Z _ hx,Bool.not_true,cond_false,g46Z _ hy,Bool.not_true,cond_false]
 unfold zl
 rw[g65L n hx hy,fitZ_eq (Int.natAbs_mul x y),zs_mul,Int.natAbs_mul]
theorem narrowC(n:Nat){x:Int}(h1:-30000≤x)(h2:x≤30000)(k:Int→Int→Option α):g31 (n+7) (zs x) (zl x) k=k x 0:=by
 have hx:x.natAbs<W192:=small_W (by omega) (by omega)
 rw[g31_o,g20Z _ hx,Bool.not_true,cond_false]
 unfold zl
 rw[g67L n (zs x) hx,dF (by omega),cond_false,dF (by omega),cond_false,show((x.natAbs:Int)==9223372036854775808)=false from dF (by omega),cond_false]
 by_cases hn:x<0
 ·have e:IntKind.wrap .u64 (0-(x.natAbs:Int))=(0-(x.natAbs:Int))%18446744073709551616:=by simp[IntKind.wrap,IntKind.bits,IntKind.signed]
  have e':IntKind.wrap .i64 (IntKind.wrap .u64 (0-(x.natAbs:Int)))=x:=by rw[e,IntKind.wrap_i64];omega
  rw[show zs x=true from dT hn,cond_true,e',Bool.not_true,cond_false]
 ·have e':IntKind.wrap .i64 (x.natAbs:Int)=x:=by rw[wrapI (by omega) (by omega)];omega
  rw[show zs x=false from dF hn,cond_false,e',Bool.not_true,cond_false]
theorem plusC(n:Nat){x y:Int}(hx:x.natAbs<W192)(hy:y.natAbs<W192)(hf:(x+y).natAbs<W192)(k:Bool→List Int→Bool→Option α):
  g28 (n+7) (zs x) (zl x) (zs y) (zl y) k=k (zs (x+y)) (zl (x+y)) true:=by
 rw[g28_o,g19W hx hy,fitZ_iff.2 hf,cond_true];rfl
theorem lt91{a:Nat}(h:a<2^91):a<W192:=Nat.lt_trans h (by decide)
theorem prod_lt{x y:Int}(hx:x.natAbs<2^91)(hy:y.natAbs<2^90):(x*y).natAbs<W192:=by
 rw[Int.natAbs_mul]
 exact Nat.lt_trans (Nat.mul_lt_mul'' hx hy) (by decide)
theorem tailW(n c c':Nat)(hn:300≤n+40){u v:List Int}(hu:Byt u)(hv:Byt v)(hul:u.length≤4096){z y:Int}(hz:z.natAbs<W192)(hy:y.natAbs<W192)(k:Bool→Option α):
  (g22 (n+40)) (zs z) (zl z) (zs y) (zl y)
    (fun x2683 x2684=>
    (g22 (n+40)) (zs y) (zl y) (zs z) (zl z)
    (fun x2685 x2686=>
    (g23 (n+40)) (zs z) (zl z)
    (fun x2687 x2688=>
    (g24 (n+40)) (zs z) (zl z)
    (fun b2689 l2690 x2691=>
    (g25 (n+40)) (zs z) (zl z)
    (fun x2692 x2693=>
    cond (x2684 !=(0:Int))
    (k false)
    (
    cond (x2686 !=(0:Int))
    (k false)
    (
    cond (x2683 !=(IntKind.wrap .i64 (0-x2685)))
    (k false)
    (
    cond (!((x2683==(0:Int))==(((zs z)==(zs y))&&(eqLI (zl z) (zl y)))))
    (k false)
    (
    cond (x2688 !=(0:Int))
    (k false)
    (
    cond (x2691 !=(0:Int))
    (k false)
    (
    cond (x2693 !=(0:Int))
    (k false)
    (
    cond (decide (x2692<(0:Int)))
    (k false)
    (
    cond (decide (x2692>(192:Int)))
    (k false)
    (
    cond (!((x2687==(0:Int))==(x2692==(0:Int))))
    (k false)
    (
    (g18 (n+40)) (zs z) (zl z) b2689 l2690
    (fun b2709 l2710 x2711=>
    cond (x2711 !=(0:Int))
    (k false)
    (
    cond (!((b2709==false)&&(eqLI l2710 [0,0,0,0,0,0])))
    (k false)
    (
    (g26 (n+40)) 0 u.length c u.length u
    (fun b2714 l2715=>
    (g26 (n+40)) 0 v.length c' v.length v
    (fun b2716 l2717=>
    if 0+u.length≤u.length then
    let l2718:List Int:=List.take u.length (List.drop 0 u)
    if 1+l2718.length≤67108864 then
    (g26v1 (n+40)) ([(3:Int)]++l2718)
    (fun b2720 l2721=>
    (g27 (n+40)) b2714 l2715 b2720 l2721
    (fun b2722 l2723 x2724=>
    (g27 (n+40)) b2716 l2717 b2720 l2721
    (fun b2725 l2726 x2727=>
    (g28 (n+40)) b2714 l2715 b2716 l2717
    (fun b2728 l2729 b2730=>
    (g27 (n+40)) b2728 l2729 b2720 l2721
    (fun b2731 l2732 x2733=>
    (g28 (n+40)) b2722 l2723 b2725 l2726
    (fun b2734 l2735 b2736=>
    (g29 (n+40)) b2714 l2715 b2720 l2721
    (fun b2737 l2738 x2739=>
    (g30 (n+40)) 0 u.length c (60000:Int) u.length u
    (fun x2740=>
    let x2741:Int:=IntKind.wrap .i64 (x2740-(30000:Int))
    (g32 (n+40)) x2741
    (fun b2742 l2743=>
    (g31 (n+40)) b2742 l2743
    (fun x2744 x2745=>
    cond (x2724==x2739)
    (
    cond (x2724==(0:Int))
    (
    cond ((b2722==b2737)&&(eqLI l2723 l2738))
    (
    cond (x2727==(0:Int))
    (
    cond b2730
    (
    cond (x2733==(0:Int))
    (
    cond b2736
    (
    cond ((b2731==b2734)&&(eqLI l2732 l2735))
    (
    cond (x2745==(0:Int))
    (
    k (x2744==x2741))
    (k false))
    (k false))
    (k false))
    (k false))
    (k false))
    (k false))
    (k false))
    (k false))
    (k false)))))))))))
    else
    none
    else
    none))))))))))))))))))))=k true:=by
 obtain⟨b,hb,hb192,esz⟩:=sizeC (n+33) hz
 obtain⟨p,hp,ep⟩:=P6Half_res (n+40) c (by omega) hu
 obtain⟨q,hq,eq⟩:=P6Half_res (n+40) c' (by omega) hv
 have hu3:Byt ([(3:Int)]++List.take u.length (List.drop 0 u)):=by
  intro x hx
  rw[List.drop_zero,List.take_length] at hx
  rcases List.mem_append.1 hx with h|h
  ·rw[List.mem_singleton.1 h];omega
  ·exact hu x h
 obtain⟨r,hr,er⟩:=P6Half_resV (n+40) (by omega) hu3
 obtain⟨t,t0,t1,_,et⟩:=P6Pick_res (n+40) c hu 60000 (by omega)
 have ht:=t1 (by omega)
 have two:(2:Nat)^91=2^90+2^90:=by decide
 have hp1:p.natAbs<2^91:=by omega
 have hq1:q.natAbs<2^91:=by omega
 have hr1:r.natAbs<2^91:=by omega
 have hpq:(p+q).natAbs<2^91:=by have:=Int.natAbs_add_le p q;omega
 have hpW:=lt91 hp1
 have hqW:=lt91 hq1
 have hrW:=lt91 hr1
 have hpqW:=lt91 hpq
 have hpr:=prod_lt hp1 hr
 have hqr:=prod_lt hq1 hr
 have hpqr:=prod_lt hpq hr
 have hsum:p*r+q*r=(p+q)*r:=(Int.add_mul p q r).symm
 have hnz:(-z).natAbs<W192:=by rw[Int.natAbs_neg];exact hz
 have hzz:(z+-z).natAbs<W192:=by rw[Int.add_right_neg];decide
 have hs0:(z.sign==0)=(((b:Int))==0):=by
  by_cases h:z=0
  ·subst h
   have:b=0:=isLen_unique hb (by rfl)
   subst this;rfl
  ·have:=isLen_pos hb (by omega)
   rw[sign_ne h]
   symm;simp;omega
 rw[compareC (n+33) hz hy,compareC (n+33) hy hz,signC _ hz,negC _ hz,esz,bne_self_eq_false,cond_false,cond_false,cmpJ_anti,bne_self_eq_false,cond_false,cmpJ_zero,sameW hz hy,beq_self_eq_true,Bool.not_true,cond_false,cond_false,cond_false,cond_false,
  dF (by omega),cond_false,dF (by omega),cond_false,hs0,beq_self_eq_true,Bool.not_true,cond_false,g18W (n:=n+33) hz hnz,fitZ_iff.2 hzz,cond_true,bne_self_eq_false,cond_false,Int.add_right_neg,
  show(!((zs 0==false)&&(eqLI (zl 0) [0,0,0,0,0,0])))=false from rfl,cond_false,ep,eq,if_pos (by omega)]
 dsimp only
 rw[if_pos (by rw[List.drop_zero,List.take_length];omega),er,g27W (n:=n+33) hpW hrW,fitZ_iff.2 hpr,cond_true,g27W (n:=n+33) hqW hrW,fitZ_iff.2 hqr,cond_true,
  plusC (n+33) hpW hqW hpqW,g27W (n:=n+33) hpqW hrW,fitZ_iff.2 hpqr,cond_true,plusC (n+33) hpr hqr (by rw[hsum];exact hpqr),mulC (n+33) hpW hrW,fitZ_iff.2 hpr,cond_true,et,
  wrapI (x:=t-30000) (by omega) (by omega),g32Z _ (by omega) (by omega),narrowC (n+33) (by omega) (by omega),hsum,beq_self_eq_true,cond_true,cond_true,selfW hpr,cond_true,cond_true,cond_true,cond_true,cond_true,selfW hpqr,cond_true,cond_true,beq_self_eq_true]
end
theorem lawWides{α:Type}(n c c':Nat)(hn:300≤n+40){u v:List Int}(hu:Byt u)(hv:Byt v)(k:Bool→Option α):
  g5 (n+40) 0 u.length c 0 v.length c' u.length u v.length v k=k true:=by
 rw[g5_o,g15_o]
 by_cases hul:u.length≤4096
 ·rw[dF (by omega),cond_false,g15_o]
  by_cases hvl:v.length≤4096
  ·rw[dF (by omega),cond_false]
   obtain⟨z,hz,ez⟩:=P6Wide_res (n+40) c (by omega) hu
   obtain⟨y,hy,ey⟩:=P6Wide_res (n+40) c' (by omega) hv
   have tail:=tailW (α:=α) n c c' hn hu hv hul hz hy k
   rw[ez,ey,implWideText (n+40) hn hz,readBack (n+33) hn hz,g18W (n:=n+33) hz hy,g19W (n:=n+33) hz hy]
   by_cases hf:fitZ (z+y)=true
   ·have hf':=fitZ_iff.1 hf
    have hs:(z+y-y).natAbs<W192:=by rw[Int.add_sub_cancel];exact hz
    rw[hf,cond_true,cond_true,bne_self_eq_false,cond_false,selfW hz,Bool.not_true,cond_false,g20Z _ hz,Bool.not_true,cond_false,cond_false,selfW hf',Bool.not_true,cond_false,beq_self_eq_true,cond_true,
     g21W (n:=n+33) hf' hy,fitZ_iff.2 hs,cond_true,bne_self_eq_false,cond_false,Int.add_sub_cancel,selfW hz,Bool.not_true,cond_false]
    exact tail
   ·simp only[Bool.not_eq_true] at hf
    rw[hf,cond_false,g19W (n:=n+33) hz hy,hf,cond_false,bne_self_eq_false,cond_false,selfW hz,Bool.not_true,cond_false,g20Z _ hz,Bool.not_true,cond_false,bne_self_eq_false,cond_false,show((false==false)&&(eqLI [0,0,0,0,0,0] [0,0,0,0,0,0]))=true from rfl,Bool.not_true,cond_false,
     show((3:Int)==0)=false from rfl,cond_false,cond_false]
    exact tail
  ·rw[dT (by omega),cond_true]
 ·rw[dT (by omega),cond_true]
def apBB:List AP:=[.sl (.int .u8), .sl (.int .u8)]
theorem byt_of{l:List Int}(h:EK.Ws (.int .u8) l):Byt l:=fun x hx=>lit_u8 (h x hx)
theorem lawWides'(ls:List Lf)(hw:WA apBB ls):g5K (g5 400) ls (fun v _ _=>saysTrue v)=some ():=by
 obtain⟨⟨a1,a2,a3,a4,a5,a6⟩,⟨b1,b2,b3,b4,b5,b6⟩,_⟩:=hw
 unfold g5K
 have e0:(lf ls 0).nat=0:=a1
 have e3:(lf ls 3).nat=0:=b1
 have e1:(lf ls 1).nat=((lf ls 7).lst (.int .u8)).length:=a5.symm
 have e4:(lf ls 4).nat=((lf ls 9).lst (.int .u8)).length:=b5.symm
 have e6:(lf ls 6).nat=(lf ls 1).nat:=a2
 have e8:(lf ls 8).nat=(lf ls 4).nat:=b2
 rw[e6,e8,e0,e3,e1,e4]
 exact lawWides 360 _ _ (by decide) (byt_of a6) (byt_of b6) _
end Go.Proofs.YtlmmgjngihlpeaaDoor.Sx
