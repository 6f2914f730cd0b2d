import Derived.Test.YtlmmgjngihlpeaaDoorBase
import Derived.Test.YtlmmgjngihlpeaaDoorSxU
import Derived.Test.YtlmmgjngihlpeaaDoorPureZb
namespace Go.Proofs.YtlmmgjngihlpeaaDoor.Sx
open Go
set_option linter.unusedVariables false
set_option linter.unusedSimpArgs false
set_option maxRecDepth 100000
theorem bytesS_list:∀(l:List Int) (s:ByteArray),(l.foldl (fun r n=>r.push (UInt8.ofNat n.toNat)) s).data.toList=s.data.toList++l.map fun n=>UInt8.ofNat n.toNat
 |[],s=>by simp
 |a::l,s=>by
  rw[List.foldl_cons,bytesS_list l]
  simp[ByteArray.push]
theorem bytesS_data(l:List Int):(bytesS l).data.toList=l.map fun n=>UInt8.ofNat n.toNat:=by
 unfold bytesS
 rw[bytesS_list];rfl
theorem bytes_ext{a b:ByteArray}(h:a.data.toList=b.data.toList):a=b:=by
 cases a;cases b
 congr 1
 exact Array.ext' h
theorem bytesS_app(a b:List Int):bytesS (a++b)=bytesS a++bytesS b:=by
 apply bytes_ext
 rw[ByteArray.data_append,Array.toList_append,bytesS_data,bytesS_data,bytesS_data,List.map_append]
theorem bytesS_len(l:List Int):(bytesS l).size=l.length:=by
 show(bytesS l).data.size=_
 rw[←Array.length_toList,bytesS_data,List.length_map]
def padL:Nat→Nat→List Int
 |0,_=>[]
 |k+1,n=>padL k (n/10)++[48+((n%10:Nat):Int)]
theorem padL_length:∀k n,(padL k n).length=k
 |0,_=>rfl
 |k+1,n=>by simp[padL,padL_length k]
theorem padL_cons:∀k n,padL (k+1) n=(48+((n/10^k%10:Nat):Int))::padL k n
 |0,n=>by simp[padL]
 |k+1,n=>by
  show padL (k+1) (n/10)++[48+((n%10:Nat):Int)]=_
  rw[padL_cons k (n/10),Nat.div_div_eq_div_mul,←Nat.pow_succ'];rfl
theorem padL_add:∀j k n,padL (k+j) n=padL k (n/10^j)++padL j n
 |0,k,n=>by simp[padL]
 |j+1,k,n=>by
  show padL (k+j) (n/10)++[48+((n%10:Nat):Int)]=_
  rw[padL_add j k (n/10),Nat.div_div_eq_div_mul,←Nat.pow_succ',List.append_assoc];rfl
theorem padL_mod:∀k n,padL k (n%10^k)=padL k n
 |0,n=>rfl
 |k+1,n=>by
  show padL k (n%10^(k+1)/10)++[48+((n%10^(k+1)%10:Nat):Int)]=padL k (n/10)++[48+((n%10:Nat):Int)]
  have h1:n%10^(k+1)%10=n%10:=Nat.mod_mod_of_dvd n ⟨10^k,Nat.pow_succ'⟩
  have h2:n%10^(k+1)/10=n/10%10^k:=by rw[Nat.pow_succ',Nat.mod_mul_right_div_self]
  rw[h1,h2,padL_mod k (n/10)]
theorem padL_zero:∀k,padL k 0=List.replicate k 48
 |0=>rfl
 |k+1=>by
  show padL k (0/10)++[48+((0%10:Nat):Int)]=_
  rw[Nat.zero_div,padL_zero k,List.replicate_succ'];rfl
def ndigF:Nat→Nat→Nat
 |0,_=>1
 |f+1,n=>if n<10 then 1 else ndigF f (n/10)+1
def ndig(n:Nat):Nat:=ndigF n n
theorem ndigF_eq:∀f g n,n≤f→n≤g→ndigF f n=ndigF g n
 |0,0,_,_,_=>rfl
 |0,g+1,n,h,_=>by unfold ndigF;rw[if_pos (by omega)]
 |f+1,0,n,_,h=>by unfold ndigF;rw[if_pos (by omega)]
 |f+1,g+1,n,h1,h2=>by
  unfold ndigF
  by_cases h:n<10
  ·rw[if_pos h,if_pos h]
  ·rw[if_neg h,if_neg h,ndigF_eq f g (n/10) (by omega) (by omega)]
theorem ndig_small{n:Nat}(h:n<10):ndig n=1:=by
 unfold ndig
 cases n with
 |zero=>rfl
 |succ n=>unfold ndigF;rw[if_pos h]
theorem ndig_big{n:Nat}(h:10≤n):ndig n=ndig (n/10)+1:=by
 unfold ndig
 obtain⟨f,rfl⟩:∃f,n=f+1:=⟨n-1,by omega⟩
 rw[show ndigF (f+1) (f+1)=ndigF f ((f+1)/10)+1 by rw[ndigF,if_neg (by omega)],ndigF_eq f ((f+1)/10) _ (by omega) (Nat.le_refl _)]
theorem ndig_spec:∀(f n:Nat),n≤f→n<10^ndig n∧(0<n→10^(ndig n-1)≤n)∧1≤ndig n
 |0,n,h=>by
  obtain rfl:n=0:=by omega
  exact⟨by decide,fun h=>absurd h (by decide),by decide⟩
 |f+1,n,h=>by
  by_cases h1:n<10
  ·rw[ndig_small h1]
   exact⟨by omega,fun _=>by simpa using(by omega:1≤n),Nat.le_refl _⟩
  ·obtain⟨a1,a2,a3⟩:=ndig_spec f (n/10) (by omega)
   rw[ndig_big (by omega)]
   refine⟨?_,fun _=> ?_,by omega⟩
   ·rw[Nat.pow_succ];omega
   ·have a2:=a2 (by omega)
    rw[Nat.add_sub_cancel]
    have e:10^ndig (n/10)=10^(ndig (n/10)-1)*10:=by rw[←Nat.pow_succ];congr 1;omega
    rw[e];omega
theorem ndig_unique{n k:Nat}(hn:0<n)(h1:n<10^k)(b2:10^(k-1)≤n):ndig n=k:=by
 obtain⟨a1,a2,a3⟩:=ndig_spec n n (Nat.le_refl _)
 have b1:=a2 hn
 rcases Nat.lt_trichotomy (ndig n) k with h|h|h
 ·have:=Nat.pow_le_pow_right (show 0<10 by decide) (show ndig n≤k-1 by omega)
  omega
 ·exact h
 ·have:=Nat.pow_le_pow_right (show 0<10 by decide) (show k≤ndig n-1 by omega)
  omega
theorem ndig_add:∀j n,10^j≤n→ndig n=ndig (n/10^j)+j
 |0,n,_=>by simp
 |j+1,n,h=>by
  have h10:10≤n:=by
   have:10^1≤10^(j+1):=Nat.pow_le_pow_right (by decide) (by omega)
   omega
  rw[ndig_big h10,ndig_add j (n/10) (by rw[Nat.le_div_iff_mul_le (by decide),←Nat.pow_succ];exact h),Nat.div_div_eq_div_mul,←Nat.pow_succ',show j.succ=j+1 from rfl]
  omega
def decL(n:Nat):List Int:=padL (ndig n) n
theorem decL_split{n j:Nat}(h:10^j≤n):decL n=decL (n/10^j)++padL j n:=by
 unfold decL
 rw[ndig_add j n h,padL_add]
theorem padL_dec{n k:Nat}(h:ndig n≤k):padL k n=List.replicate (k-ndig n) 48++decL n:=by
 obtain⟨a1,_,_⟩:=ndig_spec n n (Nat.le_refl _)
 unfold decL
 rw[show k=(k-ndig n)+ndig n by omega,padL_add,Nat.div_eq_of_lt a1,padL_zero,Nat.add_sub_cancel]
theorem decL_len(n:Nat):(decL n).length=ndig n:=padL_length _ _
theorem ndig_le{n k:Nat}(hk:1≤k)(h:n<10^k):ndig n≤k:=by
 obtain⟨a1,a2,a3⟩:=ndig_spec n n (Nat.le_refl _)
 rcases Nat.eq_zero_or_pos n with rfl|hn
 ·rw[ndig_small (by decide)];exact hk
 ·have b1:=a2 hn
  rcases Nat.lt_or_ge k (ndig n) with h2|h2
  ·have:=Nat.pow_le_pow_right (show 0<10 by decide) (show k≤ndig n-1 by omega)
   omega
  ·exact h2
theorem tmodN(x y:Nat):Int.tmod (x:Int) (y:Int)=((x%y:Nat):Int):=by rw[Int.tmod_eq_emod_of_nonneg (by omega)];rfl
theorem tdivN(x y:Nat):Int.tdiv (x:Int) (y:Int)=((x/y:Nat):Int):=by rw[Int.tdiv_eq_ediv_of_nonneg (by omega)];rfl
theorem wrapB{x:Int}(h1:0≤x)(h2:x<256):IntKind.wrap .u8 x=x:=by
 unfold IntKind.wrap
 simp[IntKind.signed,IntKind.bits]
 omega
theorem fdivP(a s:Nat):Int.fdiv (a:Int) (2^s)=((a/2^s:Nat):Int):=by
 rw[show((2:Int)^s)=((2^s:Nat):Int) by norm_cast];exact fdivNat a _
theorem len64{α:Type}(m:Nat){p b:Nat}(hp:p<18446744073709551616)(hb:isLen p b=true)(k:Int→Option α):g136 m (p:Int) k=k (b:Int):=by
 have fin:∀(x s:Nat) (c:Int),x<256→p/2^s=x→(s=0∨0<x)→s≤56→c=(s:Int)→
   (if 0≤(x:Int)∧(x:Int)<(strC0.size:Nat) then k (IntKind.wrap .i64 (c+(IntKind.wrap .i64 (byteAt strC0 (x:Int).toNat)))) else none)=k (b:Int):=by
  intro x s c hx hps hs hs2 hc
  subst hc
  obtain⟨d,hd,hl⟩:=table_len hx
  have hd8:=isLen_le hl (c:=8) hx
  rw[strC0_size,if_pos (by omega),Int.toNat_natCast,hd,wrapI64 (x:=(d:Int)) (by omega) (by omega),wrapI64 (x:=(s:Int)+(d:Int)) (by omega) (by omega)]
  have:b=d+s:=by
   rcases hs with rfl|hs
   ·rw[Nat.pow_zero,Nat.div_one] at hps
    rw[hps] at hb
    exact isLen_unique hb hl
   ·exact isLen_unique hb (isLen_shift (by rw[hps];exact hl) (isLen_pos hl hs))
  rw[this]
  congr 1
  omega
 have d48:p/2^32/2^16=p/2^48:=by rw[Nat.div_div_eq_div_mul]
 have d56:p/2^48/2^8=p/2^56:=by rw[Nat.div_div_eq_div_mul]
 have d40:p/2^32/2^8=p/2^40:=by rw[Nat.div_div_eq_div_mul]
 have d24:p/2^16/2^8=p/2^24:=by rw[Nat.div_div_eq_div_mul]
 rw[g136_o]
 dsimp only
 by_cases h1:p≥4294967296
 ·rw[dT (by omega),cond_true,fdivP p 32]
  by_cases h2:p/2^32≥65536
  ·rw[dT (by omega),cond_true,fdivP _ 16,d48]
   by_cases h3:p/2^48≥256
   ·rw[dT (by omega),cond_true,fdivP _ 8,d56,wrapU8 (by omega)]
    exact fin _ 56 56 (by omega) rfl (by omega) (by omega) rfl
   ·rw[dF (by omega),cond_false,wrapU8 (by omega)]
    exact fin _ 48 48 (by omega) rfl (by omega) (by omega) rfl
  ·rw[dF (by omega),cond_false]
   by_cases h3:p/2^32≥256
   ·rw[dT (by omega),cond_true,fdivP _ 8,d40,wrapU8 (by omega)]
    exact fin _ 40 40 (by omega) rfl (by omega) (by omega) rfl
   ·rw[dF (by omega),cond_false,wrapU8 (by omega)]
    exact fin _ 32 32 (by omega) rfl (by omega) (by omega) rfl
 ·rw[dF (by omega),cond_false]
  by_cases h2:p≥65536
  ·rw[dT (by omega),cond_true,fdivP p 16]
   by_cases h3:p/2^16≥256
   ·rw[dT (by omega),cond_true,fdivP _ 8,d24,wrapU8 (by omega)]
    exact fin _ 24 24 (by omega) rfl (by omega) (by omega) rfl
   ·rw[dF (by omega),cond_false,wrapU8 (by omega)]
    exact fin _ 16 16 (by omega) rfl (by omega) (by omega) rfl
  ·rw[dF (by omega),cond_false]
   by_cases h3:p≥256
   ·rw[dT (by omega),cond_true,fdivP p 8,wrapU8 (by omega)]
    exact fin _ 8 8 (by omega) rfl (by omega) (by omega) rfl
   ·rw[dF (by omega),cond_false,wrapU8 (by omega)]
    exact fin p 0 0 (by omega) (by simp) (.inl rfl) (by omega) rfl
def lgc(b:Nat):Nat:=b*78913/2^18
def lgTab:Bool:=(List.range 65).all fun b=>b==0||(decide (2^b≤10^(lgc b+1))&&((lgc b==0||decide (10^(lgc b-1)≤2^(b-1)))&&decide (lgc b<20)))
theorem lgTab_ok:lgTab=true:=by decide+kernel
theorem lg_spec{b:Nat}(h0:0<b)(h:b≤64):2^b≤10^(lgc b+1)∧(lgc b=0∨10^(lgc b-1)≤2^(b-1))∧lgc b<20:=by
 have h1:=(List.all_eq_true.1 lgTab_ok) b (List.mem_range.2 (by omega))
 simp only[Bool.or_eq_true,Bool.and_eq_true,beq_iff_eq,decide_eq_true_eq] at h1
 rcases h1 with h1|h1
 ·omega
 ·exact h1
def p10Tab:Bool:=(List.range 20).all fun c=>decide (List.getD pow10L c 0=((10^c:Nat):Int))
theorem p10_ok{c:Nat}(h:c<20):List.getD pow10L c 0=((10^c:Nat):Int):=by
 have h0:p10Tab=true:=by decide+kernel
 have h1:=(List.all_eq_true.1 h0) c (List.mem_range.2 h)
 simpa using h1
theorem p10_len:pow10L.length=20:=by decide
theorem numDig{α:Type}(m:Nat){p:Nat}(h0:0<p)(hp:p<18446744073709551616)(k:Int→Option α):g127 m (p:Int) k=k (ndig p:Int):=by
 have hb:isLen p (Nat.log2 p+1)=true:=by
  rw[isLen_iff]
  exact⟨Nat.lt_log2_self, .inr (Nat.log2_self_le (by omega))⟩
 have hb64:Nat.log2 p+1≤64:=isLen_le hb (c:=64) hp
 have hlt:p<2^(Nat.log2 p+1):=Nat.lt_log2_self
 have hge:2^(Nat.log2 p+1-1)≤p:=Nat.log2_self_le (by omega)
 obtain⟨t1,t2,t3⟩:=lg_spec (b:=Nat.log2 p+1) (by omega) hb64
 rw[g127_o,len64 m hp hb,g135_o]
 generalize Nat.log2 p+1=b at*
 have el:Int.fdiv (IntKind.wrap .i64 ((b:Int)*(78913:Int))) (2^18)=(lgc b:Int):=by
  rw[wrapI (by omega) (by omega),show(b:Int)*78913=((b*78913:Nat):Int) by omega,fdivP];rfl
 rw[el,if_pos (by omega),Int.toNat_natCast,p10_len,if_pos t3,p10_ok t3,g137_o]
 generalize lgc b=c at*
 by_cases h:10^c≤p
 ·rw[dT (by omega),cond_true,wrapI (by omega) (by omega),ndig_unique (k:=c+1) h0 (by omega) h];rfl
 ·rw[dF (by omega),cond_false,wrapI (by omega) (by omega),Int.add_zero]
  rcases t2 with t2|t2
  ·subst t2
   simp at h;omega
  ·rw[ndig_unique (k:=c) h0 (by omega) (by omega)]
theorem strC2_size:strC2.size=200:=by kernel_rfl
def smTab:Bool:=(List.range 100).all fun y=>decide (byteAt strC2 (2*y)=48+((y/10:Nat):Int))&&decide (byteAt strC2 (2*y+1)=48+((y%10:Nat):Int))
theorem sm_ok{y:Nat}(h:y<100):byteAt strC2 (2*y)=48+((y/10:Nat):Int)∧byteAt strC2 (2*y+1)=48+((y%10:Nat):Int):=by
 have h0:smTab=true:=by kernel_rfl
 have h1:=(List.all_eq_true.1 h0) y (List.mem_range.2 h)
 simpa using h1
theorem set_take{l R:List Int}{n:Nat}(h0:0<n)(hn:n≤l.length)(x:Int):(l.take n++R).set (n-1) x=l.take (n-1)++x::R:=by
 obtain⟨n,rfl⟩:∃k,n=k+1:=⟨n-1,by omega⟩
 rw[Nat.add_sub_cancel,←take_snoc l (show n<l.length by omega),List.append_assoc,List.set_append_right _ _ (by rw[List.length_take];omega),List.length_take,show n-min n l.length=0 by omega];rfl
section
variable {l:List Int} {off nd u:Nat}
def fb(l:List Int)(off nd u j:Nat):List Int:=l.take (off+nd-j)++(padL j u++l.drop (off+nd))
theorem fb_set(hl:off+nd≤l.length){j i:Nat}(hj:j<nd)(hi:i=off+(nd-j-1)){x:Int}(hx:x=48+((u/10^j%10:Nat):Int)):(fb l off nd u j).set i x=fb l off nd u (j+1):=by
 subst hi;subst hx
 unfold fb
 rw[show off+(nd-j-1)=off+nd-j-1 by omega,set_take (by omega) (by omega),padL_cons];rfl
end
end Go.Proofs.YtlmmgjngihlpeaaDoor.Sx
