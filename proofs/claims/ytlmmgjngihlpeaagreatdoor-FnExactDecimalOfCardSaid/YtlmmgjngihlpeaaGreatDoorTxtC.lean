import Derived.Test.YtlmmgjngihlpeaaGreatDoorZedD
import Derived.Test.YtlmmgjngihlpeaaGreatDoorSxU
import Derived.Test.YtlmmgjngihlpeaaGreatDoorPureZb
namespace Go.Proofs.YtlmmgjngihlpeaaGreatDoor.Sx
open Go
set_option linter.unusedVariables false
set_option linter.unusedSimpArgs false
set_option maxRecDepth 100000
theorem bytesS_list:∀(l:List Int) (s:ByteArray),(l.foldl (fun r n=>r.push (UInt8.ofNat n.toNat)) s).data.toList=s.data.toList++l.map fun n=>UInt8.ofNat n.toNat
 |[],s=>by simp
 |a::l,s=>by
  rw[List.foldl_cons,bytesS_list l]
  simp[ByteArray.push]
theorem bytesS_data(l:List Int):(bytesS l).data.toList=l.map fun n=>UInt8.ofNat n.toNat:=by
 unfold bytesS
 rw[bytesS_list];rfl
theorem bytes_ext{a b:ByteArray}(h:a.data.toList=b.data.toList):a=b:=by
 cases a;cases b
 congr 1
 exact Array.ext' h
theorem bytesS_app(a b:List Int):bytesS (a++b)=bytesS a++bytesS b:=by
 apply bytes_ext
 rw[ByteArray.data_append,Array.toList_append,bytesS_data,bytesS_data,bytesS_data,List.map_append]
theorem bytesS_len(l:List Int):(bytesS l).size=l.length:=by
 show(bytesS l).data.size=_
 rw[←Array.length_toList,bytesS_data,List.length_map]
theorem bytesS_nil:(⟨#[]⟩:ByteArray)=bytesS []:=rfl
def padL:Nat→Nat→List Int
 |0,_=>[]
 |k+1,n=>padL k (n/10)++[48+((n%10:Nat):Int)]
theorem padL_length:∀k n,(padL k n).length=k
 |0,_=>rfl
 |k+1,n=>by simp[padL,padL_length k]
theorem padL_cons:∀k n,padL (k+1) n=(48+((n/10^k%10:Nat):Int))::padL k n
 |0,n=>by simp[padL]
 |k+1,n=>by
  show padL (k+1) (n/10)++[48+((n%10:Nat):Int)]=_
  rw[padL_cons k (n/10),Nat.div_div_eq_div_mul,←Nat.pow_succ'];rfl
theorem padL_add:∀j k n,padL (k+j) n=padL k (n/10^j)++padL j n
 |0,k,n=>by simp[padL]
 |j+1,k,n=>by
  show padL (k+j) (n/10)++[48+((n%10:Nat):Int)]=_
  rw[padL_add j k (n/10),Nat.div_div_eq_div_mul,←Nat.pow_succ',List.append_assoc];rfl
theorem padL_mod:∀k n,padL k (n%10^k)=padL k n
 |0,n=>rfl
 |k+1,n=>by
  show padL k (n%10^(k+1)/10)++[48+((n%10^(k+1)%10:Nat):Int)]=padL k (n/10)++[48+((n%10:Nat):Int)]
  have h1:n%10^(k+1)%10=n%10:=Nat.mod_mod_of_dvd n ⟨10^k,Nat.pow_succ'⟩
  have h2:n%10^(k+1)/10=n/10%10^k:=by rw[Nat.pow_succ',Nat.mod_mul_right_div_self]
  rw[h1,h2,padL_mod k (n/10)]
theorem padL_zero:∀k,padL k 0=List.replicate k 48
 |0=>rfl
 |k+1=>by
  show padL k (0/10)++[48+((0%10:Nat):Int)]=_
  rw[Nat.zero_div,padL_zero k,List.replicate_succ'];rfl
def ndigF:Nat→Nat→Nat
 |0,_=>1
 |f+1,n=>if n<10 then 1 else ndigF f (n/10)+1
def ndig(n:Nat):Nat:=ndigF n n
theorem ndigF_eq:∀f g n,n≤f→n≤g→ndigF f n=ndigF g n
 |0,0,_,_,_=>rfl
 |0,g+1,n,h,_=>by unfold ndigF;rw[if_pos (by omega)]
 |f+1,0,n,_,h=>by unfold ndigF;rw[if_pos (by omega)]
 |f+1,g+1,n,h1,h2=>by
  unfold ndigF
  by_cases h:n<10
  ·rw[if_pos h,if_pos h]
  ·rw[if_neg h,if_neg h,ndigF_eq f g (n/10) (by omega) (by omega)]
theorem ndig_small{n:Nat}(h:n<10):ndig n=1:=by
 unfold ndig
 cases n with
 |zero=>rfl
 |succ n=>unfold ndigF;rw[if_pos h]
theorem ndig_big{n:Nat}(h:10≤n):ndig n=ndig (n/10)+1:=by
 unfold ndig
 obtain⟨f,rfl⟩:∃f,n=f+1:=⟨n-1,by omega⟩
 rw[show ndigF (f+1) (f+1)=ndigF f ((f+1)/10)+1 by rw[ndigF,if_neg (by omega)],ndigF_eq f ((f+1)/10) _ (by omega) (Nat.le_refl _)]
theorem ndig_spec:∀(f n:Nat),n≤f→n<10^ndig n∧(0<n→10^(ndig n-1)≤n)∧1≤ndig n
 |0,n,h=>by
  obtain rfl:n=0:=by omega
  exact⟨by decide,fun h=>absurd h (by decide),by decide⟩
 |f+1,n,h=>by
  by_cases h1:n<10
  ·rw[ndig_small h1]
   exact⟨by omega,fun _=>by simpa using(by omega:1≤n),Nat.le_refl _⟩
  ·obtain⟨a1,a2,a3⟩:=ndig_spec f (n/10) (by omega)
   rw[ndig_big (by omega)]
   refine⟨?_,fun _=> ?_,by omega⟩
   ·rw[Nat.pow_succ];omega
   ·have a2:=a2 (by omega)
    rw[Nat.add_sub_cancel]
    have e:10^ndig (n/10)=10^(ndig (n/10)-1)*10:=by rw[←Nat.pow_succ];congr 1;omega
    rw[e];omega
theorem ndig_unique{n k:Nat}(hn:0<n)(h1:n<10^k)(b2:10^(k-1)≤n):ndig n=k:=by
 obtain⟨a1,a2,a3⟩:=ndig_spec n n (Nat.le_refl _)
 have b1:=a2 hn
 rcases Nat.lt_trichotomy (ndig n) k with h|h|h
 ·have:=Nat.pow_le_pow_right (show 0<10 by decide) (show ndig n≤k-1 by omega)
  omega
 ·exact h
 ·have:=Nat.pow_le_pow_right (show 0<10 by decide) (show k≤ndig n-1 by omega)
  omega
theorem ndig_add:∀j n,10^j≤n→ndig n=ndig (n/10^j)+j
 |0,n,_=>by simp
 |j+1,n,h=>by
  have h10:10≤n:=by
   have:10^1≤10^(j+1):=Nat.pow_le_pow_right (by decide) (by omega)
   omega
  rw[ndig_big h10,ndig_add j (n/10) (by rw[Nat.le_div_iff_mul_le (by decide),←Nat.pow_succ];exact h),Nat.div_div_eq_div_mul,←Nat.pow_succ',show j.succ=j+1 from rfl]
  omega
def decL(n:Nat):List Int:=padL (ndig n) n
theorem decL_small{n:Nat}(h:n<10):decL n=[48+(n:Int)]:=by
 unfold decL
 rw[ndig_small h]
 show[]++[48+((n%10:Nat):Int)]=_
 rw[Nat.mod_eq_of_lt h];rfl
theorem decL_big{n:Nat}(h:10≤n):decL n=decL (n/10)++[48+((n%10:Nat):Int)]:=by
 unfold decL
 rw[ndig_big h];rfl
theorem decL_split{n j:Nat}(h:10^j≤n):decL n=decL (n/10^j)++padL j n:=by
 unfold decL
 rw[ndig_add j n h,padL_add]
theorem padL_dec{n k:Nat}(h:ndig n≤k):padL k n=List.replicate (k-ndig n) 48++decL n:=by
 obtain⟨a1,_,_⟩:=ndig_spec n n (Nat.le_refl _)
 unfold decL
 rw[show k=(k-ndig n)+ndig n by omega,padL_add,Nat.div_eq_of_lt a1,padL_zero,Nat.add_sub_cancel]
theorem decL_len(n:Nat):(decL n).length=ndig n:=padL_length _ _
theorem ndig_le{n k:Nat}(hk:1≤k)(h:n<10^k):ndig n≤k:=by
 obtain⟨a1,a2,a3⟩:=ndig_spec n n (Nat.le_refl _)
 rcases Nat.eq_zero_or_pos n with rfl|hn
 ·rw[ndig_small (by decide)];exact hk
 ·have b1:=a2 hn
  rcases Nat.lt_or_ge k (ndig n) with h2|h2
  ·have:=Nat.pow_le_pow_right (show 0<10 by decide) (show k≤ndig n-1 by omega)
   omega
  ·exact h2
theorem tmodN(x y:Nat):Int.tmod (x:Int) (y:Int)=((x%y:Nat):Int):=by rw[Int.tmod_eq_emod_of_nonneg (by omega)];rfl
theorem tdivN(x y:Nat):Int.tdiv (x:Int) (y:Int)=((x/y:Nat):Int):=by rw[Int.tdiv_eq_ediv_of_nonneg (by omega)];rfl
theorem wrapB{x:Int}(h1:0≤x)(h2:x<256):IntKind.wrap .u8 x=x:=by
 unfold IntKind.wrap
 simp[IntKind.signed,IntKind.bits]
 omega
theorem specDecimal{α:Type}:∀(f n:Nat),n<9223372036854775808→n<10^(f+1)→∀k:ByteArray→Option α,g156 (f+1) (n:Int) k=k (bytesS (decL n))
 |f,n,hn,h,k=>by
  have e1:IntKind.wrap .u8 (IntKind.wrap .i64 ((48:Int)+(Int.tmod (n:Int) (10:Int))))=48+((n%10:Nat):Int):=by
   rw[show(10:Int)=((10:Nat):Int) from rfl,tmodN,wrapI (by omega) (by omega),wrapB (by omega) (by omega)]
  rw[g156_s,e1]
  show cond _ (k (bytesS [48+((n%10:Nat):Int)])) _=_
  by_cases h1:n<10
  ·rw[dT (by omega),cond_true,decL_small h1,Nat.mod_eq_of_lt h1]
  ·match f,h with
   |0,h=>omega
   |f+1,h=>
    rw[dF (by omega),cond_false,show(10:Int)=((10:Nat):Int) from rfl,tdivN,wrapI (by omega) (by omega),specDecimal f (n/10) (by omega) (by rw[Nat.pow_succ] at h;omega)]
    have hl:(bytesS (decL (n/10))).size≤1000:=by
     rw[bytesS_len,decL_len]
     have:=ndig_le (n:=n/10) (k:=20) (by decide) (by omega)
     omega
    show(if _+(bytesS [48+((n%10:Nat):Int)]).size≤_ then k (_++bytesS [48+((n%10:Nat):Int)]) else none)=_
    rw[if_pos (by rw[bytesS_len [48+((n%10:Nat):Int)]];simp only[List.length_singleton];omega),←bytesS_app,←decL_big (by omega)]
theorem fdivP(a s:Nat):Int.fdiv (a:Int) (2^s)=((a/2^s:Nat):Int):=by
 rw[show((2:Int)^s)=((2^s:Nat):Int) by norm_cast];exact fdivNat a _
theorem len64{α:Type}(m:Nat){p b:Nat}(hp:p<18446744073709551616)(hb:isLen p b=true)(k:Int→Option α):g189 m (p:Int) k=k (b:Int):=by
 have fin:∀(x s:Nat) (c:Int),x<256→p/2^s=x→(s=0∨0<x)→s≤56→c=(s:Int)→
   (if 0≤(x:Int)∧(x:Int)<(strC0.size:Nat) then k (IntKind.wrap .i64 (c+(IntKind.wrap .i64 (byteAt strC0 (x:Int).toNat)))) else none)=k (b:Int):=by
  intro x s c hx hps hs hs2 hc
  subst hc
  obtain⟨d,hd,hl⟩:=table_len hx
  have hd8:=isLen_le hl (c:=8) hx
  rw[strC0_size,if_pos (by omega),Int.toNat_natCast,hd,wrapI64 (x:=(d:Int)) (by omega) (by omega),wrapI64 (x:=(s:Int)+(d:Int)) (by omega) (by omega)]
  have:b=d+s:=by
   rcases hs with rfl|hs
   ·rw[Nat.pow_zero,Nat.div_one] at hps
    rw[hps] at hb
    exact isLen_unique hb hl
   ·exact isLen_unique hb (isLen_shift (by rw[hps];exact hl) (isLen_pos hl hs))
  rw[this]
  congr 1
  omega
 have d48:p/2^32/2^16=p/2^48:=by rw[Nat.div_div_eq_div_mul]
 have d56:p/2^48/2^8=p/2^56:=by rw[Nat.div_div_eq_div_mul]
 have d40:p/2^32/2^8=p/2^40:=by rw[Nat.div_div_eq_div_mul]
 have d24:p/2^16/2^8=p/2^24:=by rw[Nat.div_div_eq_div_mul]
 rw[g189_o]
 dsimp only
 by_cases h1:p≥4294967296
 ·rw[dT (by omega),cond_true,fdivP p 32]
  by_cases h2:p/2^32≥65536
  ·rw[dT (by omega),cond_true,fdivP _ 16,d48]
   by_cases h3:p/2^48≥256
   ·rw[dT (by omega),cond_true,fdivP _ 8,d56,wrapU8 (by omega)]
    exact fin _ 56 56 (by omega) rfl (by omega) (by omega) rfl
   ·rw[dF (by omega),cond_false,wrapU8 (by omega)]
    exact fin _ 48 48 (by omega) rfl (by omega) (by omega) rfl
  ·rw[dF (by omega),cond_false]
   by_cases h3:p/2^32≥256
   ·rw[dT (by omega),cond_true,fdivP _ 8,d40,wrapU8 (by omega)]
    exact fin _ 40 40 (by omega) rfl (by omega) (by omega) rfl
   ·rw[dF (by omega),cond_false,wrapU8 (by omega)]
    exact fin _ 32 32 (by omega) rfl (by omega) (by omega) rfl
 ·rw[dF (by omega),cond_false]
  by_cases h2:p≥65536
  ·rw[dT (by omega),cond_true,fdivP p 16]
   by_cases h3:p/2^16≥256
   ·rw[dT (by omega),cond_true,fdivP _ 8,d24,wrapU8 (by omega)]
    exact fin _ 24 24 (by omega) rfl (by omega) (by omega) rfl
   ·rw[dF (by omega),cond_false,wrapU8 (by omega)]
    exact fin _ 16 16 (by omega) rfl (by omega) (by omega) rfl
  ·rw[dF (by omega),cond_false]
   by_cases h3:p≥256
   ·rw[dT (by omega),cond_true,fdivP p 8,wrapU8 (by omega)]
    exact fin _ 8 8 (by omega) rfl (by omega) (by omega) rfl
   ·rw[dF (by omega),cond_false,wrapU8 (by omega)]
    exact fin p 0 0 (by omega) (by simp) (.inl rfl) (by omega) rfl
def lgc(b:Nat):Nat:=b*78913/2^18
def lgTab:Bool:=(List.range 65).all fun b=>b==0||(decide (2^b≤10^(lgc b+1))&&((lgc b==0||decide (10^(lgc b-1)≤2^(b-1)))&&decide (lgc b<20)))
theorem lgTab_ok:lgTab=true:=by decide+kernel
theorem lg_spec{b:Nat}(h0:0<b)(h:b≤64):2^b≤10^(lgc b+1)∧(lgc b=0∨10^(lgc b-1)≤2^(b-1))∧lgc b<20:=by
 have h1:=(List.all_eq_true.1 lgTab_ok) b (List.mem_range.2 (by omega))
 simp only[Bool.or_eq_true,Bool.and_eq_true,beq_iff_eq,decide_eq_true_eq] at h1
 rcases h1 with h1|h1
 ·omega
 ·exact h1
def p10Tab:Bool:=(List.range 20).all fun c=>decide (List.getD pow10L c 0=((10^c:Nat):Int))
theorem p10_ok{c:Nat}(h:c<20):List.getD pow10L c 0=((10^c:Nat):Int):=by
 have h0:p10Tab=true:=by decide+kernel
 have h1:=(List.all_eq_true.1 h0) c (List.mem_range.2 h)
 simpa using h1
theorem p10_len:pow10L.length=20:=by decide
theorem numDig{α:Type}(m:Nat){p:Nat}(h0:0<p)(hp:p<18446744073709551616)(k:Int→Option α):g165 m (p:Int) k=k (ndig p:Int):=by
 have hb:isLen p (Nat.log2 p+1)=true:=by
  rw[isLen_iff]
  exact⟨Nat.lt_log2_self, .inr (Nat.log2_self_le (by omega))⟩
 have hb64:Nat.log2 p+1≤64:=isLen_le hb (c:=64) hp
 have hlt:p<2^(Nat.log2 p+1):=Nat.lt_log2_self
 have hge:2^(Nat.log2 p+1-1)≤p:=Nat.log2_self_le (by omega)
 obtain⟨t1,t2,t3⟩:=lg_spec (b:=Nat.log2 p+1) (by omega) hb64
 rw[g165_o,len64 m hp hb,g188_o]
 generalize Nat.log2 p+1=b at*
 have el:Int.fdiv (IntKind.wrap .i64 ((b:Int)*(78913:Int))) (2^18)=(lgc b:Int):=by
  rw[wrapI (by omega) (by omega),show(b:Int)*78913=((b*78913:Nat):Int) by omega,fdivP];rfl
 rw[el,if_pos (by omega),Int.toNat_natCast,p10_len,if_pos t3,p10_ok t3,g190_o]
 generalize lgc b=c at*
 by_cases h:10^c≤p
 ·rw[dT (by omega),cond_true,wrapI (by omega) (by omega),ndig_unique (k:=c+1) h0 (by omega) h];rfl
 ·rw[dF (by omega),cond_false,wrapI (by omega) (by omega),Int.add_zero]
  rcases t2 with t2|t2
  ·subst t2
   simp at h;omega
  ·rw[ndig_unique (k:=c) h0 (by omega) (by omega)]
theorem strC2_size:strC2.size=200:=by kernel_rfl
def smTab:Bool:=(List.range 100).all fun y=>decide (byteAt strC2 (2*y)=48+((y/10:Nat):Int))&&decide (byteAt strC2 (2*y+1)=48+((y%10:Nat):Int))
theorem sm_ok{y:Nat}(h:y<100):byteAt strC2 (2*y)=48+((y/10:Nat):Int)∧byteAt strC2 (2*y+1)=48+((y%10:Nat):Int):=by
 have h0:smTab=true:=by kernel_rfl
 have h1:=(List.all_eq_true.1 h0) y (List.mem_range.2 h)
 simpa using h1
theorem set_take{l R:List Int}{n:Nat}(h0:0<n)(hn:n≤l.length)(x:Int):(l.take n++R).set (n-1) x=l.take (n-1)++x::R:=by
 obtain⟨n,rfl⟩:∃k,n=k+1:=⟨n-1,by omega⟩
 rw[Nat.add_sub_cancel,←take_snoc l (show n<l.length by omega),List.append_assoc,List.set_append_right _ _ (by rw[List.length_take];omega),List.length_take,show n-min n l.length=0 by omega];rfl
section
variable {l:List Int} {off nd u:Nat}
def fb(l:List Int)(off nd u j:Nat):List Int:=l.take (off+nd-j)++(padL j u++l.drop (off+nd))
theorem fb_set(hl:off+nd≤l.length){j i:Nat}(hj:j<nd)(hi:i=off+(nd-j-1)){x:Int}(hx:x=48+((u/10^j%10:Nat):Int)):(fb l off nd u j).set i x=fb l off nd u (j+1):=by
 subst hi;subst hx
 unfold fb
 rw[show off+(nd-j-1)=off+nd-j-1 by omega,set_take (by omega) (by omega),padL_cons];rfl
end
theorem w32{x:Nat}(h:x<4294967296):IntKind.wrap .u32 (x:Int)=(x:Int):=by rw[wrapU32,Nat.mod_eq_of_lt h]
theorem wU64{x:Nat}(h:x<18446744073709551616):IntKind.wrap .u64 (x:Int)=(x:Int):=by
 unfold IntKind.wrap
 simp[IntKind.signed,IntKind.bits]
 omega
theorem tm8(x:Nat):Int.tmod (x:Int) 100000000=((x%100000000:Nat):Int):=tmodN x 100000000
theorem td8(x:Nat):Int.tdiv (x:Int) 100000000=((x/100000000:Nat):Int):=tdivN x 100000000
theorem tm4(x:Nat):Int.tmod (x:Int) 10000=((x%10000:Nat):Int):=tmodN x 10000
theorem td4(x:Nat):Int.tdiv (x:Int) 10000=((x/10000:Nat):Int):=tdivN x 10000
theorem tm2(x:Nat):Int.tmod (x:Int) 100=((x%100:Nat):Int):=tmodN x 100
theorem td2(x:Nat):Int.tdiv (x:Int) 100=((x/100:Nat):Int):=tdivN x 100
theorem dbl(y:Nat):(y:Int)*2=((2*y:Nat):Int):=by omega
theorem dbl1(y:Nat):((2*y:Nat):Int)+1=((2*y+1:Nat):Int):=by omega
section
variable {l:List Int} {off nd u cap:Nat} {α:Type} {K:Int→Int→List Int→Option α}
theorem fb_step(hl:l.length=24)(ho:off+nd≤24){j:Nat}(hj:j+8≤nd)(hv:u/10^j<18446744073709551616)(F:Nat):
  g166l0 off nd cap K (F+1) ((u/10^j:Nat):Int) ((nd-j:Nat):Int) (fb l off nd u j)=
   g166l0 off nd cap K F ((u/10^(j+8):Nat):Int) ((nd-(j+8):Nat):Int) (fb l off nd u (j+8)):=by
 have hlo:off+nd≤l.length:=by omega
 have q:∀i,u/10^(j+i)=u/10^j/10^i:=fun i=>by rw[Nat.pow_add,←Nat.div_div_eq_div_mul]
 rw[g166l0_s,dT (by omega),cond_true]
 rw[q 8]
 have q0:u/10^j=u/10^j:=rfl
 generalize hvv:u/10^j=v at*
 extract_lets x1 x2 x3 x4 x5 x6 x7 i1 i2 z1 i3 i4 z2 i5 i6 z3 i7 i8 z4
 have e1:x1=((v%100000000:Nat):Int):=by
  show IntKind.wrap .u32 (Int.tmod (v:Int) 100000000)=_
  rw[tm8,w32 (by omega)]
 clear_value x1
 subst e1
 have e2:x2=((v%100000000/10000:Nat):Int):=by
  show IntKind.wrap .u32 (Int.tdiv ((v%100000000:Nat):Int) 10000)=_
  rw[td4,w32 (by omega)]
 have e3:x3=((v%100000000%10000:Nat):Int):=tm4 _
 clear_value x2 x3
 subst e2;subst e3
 have f0:v%100000000%10000%100%10=v%10:=by omega
 have f1:v%100000000%10000%100/10=v/10%10:=by omega
 have f2:v%100000000%10000/100%10=v/100%10:=by omega
 have f3:v%100000000%10000/100/10=v/1000%10:=by omega
 have f4:v%100000000/10000%100%10=v/10000%10:=by omega
 have f5:v%100000000/10000%100/10=v/100000%10:=by omega
 have f6:v%100000000/10000/100%10=v/1000000%10:=by omega
 have f7:v%100000000/10000/100/10=v/10000000%10:=by omega
 have hb:v%100000000/10000<10000:=by omega
 have hc:v%100000000%10000<10000:=by omega
 have e4:x4=((2*(v%100000000%10000/100):Nat):Int):=by
  show IntKind.wrap .u32 (IntKind.wrap .u32 (Int.tdiv ((v%100000000%10000:Nat):Int) 100)*2)=_
  rw[td2,w32 (by omega),dbl,w32 (by omega)]
 have e5:x5=((2*(v%100000000%10000%100):Nat):Int):=by
  show IntKind.wrap .u32 (Int.tmod ((v%100000000%10000:Nat):Int) 100*2)=_
  rw[tm2,dbl,w32 (by omega)]
 have e6:x6=((2*(v%100000000/10000/100):Nat):Int):=by
  show IntKind.wrap .u32 (IntKind.wrap .u32 (Int.tdiv ((v%100000000/10000:Nat):Int) 100)*2)=_
  rw[td2,w32 (by omega),dbl,w32 (by omega)]
 have e7:x7=((2*(v%100000000/10000%100):Nat):Int):=by
  show IntKind.wrap .u32 (Int.tmod ((v%100000000/10000:Nat):Int) 100*2)=_
  rw[tm2,dbl,w32 (by omega)]
 clear_value x4 x5 x6 x7
 have c1:v%100000000%10000/100<100:=by omega
 have c2:v%100000000%10000%100<100:=by omega
 have b1:v%100000000/10000/100<100:=by omega
 have b2:v%100000000/10000%100<100:=by omega
 generalize v%100000000%10000/100=y1 at*
 generalize v%100000000%10000%100=y0 at*
 generalize v%100000000/10000/100=y3 at*
 generalize v%100000000/10000%100=y2 at*
 subst e4;subst e5;subst e6;subst e7
 have g1:i1=((nd-j:Nat):Int)-1:=wrapI (by omega) (by omega)
 have g2:i2=((nd-j:Nat):Int)-2:=wrapI (by omega) (by omega)
 have h1:z1=((2*y0+1:Nat):Int):=by
  show IntKind.wrap .u32 (((2*y0:Nat):Int)+1)=_
  rw[dbl1,w32 (by omega)]
 clear_value i1 i2 z1
 subst g1;subst g2;subst h1
 have sz:=strC2_size
 rw[if_pos (by omega),if_pos (by omega),if_pos (by omega),if_pos (by omega),if_pos (by omega),if_pos (by omega)]
 have g3:i3=((nd-j:Nat):Int)-3:=wrapI (by omega) (by omega)
 have g4:i4=((nd-j:Nat):Int)-4:=wrapI (by omega) (by omega)
 have h2:z2=((2*y1+1:Nat):Int):=by
  show IntKind.wrap .u32 (((2*y1:Nat):Int)+1)=_
  rw[dbl1,w32 (by omega)]
 clear_value i3 i4 z2
 subst g3;subst g4;subst h2
 rw[if_pos (by omega),if_pos (by omega),if_pos (by omega),if_pos (by omega),if_pos (by omega),if_pos (by omega)]
 have g5:i5=((nd-j:Nat):Int)-5:=wrapI (by omega) (by omega)
 have g6:i6=((nd-j:Nat):Int)-6:=wrapI (by omega) (by omega)
 have h3:z3=((2*y2+1:Nat):Int):=by
  show IntKind.wrap .u32 (((2*y2:Nat):Int)+1)=_
  rw[dbl1,w32 (by omega)]
 clear_value i5 i6 z3
 subst g5;subst g6;subst h3
 rw[if_pos (by omega),if_pos (by omega),if_pos (by omega),if_pos (by omega),if_pos (by omega),if_pos (by omega)]
 have g7:i7=((nd-j:Nat):Int)-7:=wrapI (by omega) (by omega)
 have g8:i8=((nd-j:Nat):Int)-8:=wrapI (by omega) (by omega)
 have h4:z4=((2*y3+1:Nat):Int):=by
  show IntKind.wrap .u32 (((2*y3:Nat):Int)+1)=_
  rw[dbl1,w32 (by omega)]
 clear_value i7 i8 z4
 subst g7;subst g8;subst h4
 rw[if_pos (by omega),if_pos (by omega),if_pos (by omega),if_pos (by omega),if_pos (by omega),if_pos (by omega)]
 simp only[Int.toNat_natCast]
 rw[(sm_ok c2).2,(sm_ok c2).1,(sm_ok c1).2,(sm_ok c1).1,(sm_ok b2).2,(sm_ok b2).1,(sm_ok b1).2,(sm_ok b1).1]
 rw[fb_set hlo (j:=j) (by omega) (by omega) (by rw[hvv,f0]),fb_set hlo (j:=j+1) (by omega) (by omega) (by rw[q 1,f1]),fb_set hlo (j:=j+1+1) (by omega) (by omega) (by rw[show j+1+1=j+2 from rfl,q 2,f2]),
  fb_set hlo (j:=j+1+1+1) (by omega) (by omega) (by rw[show j+1+1+1=j+3 from rfl,q 3,f3]),fb_set hlo (j:=j+1+1+1+1) (by omega) (by omega) (by rw[show j+1+1+1+1=j+4 from rfl,q 4,f4]),
  fb_set hlo (j:=j+1+1+1+1+1) (by omega) (by omega) (by rw[show j+1+1+1+1+1=j+5 from rfl,q 5,f5]),fb_set hlo (j:=j+1+1+1+1+1+1) (by omega) (by omega) (by rw[show j+1+1+1+1+1+1=j+6 from rfl,q 6,f6]),
  fb_set hlo (j:=j+1+1+1+1+1+1+1) (by omega) (by omega) (by rw[show j+1+1+1+1+1+1+1=j+7 from rfl,q 7,f7])]
 rw[td8,wU64 (by omega),wrapI (by omega) (by omega),show((nd-j:Nat):Int)-8=((nd-(j+8):Nat):Int) by omega]
end
end Go.Proofs.YtlmmgjngihlpeaaGreatDoor.Sx
