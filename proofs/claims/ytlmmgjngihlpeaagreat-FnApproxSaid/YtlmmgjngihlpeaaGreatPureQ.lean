import Derived.Test.YtlmmgjngihlpeaaGreatPureK
/- Plain laws: int64 values of wide integers. Our own work. -/
namespace Go.Proofs.YtlmmgjngihlpeaaGreat.Sx
open Go
set_option linter.unusedVariables false
set_option linter.unusedSimpArgs false
set_option maxRecDepth 100000
end Go.Proofs.YtlmmgjngihlpeaaGreat.Sx
/- Plain laws: shifts of sizes. Our own work. -/
namespace Go.Proofs.YtlmmgjngihlpeaaGreat.Sx
open Go
set_option linter.unusedVariables false
set_option linter.unusedSimpArgs false
set_option maxRecDepth 100000
theorem limbs_getD:∀(k a i:Nat),i<k→List.getD (limbs k a) i 0=((dv i a%4294967296:Nat):Int)
 |k+1,a,0,_=>rfl
 |k+1,a,i+1,h=>by
  show List.getD (limbs k (a/4294967296)) i 0=_
  rw[limbs_getD k _ i (by omega)];rfl
theorem pow_cast(r:Nat):((2:Int)^r)=((2^r:Nat):Int):=by simp
theorem shl32(x r:Nat):IntKind.wrap .u32 ((x:Int)*2^r)=((x*2^r%4294967296:Nat):Int):=by
 rw[pow_cast,←Int.natCast_mul,wrapU32]
theorem shr32(x r:Nat):Int.fdiv (x:Int) (2^r)=((x/2^r:Nat):Int):=by
 rw[pow_cast];exact fdivNat _ _
def upE(r p x:Nat):Int:=((x*2^r%4294967296+p*2^r/4294967296:Nat):Int)
def below(a i:Nat):Nat:=if i=0 then 0 else dv (i-1) a%4294967296
theorem g44s{α:Type}(j v q r a:Nat)(hv:v<6)(hq:q≤v)(hr:r<32)(z out:List Int)(ho:out.length=6)(k:List Int→Option α):
  g44l0 (q:Int) (r:Int) (limbs 6 a) z k (j+1) (v:Int) out=g44l0 (q:Int) (r:Int) (limbs 6 a) z k j ((v:Int)-1) (List.set out v (upE r (below a (v-q)) (dv (v-q) a%4294967296))):=by
 simp only[g44l0,g44l0b]
 rw[decide_eq_true (show(v:Int)≥(q:Int) by omega),wrapI64 (x:=(v:Int)-q) (by omega) (by omega),show(v:Int)-(q:Int)=((v-q:Nat):Int) by omega]
 simp only[cond_true,Int.toNat_natCast]
 rw[if_pos (by omega),if_pos (by omega),if_neg (by omega),if_pos (by omega),if_pos (by omega),limbs_getD 6 a (v-q) (by omega),Nat.min_eq_left (show r≤32 by omega),shl32,wrapI64 (x:=(v:Int)-1) (by omega) (by omega)]
 unfold upE below
 by_cases h0:r=0
 ·subst h0
  rw[decide_eq_false (show¬((0:Nat):Int)>0 by omega)]
  simp only[cond_false,Nat.pow_zero,Nat.mul_one]
  have:(if v-q=0 then 0 else dv (v-q-1) a%4294967296)/4294967296=0:=by
   split
   ·rfl
   ·exact Nat.div_eq_of_lt (Nat.mod_lt _ (by decide))
  rw[this];rfl
 ·rw[decide_eq_true (show(r:Int)>0 by omega)]
  simp only[cond_true]
  by_cases h1:v=q
  ·subst h1
   rw[decide_eq_false (show¬(v:Int)>(v:Int) by omega),Nat.sub_self,if_pos (show(0:Nat)=0 from rfl)]
   simp only[cond_false,Nat.zero_mul,Nat.zero_div,Nat.add_zero]
  ·rw[decide_eq_true (show(v:Int)>(q:Int) by omega),if_neg (show¬v-q=0 by omega)]
   simp only[cond_true]
   rw[wrapI64 (x:=((v-q:Nat):Int)-1) (by omega) (by omega),show((v-q:Nat):Int)-1=((v-q-1:Nat):Int) by omega,wrapI64 (x:=32-(r:Int)) (by omega) (by omega),show 32-(r:Int)=((32-r:Nat):Int) by omega]
   simp only[Int.toNat_natCast]
   rw[if_pos (by omega),if_pos (by omega),if_pos (by omega),if_pos (by omega),if_neg (by omega),if_pos (by omega),if_pos (by omega),Nat.min_eq_left (show 32-r≤32 by omega),limbs_getD 6 a (v-q-1) (by omega),shr32]
   have hlt:dv (v-q-1) a%4294967296<4294967296:=Nat.mod_lt _ (by decide)
   rw[shr_up (by omega)]
   have hc:=carry_up (r:=r) hlt
   have hu:=up_lt (r:=r) (by omega) (dv (v-q) a%4294967296) _ hc
   have hset:List.getD (List.set out v ((dv (v-q) a%4294967296*2^r%4294967296:Nat):Int)) v 0=((dv (v-q) a%4294967296*2^r%4294967296:Nat):Int):=by
    simp[List.getD,List.getElem?_set,ho,hv]
   rw[hset,or32 (Nat.mod_lt _ (by decide)) (by omega),up_or (by omega) _ _ hc,List.set_set]
theorem g44e{α:Type}(j v q:Nat)(w:Int)(r:Int)(la z out:List Int)(hw:w<q)(k:List Int→Option α):g44l0 (q:Int) r la z k (j+1) w out=k out:=by
 simp only[g44l0,g44l0b]
 rw[decide_eq_false (by omega)];rfl
def upList(q r a:Nat):List Int:=(List.range 6).map fun i=>if i<q then 0 else upE r (below a (i-q)) (dv (i-q) a%4294967296)
theorem limbs_pow(q k N:Nat):limbs (q+k) (N*4294967296^q)=List.replicate q 0++limbs k N:=by
 rw[limbs_add,Nat.mul_div_cancel _ (Nat.pow_pos (by decide))]
 congr 1
 have:=limbs_mod q 0 N
 rw[Nat.zero_add,Nat.mul_comm] at this
 rw[this]
 clear this
 induction q with
 |zero=>rfl
 |succ q ih=>simp only[limbs,List.replicate_succ,Nat.zero_mod,Nat.zero_div,ih];rfl
theorem limbs_take:∀(k j N:Nat),(limbs (k+j) N).take k=limbs k N
 |0,j,N=>by simp[limbs]
 |k+1,j,N=>by
  rw[show k+1+j=(k+j)+1 by omega]
  simp only[limbs,List.take_succ_cons,limbs_take k j]
theorem upList_eq(q r:Nat){a:Nat}(ha:a<W192)(hq:q<6)(hr:r<32):upList q r a=limbs 6 (a*2^(32*q+r)):=by
 have e1:a*2^(32*q+r)=(a*2^r)*4294967296^q:=by
  rw[Nat.pow_add,Nat.pow_mul,show(2:Nat)^32=4294967296 from rfl,Nat.mul_comm (4294967296^q),Nat.mul_assoc]
 obtain⟨x0,x1,x2,x3,x4,x5,p0,p1,p2,p3,p4,p5,e,e'⟩:=six_split a ha
 have hs:=up_six (r:=r) (by omega) p0 p1 p2 p3 p4 e'
 have d:∀i,i<6→((dv i a%4294967296:Nat):Int)=List.getD [(x0:Int),x1,x2,x3,x4,x5] i 0:=fun i hi=>by rw[←limbs_getD 6 a i hi,e]
 have d0:dv 0 a%4294967296=x0:=by have:=d 0 (by decide);exact Int.ofNat.inj this
 have d1:dv 1 a%4294967296=x1:=by have:=d 1 (by decide);exact Int.ofNat.inj this
 have d2:dv 2 a%4294967296=x2:=by have:=d 2 (by decide);exact Int.ofNat.inj this
 have d3:dv 3 a%4294967296=x3:=by have:=d 3 (by decide);exact Int.ofNat.inj this
 have d4:dv 4 a%4294967296=x4:=by have:=d 4 (by decide);exact Int.ofNat.inj this
 have d5:dv 5 a%4294967296=x5:=by have:=d 5 (by decide);exact Int.ofNat.inj this
 have key:∀i,i<6→upE r (below a i) (dv i a%4294967296)=List.getD (limbs 6 (a*2^r)) i 0:=by
  intro i hi
  rw[hs]
  match i,hi with
  |0,_=>simp only[upE,below,if_pos,d0,Nat.zero_mul,Nat.zero_div,Nat.add_zero];rfl
  |1,_=>simp only[upE,below,Nat.succ_ne_zero,if_neg,not_false_eq_true,Nat.add_sub_cancel,Nat.sub_self,d0,d1];rfl
  |2,_=>simp only[upE,below,d2,show 2-1=1 from rfl,d1];rfl
  |3,_=>simp only[upE,below,d3,show 3-1=2 from rfl,d2];rfl
  |4,_=>simp only[upE,below,d4,show 4-1=3 from rfl,d3];rfl
  |5,_=>simp only[upE,below,d5,show 5-1=4 from rfl,d4];rfl
 rw[e1]
 have e2:limbs 6 (a*2^r*4294967296^q)=List.replicate q 0++limbs (6-q) (a*2^r):=by
  have:=limbs_pow q (6-q) (a*2^r)
  rw[show q+(6-q)=6 by omega] at this
  exact this
 rw[e2]
 unfold upList
 apply List.ext_getElem
 ·simp[limbs_length];omega
 ·intro i h1 h2
  simp only[List.length_map,List.length_range] at h1
  simp only[List.getElem_map,List.getElem_range]
  by_cases hi:i<q
  ·rw[if_pos hi,List.getElem_append_left (by simpa using hi)];simp
  ·rw[if_neg hi,key (i-q) (by omega),List.getElem_append_right (by simpa using(by omega:q≤i))]
   have ht:=limbs_take (6-q) q (a*2^r)
   rw[show 6-q+q=6 by omega] at ht
   simp only[List.length_replicate]
   rw[List.getD_eq_getElem?_getD,List.getElem?_eq_getElem (by rw[limbs_length];omega),Option.getD_some]
   simp only[←ht,List.getElem_take]
theorem g44E{α:Type}(n q r a:Nat)(hq:q<6)(hr:r<32)(ha:a<W192)(z:List Int)(k:List Int→Option α):
  g44l0 (q:Int) (r:Int) (limbs 6 a) z k (n+7) 5 [0,0,0,0,0,0]=k (limbs 6 (a*2^(32*q+r))):=by
 rw[←upList_eq q r ha hq hr]
 have s:=fun j v (hv:v<6) (h:q≤v) out ho=>g44s j v q r a hv h hr z out ho k
 match q,hq with
 |0,_=>
  refine(s (n+6) 5 (by omega) (by omega) _ rfl).trans ?_
  refine(s (n+5) 4 (by omega) (by omega) _ rfl).trans ?_
  refine(s (n+4) 3 (by omega) (by omega) _ rfl).trans ?_
  refine(s (n+3) 2 (by omega) (by omega) _ rfl).trans ?_
  refine(s (n+2) 1 (by omega) (by omega) _ rfl).trans ?_
  refine(s (n+1) 0 (by omega) (by omega) _ rfl).trans ?_
  exact g44e n 0 0 _ _ _ _ _ (by omega) k
 |1,_=>
  refine(s (n+6) 5 (by omega) (by omega) _ rfl).trans ?_
  refine(s (n+5) 4 (by omega) (by omega) _ rfl).trans ?_
  refine(s (n+4) 3 (by omega) (by omega) _ rfl).trans ?_
  refine(s (n+3) 2 (by omega) (by omega) _ rfl).trans ?_
  refine(s (n+2) 1 (by omega) (by omega) _ rfl).trans ?_
  exact g44e (n+1) 0 1 _ _ _ _ _ (by omega) k
 |2,_=>
  refine(s (n+6) 5 (by omega) (by omega) _ rfl).trans ?_
  refine(s (n+5) 4 (by omega) (by omega) _ rfl).trans ?_
  refine(s (n+4) 3 (by omega) (by omega) _ rfl).trans ?_
  refine(s (n+3) 2 (by omega) (by omega) _ rfl).trans ?_
  exact g44e (n+2) 0 2 _ _ _ _ _ (by omega) k
 |3,_=>
  refine(s (n+6) 5 (by omega) (by omega) _ rfl).trans ?_
  refine(s (n+5) 4 (by omega) (by omega) _ rfl).trans ?_
  refine(s (n+4) 3 (by omega) (by omega) _ rfl).trans ?_
  exact g44e (n+3) 0 3 _ _ _ _ _ (by omega) k
 |4,_=>
  refine(s (n+6) 5 (by omega) (by omega) _ rfl).trans ?_
  refine(s (n+5) 4 (by omega) (by omega) _ rfl).trans ?_
  exact g44e (n+4) 0 4 _ _ _ _ _ (by omega) k
 |5,_=>
  refine(s (n+6) 5 (by omega) (by omega) _ rfl).trans ?_
  exact g44e (n+5) 0 5 _ _ _ _ _ (by omega) k
theorem div32{p:Nat}(hp:p<192):IntKind.wrap .i64 (Int.tdiv (p:Int) 32)=((p/32:Nat):Int):=by
 rw[show(32:Int)=((32:Nat):Int) from rfl,←Int.ofNat_tdiv,wrapI64 (by omega) (by omega)]
theorem mod32(p:Nat):Int.tmod (p:Int) 32=((p%32:Nat):Int):=by
 rw[show(32:Int)=((32:Nat):Int) from rfl,←Int.ofNat_tmod]
theorem g44L{α:Type}(n p:Nat){a:Nat}(hp:p<192)(ha:a<W192)(k:List Int→Option α):g44 (n+7) (limbs 6 a) (p:Int) k=k (limbs 6 (a*2^p)):=by
 unfold g44 g44b
 show g44l0 (IntKind.wrap .i64 (Int.tdiv (p:Int) 32)) (Int.tmod (p:Int) 32) (limbs 6 a) [0,0,0,0,0,0] (fun l=>k l) (n+7) 5 [0,0,0,0,0,0]=_
 rw[div32 hp,mod32,g44E n (p/32) (p%32) a (by omega) (Nat.mod_lt _ (by decide)) ha,show 32*(p/32)+p%32=p by omega]
end Go.Proofs.YtlmmgjngihlpeaaGreat.Sx
/- Plain laws: shifts of sizes, up (reference) and down. Our own work. -/
namespace Go.Proofs.YtlmmgjngihlpeaaGreat.Sx
open Go
set_option linter.unusedVariables false
set_option linter.unusedSimpArgs false
set_option maxRecDepth 100000
def L6(f:Nat→Int):List Int:=(List.range 6).map f
theorem L6_length(f:Nat→Int):(L6 f).length=6:=rfl
theorem L6_getD(f:Nat→Int){i:Nat}(h:i<6):List.getD (L6 f) i 0=f i:=by
 match i,h with
 |0,_=>rfl
 |1,_=>rfl
 |2,_=>rfl
 |3,_=>rfl
 |4,_=>rfl
 |5,_=>rfl
theorem L6_set(f:Nat→Int){i:Nat}(h:i<6)(x:Int):List.set (L6 f) i x=L6 (fun j=>if j=i then x else f j):=by
 match i,h with
 |0,_=>rfl
 |1,_=>rfl
 |2,_=>rfl
 |3,_=>rfl
 |4,_=>rfl
 |5,_=>rfl
theorem L6_congr{f g:Nat→Int}(h:∀i,i<6→f i=g i):L6 f=L6 g:=by
 unfold L6
 exact List.map_congr_left fun i hi=>h i (List.mem_range.1 hi)
theorem limbs_L6(a:Nat):limbs 6 a=L6 (fun i=>((dv i a%4294967296:Nat):Int)):=rfl
def dnE(r x y:Nat):Int:=((x/2^r+y*2^(32-r)%4294967296:Nat):Int)
theorem dn_digit{r:Nat}(hr:r≤32)(M:Nat):M/2^r%4294967296=M%4294967296/2^r+M/4294967296%4294967296*2^(32-r)%4294967296:=by
 have h:=down_step hr 0 (M%4294967296) (M/4294967296) (Nat.mod_lt _ (by decide))
 rw[Nat.mod_add_div] at h
 simp only[limbs,List.cons.injEq,and_true] at h
 have h':M/2^r%4294967296=M%4294967296/2^r+M/4294967296*2^(32-r)%4294967296:=Int.ofNat.inj h
 rw[h']
 congr 1
 conv=>lhs;rw[←Nat.mod_add_div (M/4294967296) 4294967296,down_mod hr]
theorem dv_div(j q a s:Nat):dv j (a/4294967296^q/s)=dv (j+q) a/s:=by
 rw[dv_eq,dv_eq,Nat.div_div_eq_div_mul,Nat.div_div_eq_div_mul,Nat.div_div_eq_div_mul,Nat.pow_add]
 congr 1
 rw[Nat.mul_right_comm,Nat.mul_comm (4294967296^j)]
 exact Nat.mul_comm _ _
theorem down_L6(q r a:Nat)(hr:r<32):L6 (fun k=>dnE r (dv (k+q) a%4294967296) (dv (k+q+1) a%4294967296))=limbs 6 (a/2^(32*q+r)):=by
 rw[limbs_L6]
 apply L6_congr
 intro k hk
 have e1:a/2^(32*q+r)=a/4294967296^q/2^r:=by
  rw[Nat.div_div_eq_div_mul,Nat.pow_add,Nat.pow_mul]
 rw[e1,dv_div,dn_digit (by omega)]
 unfold dnE
 have e2:dv (k+q) a/4294967296=dv (k+q+1) a:=by rw[dv_eq,dv_eq,Nat.div_div_eq_div_mul,Nat.pow_succ]
 rw[e2]
theorem dv_high{j a:Nat}(ha:a<W192)(hj:6≤j):dv j a=0:=by
 rw[dv_eq]
 apply Nat.div_eq_of_lt
 have:(4294967296:Nat)^6≤4294967296^j:=Nat.pow_le_pow_right (by decide) hj
 rw[show(4294967296:Nat)^6=W192 from by decide] at this
 omega
theorem dnE_high{r j a:Nat}(ha:a<W192)(hj:6≤j):dnE r (dv j a%4294967296) (dv (j+1) a%4294967296)=0:=by
 unfold dnE
 rw[dv_high ha hj,dv_high ha (by omega:6≤j+1)];simp
theorem dn_or{r:Nat}(hr:r≤32)(x y:Nat)(hx:x<4294967296):ibits .or .u32 ((x/2^r:Nat):Int) ((y*2^(32-r)%4294967296:Nat):Int)=dnE r x y:=by
 have hc:x/2^r<2^(32-r):=by
  refine Nat.div_lt_of_lt_mul ?_
  rw[Nat.mul_comm,←pow_split hr];exact hx
 have hl:=up_lt (r:=32-r) (by omega) y _ hc
 rw[or32 (by omega) (Nat.mod_lt _ (by decide)),Nat.or_comm,up_or (by omega) _ _ hc,Nat.add_comm]
 rfl
theorem g105s{α:Type}(j v q r a:Nat)(hv:v+q<6)(hr:r<32)(ha:a<W192)(z out:List Int)(ho:out.length=6)(k:List Int→Option α):
  g105l0 (q:Int) (r:Int) (limbs 6 a) z k (j+1) (v:Int) out=g105l0 (q:Int) (r:Int) (limbs 6 a) z k j ((v+1:Nat):Int) (List.set out v (dnE r (dv (v+q) a%4294967296) (dv (v+q+1) a%4294967296))):=by
 simp only[g105l0,g105l0b]
 rw[wrapI64 (x:=(v:Int)+q) (by omega) (by omega),show(v:Int)+(q:Int)=((v+q:Nat):Int) by omega,decide_eq_true (show((v+q:Nat):Int)<6 by omega)]
 simp only[cond_true,Int.toNat_natCast]
 rw[if_pos (by omega),if_pos (by omega),if_neg (by omega),if_pos (by omega),if_pos (by omega),limbs_getD 6 a (v+q) (by omega),Nat.min_eq_left (show r≤32 by omega),shr32,wrapI64 (x:=(v:Int)+1) (by omega) (by omega),show(v:Int)+1=((v+1:Nat):Int) by omega,
  wrapI64 (x:=((v+q:Nat):Int)+1) (by omega) (by omega),show((v+q:Nat):Int)+1=((v+q+1:Nat):Int) by omega]
 by_cases h0:r=0
 ·subst h0
  rw[decide_eq_false (by omega)]
  simp only[cond_false]
  unfold dnE
  simp
 ·rw[decide_eq_true (show(r:Int)>0 by omega)]
  simp only[cond_true]
  by_cases h1:v+q+1<6
  ·rw[decide_eq_true (show((v+q+1:Nat):Int)<6 by omega)]
   simp only[cond_true,Int.toNat_natCast]
   rw[wrapI64 (x:=32-(r:Int)) (by omega) (by omega),show 32-(r:Int)=((32-r:Nat):Int) by omega]
   simp only[Int.toNat_natCast]
   rw[if_pos (by omega),if_pos (by omega),if_pos (by omega),if_pos (by omega),if_neg (by omega),if_pos (by omega),if_pos (by omega),Nat.min_eq_left (show 32-r≤32 by omega),limbs_getD 6 a (v+q+1) (by omega),shl32]
   have hset:List.getD (List.set out v ((dv (v+q) a%4294967296/2^r:Nat):Int)) v 0=((dv (v+q) a%4294967296/2^r:Nat):Int):=by
    simp[List.getD,List.getElem?_set,ho,show v<6 by omega]
   rw[hset,dn_or (by omega) _ _ (Nat.mod_lt _ (by decide)),List.set_set]
  ·rw[decide_eq_false (show¬((v+q+1:Nat):Int)<6 by omega)]
   simp only[cond_false]
   unfold dnE
   rw[dv_high ha (show 6≤v+q+1 by omega)]
   simp
theorem g105loop{α:Type}(q r a:Nat)(hq:q<6)(hr:r<32)(ha:a<W192)(z:List Int)(k:List Int→Option α):∀(d v j:Nat),v+q+d=6→d<j→
  g105l0 (q:Int) (r:Int) (limbs 6 a) z k j (v:Int) (L6 (fun i=>if i<v then dnE r (dv (i+q) a%4294967296) (dv (i+q+1) a%4294967296) else 0))=k (limbs 6 (a/2^(32*q+r)))
 |0,v,j,hd,hj=>by
  obtain⟨j,rfl⟩:∃i,j=i+1:=⟨j-1,by omega⟩
  simp only[g105l0,g105l0b]
  rw[wrapI64 (x:=(v:Int)+q) (by omega) (by omega),decide_eq_false (show¬(v:Int)+q<6 by omega),←down_L6 q r a hr]
  simp only[cond_false]
  congr 1
  apply L6_congr
  intro i hi
  by_cases h:i<v
  ·rw[if_pos h]
  ·rw[if_neg h,dnE_high ha (by omega)]
 |d+1,v,j,hd,hj=>by
  obtain⟨j,rfl⟩:∃i,j=i+1:=⟨j-1,by omega⟩
  rw[g105s j v q r a (by omega) hr ha z _ (L6_length _) k,L6_set _ (by omega),←g105loop q r a hq hr ha z k d (v+1) j (by omega) (by omega)]
  congr 1
  apply L6_congr
  intro i hi
  by_cases h:i=v
  ·subst h;rw[if_pos rfl,if_pos (by omega)]
  ·rw[if_neg h]
   by_cases h2:i<v
   ·rw[if_pos h2,if_pos (by omega)]
   ·rw[if_neg h2,if_neg (by omega)]
theorem g105L{α:Type}(n p:Nat){a:Nat}(hp:p<192)(ha:a<W192)(k:List Int→Option α):g105 (n+7) (limbs 6 a) (p:Int) k=k (limbs 6 (a/2^p)):=by
 unfold g105 g105b
 show g105l0 (IntKind.wrap .i64 (Int.tdiv (p:Int) 32)) (Int.tmod (p:Int) 32) (limbs 6 a) [0,0,0,0,0,0] (fun l=>k l) (n+7) 0 [0,0,0,0,0,0]=_
 rw[div32 hp,mod32]
 have:=g105loop (p/32) (p%32) a (by omega) (Nat.mod_lt _ (by decide)) ha [0,0,0,0,0,0] (fun l=>k l) (6-p/32) 0 (n+7) (by omega) (by omega)
 rw[show 32*(p/32)+p%32=p by omega] at this
 exact this
theorem sdown{r x y:Nat}(hr:r<32)(hx:x<4294967296)(hy:y<4294967296):
  IntKind.wrap .u32 (Int.fdiv (IntKind.wrap .u64 ((x:Int)+(IntKind.wrap .u64 ((IntKind.wrap .u64 (y:Int))*2^32)))) (2^r))=dnE r x y:=by
 rw[wrapU64N y,Nat.mod_eq_of_lt (show y<18446744073709551616 by omega),show(2^32:Int)=((4294967296:Nat):Int) from rfl,←Int.natCast_mul,wrapU64N,Nat.mod_eq_of_lt (by omega),←Int.natCast_add,wrapU64N,Nat.mod_eq_of_lt (by omega),shr32,wrapU32]
 unfold dnE
 congr 1
 have:=dn_digit (r:=r) (by omega) (x+y*4294967296)
 rw[show(x+y*4294967296)%4294967296=x by omega,show(x+y*4294967296)/4294967296=y by omega,Nat.mod_eq_of_lt hy] at this
 exact this
theorem g106s{α:Type}(j v p a:Nat)(hp:p<192)(hv:v<6)(hq:p/32≤v)(ha:a<W192)(z out:List Int)(k:List Int→Option α):
  g106l0 (p:Int) (limbs 6 a) z k (j+1) (v:Int) out=g106l0 (p:Int) (limbs 6 a) z k j ((v+1:Nat):Int) (List.set out (v-p/32) (dnE (p%32) (dv v a%4294967296) (dv (v+1) a%4294967296))):=by
 simp only[g106l0,g106l0b]
 have hm:p%32<32:=Nat.mod_lt _ (by decide)
 rw[decide_eq_true (show(v:Int)<6 by omega),div32 hp,mod32,wrapI64 (x:=(v:Int)+1) (by omega) (by omega),show(v:Int)+1=((v+1:Nat):Int) by omega,wrapI64 (x:=(v:Int)-((p/32:Nat):Int)) (by omega) (by omega),show(v:Int)-((p/32:Nat):Int)=((v-p/32:Nat):Int) by omega,
  wrapU64N (p%32),Nat.mod_eq_of_lt (show p%32<18446744073709551616 by omega)]
 simp only[cond_true,Int.toNat_natCast]
 rw[if_pos (by omega),if_pos (by omega),limbs_getD 6 a v hv,wrapU64N,Nat.mod_eq_of_lt (show dv v a%4294967296<18446744073709551616 by omega),Nat.min_eq_left (show p%32≤64 by omega)]
 by_cases h1:v+1<6
 ·rw[decide_eq_true (show((v+1:Nat):Int)<6 by omega)]
  simp only[cond_true]
  rw[if_pos (by omega),if_pos (by omega),if_neg (by omega),if_pos (by omega),if_pos (by omega),limbs_getD 6 a (v+1) h1,sdown hm (Nat.mod_lt _ (by decide)) (Nat.mod_lt _ (by decide))]
 ·rw[decide_eq_false (show¬((v+1:Nat):Int)<6 by omega)]
  simp only[cond_false]
  rw[if_neg (by omega),if_pos (by omega),if_pos (by omega),shr32,wrapU32,Nat.mod_eq_of_lt (Nat.lt_of_le_of_lt (Nat.div_le_self _ _) (Nat.mod_lt _ (by decide)))]
  unfold dnE
  rw[dv_high ha (show 6≤v+1 by omega)]
  simp
theorem g106loop{α:Type}(p a:Nat)(hp:p<192)(ha:a<W192)(z:List Int)(k:List Int→Option α):∀(d v j:Nat),v+d=6→p/32≤v→d<j→
  g106l0 (p:Int) (limbs 6 a) z k j (v:Int) (L6 (fun i=>if i<v-p/32 then dnE (p%32) (dv (i+p/32) a%4294967296) (dv (i+p/32+1) a%4294967296) else 0))=k (limbs 6 (a/2^p))
 |0,v,j,hd,hq,hj=>by
  obtain⟨j,rfl⟩:∃i,j=i+1:=⟨j-1,by omega⟩
  simp only[g106l0,g106l0b]
  rw[decide_eq_false (show¬(v:Int)<6 by omega)]
  simp only[cond_false]
  have:=down_L6 (p/32) (p%32) a (Nat.mod_lt _ (by decide))
  rw[show 32*(p/32)+p%32=p by omega] at this
  rw[←this]
  congr 1
  apply L6_congr
  intro i hi
  by_cases h:i<v-p/32
  ·rw[if_pos h]
  ·rw[if_neg h,dnE_high ha (by omega)]
 |d+1,v,j,hd,hq,hj=>by
  obtain⟨j,rfl⟩:∃i,j=i+1:=⟨j-1,by omega⟩
  rw[g106s j v p a hp (by omega) hq ha z _ k,L6_set _ (by omega),←g106loop p a hp ha z k d (v+1) j (by omega) (by omega) (by omega)]
  congr 1
  apply L6_congr
  intro i hi
  by_cases h:i=v-p/32
  ·subst h;rw[if_pos rfl,if_pos (by omega),show v-p/32+p/32=v by omega]
  ·rw[if_neg h]
   by_cases h2:i<v-p/32
   ·rw[if_pos h2,if_pos (by omega)]
   ·rw[if_neg h2,if_neg (by omega)]
theorem g106L{α:Type}(n p:Nat){a:Nat}(hp:p<192)(ha:a<W192)(k:List Int→Option α):g106 (n+7) (p:Int) (limbs 6 a) k=k (limbs 6 (a/2^p)):=by
 unfold g106 g106b
 show g106l0 (p:Int) (limbs 6 a) [0,0,0,0,0,0] (fun l=>k l) (n+7) (IntKind.wrap .i64 (Int.tdiv (p:Int) 32)) [0,0,0,0,0,0]=_
 rw[div32 hp]
 have:=g106loop p a hp ha [0,0,0,0,0,0] (fun l=>k l) (6-p/32) (p/32) (n+7) (by omega) (by omega) (by omega)
 rw[Nat.sub_self] at this
 exact this
def upF(q r a v i:Nat):Int:=if i<q then 0 else if i<q+v then upE r (below a (i-q)) (dv (i-q) a%4294967296) else if i=q+v then((below a v*2^r/4294967296:Nat):Int) else 0
theorem below_lt(a i:Nat):below a i<4294967296:=by
 unfold below;split
 ·decide
 ·exact Nat.mod_lt _ (by decide)
theorem or_zero32{x:Nat}(hx:x<4294967296):ibits .or .u32 0 (x:Int)=(x:Int):=by
 have:=or32 (x:=0) (y:=x) (by decide) hx
 rw[show((0:Nat):Int)=0 from rfl] at this
 rw[this,Nat.zero_or]
theorem g107s{α:Type}(j v p a:Nat)(hp:p<192)(hv:v+p/32<6)(z:List Int)(k:List Int→Option α):
  g107l0 (p:Int) (limbs 6 a) z k (j+1) (v:Int) (L6 (upF (p/32) (p%32) a v))=g107l0 (p:Int) (limbs 6 a) z k j ((v+1:Nat):Int) (L6 (upF (p/32) (p%32) a (v+1))):=by
 have hm:p%32<32:=Nat.mod_lt _ (by decide)
 have hx:dv v a%4294967296<4294967296:=Nat.mod_lt _ (by decide)
 generalize hxv:dv v a%4294967296=x at hx
 have hxp:x*2^(p%32)<18446744073709551616:=by
  have h1:2^(p%32)≤4294967296:=by
   have:=Nat.pow_le_pow_right (n:=2) (by decide) (show p%32≤32 by omega)
   exact this
  have h2:=Nat.mul_le_mul (show x≤4294967295 by omega) h1
  omega
 simp only[g107l0,g107l0b]
 rw[decide_eq_true (show(v:Int)<6 by omega),div32 hp,mod32,wrapI64 (x:=(v:Int)+((p/32:Nat):Int)) (by omega) (by omega),show(v:Int)+((p/32:Nat):Int)=((v+p/32:Nat):Int) by omega,wrapI64 (x:=(v:Int)+1) (by omega) (by omega),show(v:Int)+1=((v+1:Nat):Int) by omega,
  wrapU64N (p%32),Nat.mod_eq_of_lt (show p%32<18446744073709551616 by omega),decide_eq_false (show¬((v+p/32:Nat):Int)≥6 by omega),wrapI64 (x:=((v+p/32:Nat):Int)+1) (by omega) (by omega),show((v+p/32:Nat):Int)+1=((v+p/32+1:Nat):Int) by omega]
 simp only[cond_true,cond_false,Int.toNat_natCast]
 rw[if_pos (by omega),if_pos (by omega),if_neg (by omega),if_pos (by omega),if_pos (by omega),if_pos (by omega),if_pos (by omega),limbs_getD 6 a v (by omega),hxv,wrapU64N x,Nat.mod_eq_of_lt (show x<18446744073709551616 by omega),Nat.min_eq_left (show p%32≤64 by omega),pow_cast,←Int.natCast_mul,wrapU64N,Nat.mod_eq_of_lt hxp,wrapU32,
  L6_getD _ (by omega)]
 have hc:=carry_up (r:=p%32) (below_lt a v)
 have hu:=up_lt (r:=p%32) (by omega) x _ hc
 have hlow:ibits .or .u32 (upF (p/32) (p%32) a v (v+p/32)) ((x*2^(p%32)%4294967296:Nat):Int)=upE (p%32) (below a v) x:=by
  unfold upF
  rw[if_neg (by omega),if_neg (by omega),if_pos (by omega),or32 (by omega) (Nat.mod_lt _ (by decide)),Nat.or_comm,up_or (by omega) _ _ hc];rfl
 rw[hlow,L6_set _ (by omega)]
 have hcar:x*2^(p%32)/4294967296<4294967296:=by omega
 by_cases h1:v+p/32+1<6
 ·rw[decide_eq_true (show((v+p/32+1:Nat):Int)<6 by omega)]
  simp only[cond_true]
  rw[if_pos (by omega),if_pos (by omega),if_pos (by omega),if_pos (by omega),L6_getD _ h1,if_neg (by omega),show(2^32:Int)=((4294967296:Nat):Int) from rfl,fdivNat,wrapU32,Nat.mod_eq_of_lt hcar]
  have hz:upF (p/32) (p%32) a v (v+p/32+1)=0:=by
   unfold upF;rw[if_neg (by omega),if_neg (by omega),if_neg (by omega)]
  rw[hz,or_zero32 hcar,L6_set _ h1]
  congr 1
  apply L6_congr
  intro i hi
  unfold upF
  by_cases c1:i=v+p/32+1
  ·subst c1
   rw[if_pos rfl,if_neg (by omega),if_neg (by omega),if_pos (by omega)]
   unfold below
   rw[if_neg (by omega),show v+1-1=v by omega,hxv]
  ·rw[if_neg c1]
   by_cases c2:i=v+p/32
   ·subst c2
    rw[if_pos rfl,if_neg (by omega),if_pos (by omega),show v+p/32-p/32=v by omega,hxv]
   ·rw[if_neg c2]
    by_cases c3:i<p/32
    ·rw[if_pos c3,if_pos c3]
    ·rw[if_neg c3,if_neg c3]
     by_cases c4:i<p/32+v
     ·rw[if_pos c4,if_pos (by omega)]
     ·rw[if_neg c4,if_neg (by omega),if_neg (by omega),if_neg (by omega)]
 ·rw[decide_eq_false (show¬((v+p/32+1:Nat):Int)<6 by omega)]
  simp only[cond_false]
  congr 1
  apply L6_congr
  intro i hi
  unfold upF
  by_cases c2:i=v+p/32
  ·subst c2
   rw[if_pos rfl,if_neg (by omega),if_pos (by omega),show v+p/32-p/32=v by omega,hxv]
  ·rw[if_neg c2]
   by_cases c3:i<p/32
   ·rw[if_pos c3,if_pos c3]
   ·rw[if_neg c3,if_neg c3]
    by_cases c4:i<p/32+v
    ·rw[if_pos c4,if_pos (by omega)]
    ·omega
theorem g107loop{α:Type}(p a:Nat)(hp:p<192)(ha:a<W192)(z:List Int)(k:List Int→Option α):∀(d v j:Nat),v+p/32+d=6→d<j→
  g107l0 (p:Int) (limbs 6 a) z k j (v:Int) (L6 (upF (p/32) (p%32) a v))=k (limbs 6 (a*2^p))
 |0,v,j,hd,hj=>by
  obtain⟨j,rfl⟩:∃i,j=i+1:=⟨j-1,by omega⟩
  have hfin:L6 (upF (p/32) (p%32) a v)=limbs 6 (a*2^p):=by
   have:=upList_eq (p/32) (p%32) ha (by omega) (Nat.mod_lt _ (by decide))
   rw[show 32*(p/32)+p%32=p by omega] at this
   rw[←this]
   apply L6_congr
   intro i hi
   unfold upF
   by_cases c3:i<p/32
   ·rw[if_pos c3,if_pos c3]
   ·rw[if_neg c3,if_neg c3,if_pos (by omega)]
  simp only[g107l0,g107l0b]
  by_cases h6:v<6
  ·rw[decide_eq_true (show(v:Int)<6 by omega),div32 hp,wrapI64 (x:=(v:Int)+((p/32:Nat):Int)) (by omega) (by omega),decide_eq_true (show(v:Int)+((p/32:Nat):Int)≥6 by omega),hfin];rfl
  ·rw[decide_eq_false (show¬(v:Int)<6 by omega),hfin];rfl
 |d+1,v,j,hd,hj=>by
  obtain⟨j,rfl⟩:∃i,j=i+1:=⟨j-1,by omega⟩
  rw[g107s j v p a hp (by omega) z k]
  exact g107loop p a hp ha z k d (v+1) j (by omega) (by omega)
end Go.Proofs.YtlmmgjngihlpeaaGreat.Sx
/- Plain laws: ShiftUp and ShiftNear. Our own work. -/
namespace Go.Proofs.YtlmmgjngihlpeaaGreat.Sx
open Go
set_option linter.unusedVariables false
set_option linter.unusedSimpArgs false
set_option maxRecDepth 100000
theorem pow192:(2:Nat)^192=W192:=by decide
theorem len_le192{a b:Nat}(ha:a<W192)(hb:isLen a b=true):b≤192:=isLen_le hb (by rw[pow192];exact ha)
theorem fits_iff{a b p:Nat}(hb:isLen a b=true)(h:a≠0):b+p≤192↔a*2^p<W192:=by
 rw[isLen_iff] at hb
 obtain⟨h1,h2⟩:=hb
 rw[←pow192]
 constructor
 ·intro hle
  have h3:a*2^p<2^b*2^p:=Nat.mul_lt_mul_of_pos_right h1 (Nat.two_pow_pos p)
  rw[←Nat.pow_add] at h3
  exact Nat.lt_of_lt_of_le h3 (Nat.pow_le_pow_right (by decide) hle)
 ·intro hlt
  rcases h2 with h2|h2
  ·subst h2;simp at h1;omega
  ·have h3:2^(b-1)*2^p≤a*2^p:=Nat.mul_le_mul_right _ h2
   rw[←Nat.pow_add] at h3
   have h4:2^(b-1+p)<2^192:=Nat.lt_of_le_of_lt h3 hlt
   have h5:=(Nat.pow_lt_pow_iff_right (by decide:1<2)).1 h4
   have h6:0<b:=by
    rcases Nat.eq_zero_or_pos b with rfl|h; ·simp at h1;omega
    ·exact h
   omega
theorem g107L{α:Type}(n p:Nat){a:Nat}(hp:p<192)(ha:a<W192)(k:List Int→Bool→Option α):
  g107 (n+40) (p:Int) (limbs 6 a) k=cond (decide (a*2^p<W192)) (k (limbs 6 (a*2^p)) true) (k [0,0,0,0,0,0] false):=by
 obtain⟨b,hb⟩:=len_of a
 have hb192:=len_le192 ha hb
 have hloop:∀k:List Int→Option α,g107l0M (n+40) (p:Int) (limbs 6 a) [0,0,0,0,0,0] k 0 [0,0,0,0,0,0]=k (limbs 6 (a*2^p)):=by
  intro k
  have h0:L6 (upF (p/32) (p%32) a 0)=[0,0,0,0,0,0]:=by
   show L6 (upF (p/32) (p%32) a 0)=L6 (fun _=>0)
   apply L6_congr
   intro i hi
   unfold upF
   by_cases c:i<p/32
   ·rw[if_pos c]
   ·rw[if_neg c,if_neg (by omega),show below a 0=0 from rfl]
    simp
  have:=g107loop p a hp ha [0,0,0,0,0,0] k (6-p/32) 0 (n+40) (by omega) (by omega)
  rw[h0] at this
  exact this
 simp only[g107,g107b,g122L n ha hb,g126L (n+40) ha,hloop]
 rw[wrapI64 (x:=(b:Int)+p) (by omega) (by omega)]
 by_cases h0:a=0
 ·subst h0
  have:b=0:=isLen_unique hb rfl
  subst this
  rw[decide_eq_false (show¬((0:Nat):Int)+(p:Int)>192 by omega)]
  simp only[cond_false,Nat.zero_mul,show decide (0<W192)=true from rfl,cond_true]
 ·have hf:=fits_iff (p:=p) hb h0
  by_cases h1:a*2^p<W192
  ·rw[decide_eq_false (show¬(b:Int)+(p:Int)>192 by have:=hf.2 h1;omega),decide_eq_true h1];rfl
  ·rw[decide_eq_true (show(b:Int)+(p:Int)>192 by have:=fun h=>h1 (hf.1 h);omega),decide_eq_false h1,decide_eq_false h0];rfl
theorem g77L{α:Type}(n p:Nat)(q:Bool){a:Nat}(hp:p<192)(ha:a<W192)(k:Bool→List Int→Int→Option α):
  g77 (n+40) q (limbs 6 a) (p:Int) k=cond (decide (a*2^p<W192)) (k (q&& !(decide (a*2^p=0))) (limbs 6 (a*2^p)) 0) (k false [0,0,0,0,0,0] 3):=by
 simp only[g77,g77b,g107L n p hp ha]
 by_cases h:a*2^p<W192
 ·rw[decide_eq_true h]
  simp only[cond_true,Bool.not_true,cond_false,g110L (n+40) q h]
 ·rw[decide_eq_false h];rfl
theorem g42L{α:Type}(n p:Nat)(q o:Bool){a:Nat}(hp:p<192)(ha:a<W192)(k:Bool→List Int→Bool→Option α):
  g42 (n+7) q (limbs 6 a) (p:Int) o k=cond (decide (a*2^p<W192)) (k (q&& !(decide (a*2^p=0))) (limbs 6 (a*2^p)) o) (k false [0,0,0,0,0,0] true):=by
 obtain⟨b,hb⟩:=len_of a
 have hb192:=len_le192 ha hb
 simp only[g42,g42b,g72L n ha hb,g44L n p hp ha]
 rw[decide_eq_false (show¬(p:Int)>191 by omega),wrapI64 (x:=(b:Int)+p) (by omega) (by omega)]
 simp only[cond_false]
 by_cases h0:a=0
 ·subst h0
  have:b=0:=isLen_unique hb rfl
  subst this
  rw[decide_eq_false (show¬((0:Nat):Int)+(p:Int)>192 by omega)]
  simp only[cond_false,Nat.zero_mul,show decide (0<W192)=true from rfl,cond_true,g73L (n+7) q (show 0<W192 by decide)]
 ·have hf:=fits_iff (p:=p) hb h0
  by_cases h1:a*2^p<W192
  ·rw[decide_eq_false (show¬(b:Int)+(p:Int)>192 by have:=hf.2 h1;omega),decide_eq_true h1]
   simp only[cond_false,cond_true,g73L (n+7) q h1]
  ·rw[decide_eq_true (show(b:Int)+(p:Int)>192 by have:=fun h=>h1 (hf.1 h);omega),decide_eq_false h1];rfl
end Go.Proofs.YtlmmgjngihlpeaaGreat.Sx
