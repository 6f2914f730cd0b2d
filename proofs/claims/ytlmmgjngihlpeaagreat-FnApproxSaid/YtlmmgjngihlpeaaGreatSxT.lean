/- The program's types. Printed by our own sx.py. -/
import Derived.Test.YtlmmgjngihlpeaaGreatProg
import Derived.Test.YtlmmgjngihlpeaaGreatSxO
namespace Go.Proofs.YtlmmgjngihlpeaaGreat.Sx
open Go
set_option linter.unusedVariables false
set_option maxRecDepth 100000
abbrev Ty0:Type:=List (List Int)
abbrev Ty1:Type:=List (List Int×(Bool×(List Int×Unit)))
abbrev Ty2:Type:=Bool×(List Int×Unit)
abbrev Ty3:Type:=List (List (Int×(Bool×(List Int×Unit))))
abbrev Ty4:Type:=List (Int×(Bool×(List Int×Unit)))
abbrev Ty5:Type:=Int×(Bool×(List Int×Unit))
def tab:Tab where
 agg:=[(28,6),(30,7),(42,2),(68,1),(78,5),(86,6),(141,6),(150,12)]
 sca:=[2,3,4,5,22,24,27,36,40,62,69,76,92,109,119]
 zero:=[(2,[(.one (.int .i64 (0:Int)))]),(5,[(.one (.int .u8 (0:Int)))]),(28,[(.seq (.int .u32) 6 [0,0,0,0,0,0])]),(30,[(.one (.bool false)),(.seq (.int .u32) 6 [0,0,0,0,0,0])]),(42,[(.one (.int .i16 (0:Int))),(.one (.int .i16 (0:Int)))]),(62,[(.one .nilp)]),(68,[(.one (.bool false))]),(71,[(.one (.bool false)),(.one .nils),(.one .unk),(.one .nils),(.one (.int .i64 (0:Int)))]),(76,[(.one (.int .i8 (0:Int)))]),(78,[(.one (.int .i8 (0:Int))),(.one (.int .i16 (0:Int))),(.one (.int .i16 (0:Int))),(.one (.int .i64 (0:Int))),(.one (.int .i64 (0:Int)))]),(86,[(.seq (.int .u32) 6 [0,0,0,0,0,0])]),(94,[(.one .nils),(.one .nils),(.one .nils)]),(111,[(.one .nils),(.one (.int .i64 (0:Int))),(.one (.int .u64 (0:Int)))]),(119,[(.one .nils)]),(121,[(.one (.int .i64 (0:Int))),(.one (.bool false)),(.seq (.int .u32) 6 [0,0,0,0,0,0])]),(141,[(.seq (.int .u32) 6 [0,0,0,0,0,0])]),(150,[(.seq (.int .u32) 12 [0,0,0,0,0,0,0,0,0,0,0,0])]),(166,[(.seq (.int .u32) 7 [0,0,0,0,0,0,0])])]
 fld:=[(30,[(0,1),(1,6)]),(42,[(0,1),(1,1)]),(68,[(0,1)]),(71,[(0,1),(1,1),(2,1),(3,1),(4,1)]),(78,[(0,1),(1,1),(2,1),(3,1),(4,1)]),(94,[(0,1),(1,1),(2,1)]),(111,[(0,1),(1,1),(2,1)]),(121,[(0,1),(1,7)])]
 arr:=[(28,6,1),(86,6,1),(141,6,1),(150,12,1),(166,7,1)]
 sli:=[(22,5,1),(24,78,5),(36,42,2),(44,76,1),(92,119,1),(113,2,1),(119,121,8),(151,27,1)]
 knd:=[(2, .i64),(3, .i64),(5, .u8),(27, .u32),(40, .i16),(76, .i8),(109, .u64),(126, .u64)]
 str:=[9]
 bol:=[4]
 eqt:=[(28,[(.int .u32),(.int .u32),(.int .u32),(.int .u32),(.int .u32),(.int .u32)]),(30,[.bool,(.int .u32),(.int .u32),(.int .u32),(.int .u32),(.int .u32),(.int .u32)]),(42,[(.int .i16),(.int .i16)]),(86,[(.int .u32),(.int .u32),(.int .u32),(.int .u32),(.int .u32),(.int .u32)]),(141,[(.int .u32),(.int .u32),(.int .u32),(.int .u32),(.int .u32),(.int .u32)])]
 aix:=[(86,6,27)]
 mps:=[(69,42,30,[.i16, .i16],(.mx [.b, .a .u32 6]))]
 rws:=[(92,(.mx [.i .i64, .b, .a .u32 6]))]
 ngs:=[(71,3,(.rc [.i16, .i16])),(94,2,(.rc [.i16, .i16]))]
 flt:=[(30,[4,28])]
def strC0:ByteArray:=⟨#[0,1,2,2,3,3,3,3,4,4,4,4,4,4,4,4,5,5,5,5,5,5,5,5,5,5,5,5,5,5,5,5,6,6,6,6,6,6,6,6,6,6,6,6,6,6,6,6,6,6,6,6,6,6,6,6,6,6,6,6,6,6,6,6,7,7,7,7,7,7,7,7,7,7,7,7,7,7,7,7,7,7,7,7,7,7,7,7,7,7,7,7,7,7,7,7,7,7,7,7,7,7,7,7,7,7,7,7,7,7,7,7,7,7,7,7,7,7,7,7,7,7,7,7,7,7,7,7,8,8,8,8,8,8,8,8,8,8,8,8,8,8,8,8,8,8,8,8,8,8,8,8,8,8,8,8,8,8,8,8,8,8,8,8,8,8,8,8,8,8,8,8,8,8,8,8,8,8,8,8,8,8,8,8,8,8,8,8,8,8,8,8,8,8,8,8,8,8,8,8,8,8,8,8,8,8,8,8,8,8,8,8,8,8,8,8,8,8,8,8,8,8,8,8,8,8,8,8,8,8,8,8,8,8,8,8,8,8,8,8,8,8,8,8,8,8,8,8,8,8,8,8,8,8,8,8]⟩
theorem tabBOk:tabB Tryz.prog tab=true:=by kernel_rfl
theorem tabOk:TabOk Tryz.prog tab:=tabOk_of tabBOk
theorem mixed:Tryz.prog.follows .mixedOrders=true:=by kernel_rfl
theorem lo0{P:Program}{h:Hd}{fn:Func}(h0:loopsOf (bodyOf fn)=[]):∀c,fn.body=some c→LoopsOk P h c:=fun c hc=>by
 rw[bodyOf_some hc]
 exact loopsOk_of _ (fun p hp=>by rw[h0] at hp;cases hp)
theorem lb0{P:Program}{h:Hd}{b:Code}(h0:loopsOf b=[]):LoopsOk P h b:=loopsOk_of _ (fun p hp=>by rw[h0] at hp;cases hp)
theorem lo1{P:Program}{h:Hd}{fn:Func}{i:Nat}{b:Code}(h1:loopsOf (bodyOf fn)=[(i,b)])(H:∀(α:Type) (st:St) (k:Ex→St→Option α) (r:α),h.loop i st k=some r→∃e st',k e st'=some r∧CodeS P (.block i (.loop b)) st e st'):∀c,fn.body=some c→LoopsOk P h c:=fun c hc=>by
 rw[bodyOf_some hc]
 exact loopsOk_of _ (fun p hp=>by
 rw[h1] at hp
 simp only[List.mem_cons,List.not_mem_nil,or_false] at hp
 rcases hp with rfl
 exact H)
theorem fnk{h:Hd}(hc:h.CallsOk Tryz.prog){f:FuncId}{fn:Func}(hl:∀c,fn.body=some c→LoopsOk Tryz.prog h c){tp:List TP}{bp:List BP}{F:{α:Type}→List Lf→KRe α→Option α}
 (hmain:∀(α:Type) ls (k:KRe α),F ls k=evFun tab h fn (fillT tp ls).1 (fillB bp (fillT tp ls).2).1 k) (hf:Tryz.prog.funcs[f]? =some fn:=by kernel_rfl) (hname:(fn.name== "runtime.NumGoroutine")=false:=by kernel_rfl):FnOk Tryz.prog f tp bp F:=fn_ok tabOk hc mixed hf hname hl hmain
theorem lpk{h:Hd}(hc:h.CallsOk Tryz.prog){b:Code}(hl:LoopsOk Tryz.prog h b){D:LoopD}{id:Nat}{α:Type}{F:Nat→List Lf→KEx α→Option α}(h0:∀ls k,F 0 ls k=none)
 (hstep:∀n ls k,F (n+1) ls k=ev tab h b (atHead D ls) (loopK D id (loopH D (F n)) k)) {n:Nat} {st:St} {k:KEx α} {r:α} (hev:loopH D (F n) st k=some r):LoopS Tryz.prog id b st k r:=loop_ok tabOk hc mixed hl h0 hstep hev
theorem rwk{h:Hd}(hc:h.CallsOk Tryz.prog){f:FuncId}{fn:Func}(hl:∀c,fn.body=some c→LoopsOk Tryz.prog h c){tp:List TP}{bp:List BP}{F:{α:Type}→List Lf→KRe α→Option α}
 (hmain:∀(α:Type) ls (k:KRe α),F ls k=evFun tab h fn (fillT tp ls).1 (fillB bp (fillT tp ls).2).1 k) (hf:Tryz.prog.funcs[f]? =some fn:=by kernel_rfl) (hname:(fn.name== "runtime.NumGoroutine")=false:=by kernel_rfl):RowOk Tryz.prog f (fun{α}=>rowK tp bp (F (α:=α))):=row_of (fnk hc hl hmain hf hname)
abbrev uU:EK:= .int .u32
abbrev bA:BP:=(true,[(.one .bool),(.one (.slc 1 0 5)),(.one (.mpp 2)),(.one (.gsl 3 2)),(.one (.int .i64))])
abbrev vW:TP:= .vl (.agg [(.one .bool),(.seq (.int .u32) 6)])
abbrev b6:BP:=(true,[(.seq (.int .u32) 6)])
abbrev tI:TP:= .vl (.sv (.int .i64))
abbrev Al(S:Type→Type):Type 1:={α:Type}→S α
abbrev fT(t:List TP)(ls:List Lf):=(fillT t ls).1
abbrev fB(t:List TP)(b:List BP)(ls:List Lf):=(fillB b (fillT t ls).2).1
abbrev rN:EK:= .rc [.i8, .i16, .i16, .i64, .i64]
abbrev rP:EK:= .rc [.i16, .i16]
abbrev mW:EK:= .mx [.b, .a .u32 6]
abbrev mK:EK:= .mx [.i .i64, .b, .a .u32 6]
end Go.Proofs.YtlmmgjngihlpeaaGreat.Sx
