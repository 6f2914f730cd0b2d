/- The program's types. Printed by our own sx.py. -/
import Derived.Test.YtlmmgjngihlpeaaProg
import Derived.Test.YtlmmgjngihlpeaaSxO
namespace Go.Proofs.Ytlmmgjngihlpeaa.Sx
open Go
set_option linter.unusedVariables false
set_option maxRecDepth 100000
abbrev Ty0:Type:=List (List Int)
abbrev Ty1:Type:=List (List (Int×(Bool×(List Int×Unit))))
abbrev Ty2:Type:=List (Int×(Bool×(List Int×Unit)))
abbrev Ty3:Type:=Int×(Bool×(List Int×Unit))
abbrev Ty4:Type:=List (List Int×(Bool×(List Int×Unit)))
abbrev Ty5:Type:=Bool×(List Int×Unit)
def tab:Tab where
 agg:=[(25,6),(27,7),(64,6),(78,6),(93,5),(95,5),(117,2),(156,12)]
 sca:=[2,4,24,43,54,90,91,101,112,143]
 zero:=[(2,[(.one (.int .i64 (0:Int)))]),(25,[(.seq (.int .u32) 6 [0,0,0,0,0,0])]),(27,[(.one (.bool false)),(.seq (.int .u32) 6 [0,0,0,0,0,0])]),(64,[(.seq (.int .u32) 6 [0,0,0,0,0,0])]),(78,[(.seq (.int .u32) 6 [0,0,0,0,0,0])]),(93,[(.one (.int .i8 (0:Int))),(.one (.int .i16 (0:Int))),(.one (.int .i16 (0:Int))),(.one (.int .i64 (0:Int))),(.one (.int .i64 (0:Int)))]),(103,[(.one (.bool false)),(.one .nils),(.one .unk),(.one .nils),(.one (.int .i64 (0:Int)))]),(114,[(.one .nils),(.one .nils),(.one .nils)]),(117,[(.one (.int .i16 (0:Int))),(.one (.int .i16 (0:Int)))]),(143,[(.one .nils)]),(145,[(.one (.int .i64 (0:Int))),(.one (.bool false)),(.seq (.int .u32) 6 [0,0,0,0,0,0])]),(153,[(.seq (.int .u32) 7 [0,0,0,0,0,0,0])]),(156,[(.seq (.int .u32) 12 [0,0,0,0,0,0,0,0,0,0,0,0])])]
 fld:=[(27,[(0,1),(1,6)]),(71,[(0,1)]),(93,[(0,1),(1,1),(2,1),(3,1),(4,1)]),(95,[(0,1),(1,1),(2,1),(3,1),(4,1)]),(103,[(0,1),(1,1),(2,1),(3,1),(4,1)]),(114,[(0,1),(1,1),(2,1)]),(117,[(0,1),(1,1)]),(145,[(0,1),(1,7)])]
 arr:=[(25,6,1),(64,6,1),(78,6,1),(153,7,1),(156,12,1)]
 sli:=[(40,95,5),(43,93,5),(54,117,2),(112,143,1),(139,2,1),(143,145,8),(154,24,1)]
 knd:=[(2, .i64),(3, .i64),(5, .u8),(24, .u32),(63, .u64),(76, .u64),(90, .i8),(91, .i16)]
 str:=[9]
 bol:=[4]
 eqt:=[(25,[(.int .u32),(.int .u32),(.int .u32),(.int .u32),(.int .u32),(.int .u32)]),(64,[(.int .u32),(.int .u32),(.int .u32),(.int .u32),(.int .u32),(.int .u32)]),(78,[(.int .u32),(.int .u32),(.int .u32),(.int .u32),(.int .u32),(.int .u32)])]
 aix:=[(78,6,24)]
 mps:=[(101,117,27,[.i16, .i16],(.mx [.b, .a .u32 6]))]
 rws:=[(112,(.mx [.i .i64, .b, .a .u32 6]))]
 ngs:=[(103,3,(.rc [.i16, .i16])),(114,2,(.rc [.i16, .i16]))]
 flt:=[(27,[4,25])]
def strC0:ByteArray:=⟨#[0,1,2,2,3,3,3,3,4,4,4,4,4,4,4,4,5,5,5,5,5,5,5,5,5,5,5,5,5,5,5,5,6,6,6,6,6,6,6,6,6,6,6,6,6,6,6,6,6,6,6,6,6,6,6,6,6,6,6,6,6,6,6,6,7,7,7,7,7,7,7,7,7,7,7,7,7,7,7,7,7,7,7,7,7,7,7,7,7,7,7,7,7,7,7,7,7,7,7,7,7,7,7,7,7,7,7,7,7,7,7,7,7,7,7,7,7,7,7,7,7,7,7,7,7,7,7,7,8,8,8,8,8,8,8,8,8,8,8,8,8,8,8,8,8,8,8,8,8,8,8,8,8,8,8,8,8,8,8,8,8,8,8,8,8,8,8,8,8,8,8,8,8,8,8,8,8,8,8,8,8,8,8,8,8,8,8,8,8,8,8,8,8,8,8,8,8,8,8,8,8,8,8,8,8,8,8,8,8,8,8,8,8,8,8,8,8,8,8,8,8,8,8,8,8,8,8,8,8,8,8,8,8,8,8,8,8,8,8,8,8,8,8,8,8,8,8,8,8,8,8,8,8,8,8,8]⟩
theorem tabBOk:tabB Try.prog tab=true:=by kernel_rfl
theorem tabOk:TabOk Try.prog tab:=tabOk_of tabBOk
theorem mixed:Try.prog.follows .mixedOrders=true:=by kernel_rfl
theorem lo0{P:Program}{h:Hd}{fn:Func}(h0:loopsOf (bodyOf fn)=[]):∀c,fn.body=some c→LoopsOk P h c:=fun c hc=>by
 rw[bodyOf_some hc]
 exact loopsOk_of _ (fun p hp=>by rw[h0] at hp;cases hp)
theorem lb0{P:Program}{h:Hd}{b:Code}(h0:loopsOf b=[]):LoopsOk P h b:=loopsOk_of _ (fun p hp=>by rw[h0] at hp;cases hp)
theorem lo1{P:Program}{h:Hd}{fn:Func}{i:Nat}{b:Code}(h1:loopsOf (bodyOf fn)=[(i,b)])(H:∀(α:Type) (st:St) (k:Ex→St→Option α) (r:α),h.loop i st k=some r→∃e st',k e st'=some r∧CodeS P (.block i (.loop b)) st e st'):∀c,fn.body=some c→LoopsOk P h c:=fun c hc=>by
 rw[bodyOf_some hc]
 exact loopsOk_of _ (fun p hp=>by
 rw[h1] at hp
 simp only[List.mem_cons,List.not_mem_nil,or_false] at hp
 rcases hp with rfl
 exact H)
theorem fnk{h:Hd}(hc:h.CallsOk Try.prog){f:FuncId}{fn:Func}(hl:∀c,fn.body=some c→LoopsOk Try.prog h c){tp:List TP}{bp:List BP}{F:{α:Type}→List Lf→KRe α→Option α}
 (hmain:∀(α:Type) ls (k:KRe α),F ls k=evFun tab h fn (fillT tp ls).1 (fillB bp (fillT tp ls).2).1 k) (hf:Try.prog.funcs[f]? =some fn:=by kernel_rfl) (hname:(fn.name== "runtime.NumGoroutine")=false:=by kernel_rfl):FnOk Try.prog f tp bp F:=fn_ok tabOk hc mixed hf hname hl hmain
theorem lpk{h:Hd}(hc:h.CallsOk Try.prog){b:Code}(hl:LoopsOk Try.prog h b){D:LoopD}{id:Nat}{α:Type}{F:Nat→List Lf→KEx α→Option α}(h0:∀ls k,F 0 ls k=none)
 (hstep:∀n ls k,F (n+1) ls k=ev tab h b (atHead D ls) (loopK D id (loopH D (F n)) k)) {n:Nat} {st:St} {k:KEx α} {r:α} (hev:loopH D (F n) st k=some r):LoopS Try.prog id b st k r:=loop_ok tabOk hc mixed hl h0 hstep hev
theorem rwk{h:Hd}(hc:h.CallsOk Try.prog){f:FuncId}{fn:Func}(hl:∀c,fn.body=some c→LoopsOk Try.prog h c){tp:List TP}{bp:List BP}{F:{α:Type}→List Lf→KRe α→Option α}
 (hmain:∀(α:Type) ls (k:KRe α),F ls k=evFun tab h fn (fillT tp ls).1 (fillB bp (fillT tp ls).2).1 k) (hf:Try.prog.funcs[f]? =some fn:=by kernel_rfl) (hname:(fn.name== "runtime.NumGoroutine")=false:=by kernel_rfl):RowOk Try.prog f (fun{α}=>rowK tp bp (F (α:=α))):=row_of (fnk hc hl hmain hf hname)
abbrev uU:EK:= .int .u32
abbrev bA:BP:=(true,[(.one .bool),(.one (.slc 1 0 5)),(.one (.mpp 2)),(.one (.gsl 3 2)),(.one (.int .i64))])
abbrev vW:TP:= .vl (.agg [(.one .bool),(.seq (.int .u32) 6)])
abbrev b6:BP:=(true,[(.seq (.int .u32) 6)])
abbrev tI:TP:= .vl (.sv (.int .i64))
abbrev Al(S:Type→Type):Type 1:={α:Type}→S α
abbrev fT(t:List TP)(ls:List Lf):=(fillT t ls).1
abbrev fB(t:List TP)(b:List BP)(ls:List Lf):=(fillB b (fillT t ls).2).1
abbrev rN:EK:= .rc [.i8, .i16, .i16, .i64, .i64]
abbrev rP:EK:= .rc [.i16, .i16]
abbrev mW:EK:= .mx [.b, .a .u32 6]
abbrev mK:EK:= .mx [.i .i64, .b, .a .u32 6]
end Go.Proofs.Ytlmmgjngihlpeaa.Sx
