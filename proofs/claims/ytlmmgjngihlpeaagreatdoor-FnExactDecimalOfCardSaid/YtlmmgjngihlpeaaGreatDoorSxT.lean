/- The program's types. Printed by our own sx.py. -/
import Derived.Test.YtlmmgjngihlpeaaGreatDoorProg
import Derived.Test.YtlmmgjngihlpeaaGreatDoorSxO
namespace Go.Proofs.YtlmmgjngihlpeaaGreatDoor.Sx
open Go
set_option linter.unusedVariables false
set_option maxRecDepth 100000
abbrev Ty0:Type:=List (List Int)
abbrev Ty1:Type:=List (List (Int×(Bool×(List Int×Unit))))
abbrev Ty2:Type:=List (Int×(Bool×(List Int×Unit)))
abbrev Ty3:Type:=Int×(Bool×(List Int×Unit))
abbrev Ty4:Type:=List (List Int×(Bool×(List Int×Unit)))
abbrev Ty5:Type:=Bool×(List Int×Unit)
def tab:Tab where
 agg:=[(32,6),(34,7),(67,5),(119,5),(145,2),(155,6),(174,6),(192,12)]
 sca:=[2,4,5,24,31,61,65,102,103,124,138,141]
 zero:=[(2,[(.one (.int .i64 (0:Int)))]),(5,[(.one (.int .u8 (0:Int)))]),(32,[(.seq (.int .u32) 6 [0,0,0,0,0,0])]),(34,[(.one (.bool false)),(.seq (.int .u32) 6 [0,0,0,0,0,0])]),(67,[(.one (.int .i8 (0:Int))),(.one (.int .i16 (0:Int))),(.one (.int .i16 (0:Int))),(.one (.int .i64 (0:Int))),(.one (.int .i64 (0:Int)))]),(73,[(.one .nilp),(.one .nils)]),(105,[(.one (.bool false)),(.one .nils),(.one .unk),(.one .nils),(.one (.int .i64 (0:Int)))]),(140,[(.one .nils),(.one .nils),(.one .nils)]),(141,[(.one .nils)]),(143,[(.one (.int .i64 (0:Int))),(.one (.bool false)),(.seq (.int .u32) 6 [0,0,0,0,0,0])]),(145,[(.one (.int .i16 (0:Int))),(.one (.int .i16 (0:Int)))]),(155,[(.seq (.int .u32) 6 [0,0,0,0,0,0])]),(174,[(.seq (.int .u32) 6 [0,0,0,0,0,0])]),(192,[(.seq (.int .u32) 12 [0,0,0,0,0,0,0,0,0,0,0,0])]),(213,[(.seq (.int .u8) 24 (List.replicate 24 0))]),(248,[(.seq (.int .u32) 7 [0,0,0,0,0,0,0])])]
 fld:=[(34,[(0,1),(1,6)]),(67,[(0,1),(1,1),(2,1),(3,1),(4,1)]),(101,[(0,1)]),(105,[(0,1),(1,1),(2,1),(3,1),(4,1)]),(119,[(0,1),(1,1),(2,1),(3,1),(4,1)]),(140,[(0,1),(1,1),(2,1)]),(143,[(0,1),(1,7)]),(145,[(0,1),(1,1)])]
 arr:=[(32,6,1),(155,6,1),(174,6,1),(192,12,1),(213,24,1),(231,20,1),(248,7,1)]
 sli:=[(22,5,1),(24,67,5),(38,2,1),(51,119,5),(103,145,2),(138,141,1),(141,143,8),(193,31,1)]
 knd:=[(2, .i64),(3, .i64),(5, .u8),(31, .u32),(65, .i16),(124, .u64),(158, .u64)]
 str:=[9]
 bol:=[4]
 eqt:=[(32,[(.int .u32),(.int .u32),(.int .u32),(.int .u32),(.int .u32),(.int .u32)]),(155,[(.int .u32),(.int .u32),(.int .u32),(.int .u32),(.int .u32),(.int .u32)]),(174,[(.int .u32),(.int .u32),(.int .u32),(.int .u32),(.int .u32),(.int .u32)])]
 aix:=[(155,6,31)]
 mps:=[(102,145,34,[.i16, .i16],(.mx [.b, .a .u32 6]))]
 rws:=[(138,(.mx [.i .i64, .b, .a .u32 6]))]
 ngs:=[(105,3,(.rc [.i16, .i16])),(140,2,(.rc [.i16, .i16]))]
 flt:=[(34,[4,32])]
def strC0:ByteArray:=⟨#[0,1,2,2,3,3,3,3,4,4,4,4,4,4,4,4,5,5,5,5,5,5,5,5,5,5,5,5,5,5,5,5,6,6,6,6,6,6,6,6,6,6,6,6,6,6,6,6,6,6,6,6,6,6,6,6,6,6,6,6,6,6,6,6,7,7,7,7,7,7,7,7,7,7,7,7,7,7,7,7,7,7,7,7,7,7,7,7,7,7,7,7,7,7,7,7,7,7,7,7,7,7,7,7,7,7,7,7,7,7,7,7,7,7,7,7,7,7,7,7,7,7,7,7,7,7,7,7,8,8,8,8,8,8,8,8,8,8,8,8,8,8,8,8,8,8,8,8,8,8,8,8,8,8,8,8,8,8,8,8,8,8,8,8,8,8,8,8,8,8,8,8,8,8,8,8,8,8,8,8,8,8,8,8,8,8,8,8,8,8,8,8,8,8,8,8,8,8,8,8,8,8,8,8,8,8,8,8,8,8,8,8,8,8,8,8,8,8,8,8,8,8,8,8,8,8,8,8,8,8,8,8,8,8,8,8,8,8,8,8,8,8,8,8,8,8,8,8,8,8,8,8,8,8,8,8]⟩
def strC1:ByteArray:=⟨#[48,49,50,51,52,53,54,55,56,57,97,98,99,100,101,102,103,104,105,106,107,108,109,110,111,112,113,114,115,116,117,118,119,120,121,122]⟩
def strC2:ByteArray:=⟨#[48,48,48,49,48,50,48,51,48,52,48,53,48,54,48,55,48,56,48,57,49,48,49,49,49,50,49,51,49,52,49,53,49,54,49,55,49,56,49,57,50,48,50,49,50,50,50,51,50,52,50,53,50,54,50,55,50,56,50,57,51,48,51,49,51,50,51,51,51,52,51,53,51,54,51,55,51,56,51,57,52,48,52,49,52,50,52,51,52,52,52,53,52,54,52,55,52,56,52,57,53,48,53,49,53,50,53,51,53,52,53,53,53,54,53,55,53,56,53,57,54,48,54,49,54,50,54,51,54,52,54,53,54,54,54,55,54,56,54,57,55,48,55,49,55,50,55,51,55,52,55,53,55,54,55,55,55,56,55,57,56,48,56,49,56,50,56,51,56,52,56,53,56,54,56,55,56,56,56,57,57,48,57,49,57,50,57,51,57,52,57,53,57,54,57,55,57,56,57,57]⟩
def strC3:ByteArray:=⟨#[32,32,32,32,32,32,32,32,32,32,32,32,32,32,32,32,32,32,32,32,32,32,32,32,32,32,32,32,32,32,32,32,32,32,32,32,32,32,32,32,32,32,32,32,32,32,32,32,32,32,32,32,32,32,32,32,32,32,32,32,32,32,32,32,32,32,32,32,32,32,32,32,32,32,32,32,32,32,32,32,32,32,32,32,32,32,32,32,32,32,32,32,32,32,32,32,32,32,32,32,32,32,32,32,32,32,32,32,32,32,32,32,32,32,32,32,32,32,32,32,32,32,32,32,32,32,32,32]⟩
def strC4:ByteArray:=⟨#[45,45,45,45,45,45,45,45,45,45,45,45,45,45,45,45,45,45,45,45,45,45,45,45,45,45,45,45,45,45,45,45,45,45,45,45,45,45,45,45,45,45,45,45,45,45,45,45,45,45,45,45,45,45,45,45,45,45,45,45,45,45,45,45,45,45,45,45,45,45,45,45,45,45,45,45,45,45,45,45,45,45,45,45,45,45,45,45,45,45,45,45,45,45,45,45,45,45,45,45,45,45,45,45,45,45,45,45,45,45,45,45,45,45,45,45,45,45,45,45,45,45,45,45,45,45,45,45]⟩
def strC5:ByteArray:=⟨#[48,48,48,48,48,48,48,48,48,48,48,48,48,48,48,48,48,48,48,48,48,48,48,48,48,48,48,48,48,48,48,48,48,48,48,48,48,48,48,48,48,48,48,48,48,48,48,48,48,48,48,48,48,48,48,48,48,48,48,48,48,48,48,48]⟩
def strC6:ByteArray:=⟨#[61,61,61,61,61,61,61,61,61,61,61,61,61,61,61,61,61,61,61,61,61,61,61,61,61,61,61,61,61,61,61,61,61,61,61,61,61,61,61,61,61,61,61,61,61,61,61,61,61,61,61,61,61,61,61,61,61,61,61,61,61,61,61,61,61,61,61,61,61,61,61,61,61,61,61,61,61,61,61,61,61,61,61,61,61,61,61,61,61,61,61,61,61,61,61,61,61,61,61,61,61,61,61,61,61,61,61,61,61,61,61,61,61,61,61,61,61,61,61,61,61,61,61,61,61,61,61,61]⟩
def strC7:ByteArray:=⟨#[9,9,9,9,9,9,9,9,9,9,9,9,9,9,9,9,9,9,9,9,9,9,9,9,9,9,9,9,9,9,9,9,9,9,9,9,9,9,9,9,9,9,9,9,9,9,9,9,9,9,9,9,9,9,9,9,9,9,9,9,9,9,9,9]⟩
theorem tabBOk:tabB Tryz.prog tab=true:=by kernel_rfl
theorem tabOk:TabOk Tryz.prog tab:=tabOk_of tabBOk
theorem mixed:Tryz.prog.follows .mixedOrders=true:=by kernel_rfl
theorem lo0{P:Program}{h:Hd}{fn:Func}(h0:loopsOf (bodyOf fn)=[]):∀c,fn.body=some c→LoopsOk P h c:=fun c hc=>by
 rw[bodyOf_some hc]
 exact loopsOk_of _ (fun p hp=>by rw[h0] at hp;cases hp)
theorem lb0{P:Program}{h:Hd}{b:Code}(h0:loopsOf b=[]):LoopsOk P h b:=loopsOk_of _ (fun p hp=>by rw[h0] at hp;cases hp)
theorem lo1{P:Program}{h:Hd}{fn:Func}{i:Nat}{b:Code}(h1:loopsOf (bodyOf fn)=[(i,b)])(H:∀(α:Type) (st:St) (k:Ex→St→Option α) (r:α),h.loop i st k=some r→∃e st',k e st'=some r∧CodeS P (.block i (.loop b)) st e st'):∀c,fn.body=some c→LoopsOk P h c:=fun c hc=>by
 rw[bodyOf_some hc]
 exact loopsOk_of _ (fun p hp=>by
 rw[h1] at hp
 simp only[List.mem_cons,List.not_mem_nil,or_false] at hp
 rcases hp with rfl
 exact H)
theorem fnk{h:Hd}(hc:h.CallsOk Tryz.prog){f:FuncId}{fn:Func}(hl:∀c,fn.body=some c→LoopsOk Tryz.prog h c){tp:List TP}{bp:List BP}{F:{α:Type}→List Lf→KRe α→Option α}
 (hmain:∀(α:Type) ls (k:KRe α),F ls k=evFun tab h fn (fillT tp ls).1 (fillB bp (fillT tp ls).2).1 k) (hf:Tryz.prog.funcs[f]? =some fn:=by kernel_rfl) (hname:(fn.name== "runtime.NumGoroutine")=false:=by kernel_rfl):FnOk Tryz.prog f tp bp F:=fn_ok tabOk hc mixed hf hname hl hmain
theorem lpk{h:Hd}(hc:h.CallsOk Tryz.prog){b:Code}(hl:LoopsOk Tryz.prog h b){D:LoopD}{id:Nat}{α:Type}{F:Nat→List Lf→KEx α→Option α}(h0:∀ls k,F 0 ls k=none)
 (hstep:∀n ls k,F (n+1) ls k=ev tab h b (atHead D ls) (loopK D id (loopH D (F n)) k)) {n:Nat} {st:St} {k:KEx α} {r:α} (hev:loopH D (F n) st k=some r):LoopS Tryz.prog id b st k r:=loop_ok tabOk hc mixed hl h0 hstep hev
theorem rwk{h:Hd}(hc:h.CallsOk Tryz.prog){f:FuncId}{fn:Func}(hl:∀c,fn.body=some c→LoopsOk Tryz.prog h c){tp:List TP}{bp:List BP}{F:{α:Type}→List Lf→KRe α→Option α}
 (hmain:∀(α:Type) ls (k:KRe α),F ls k=evFun tab h fn (fillT tp ls).1 (fillB bp (fillT tp ls).2).1 k) (hf:Tryz.prog.funcs[f]? =some fn:=by kernel_rfl) (hname:(fn.name== "runtime.NumGoroutine")=false:=by kernel_rfl):RowOk Tryz.prog f (fun{α}=>rowK tp bp (F (α:=α))):=row_of (fnk hc hl hmain hf hname)
abbrev uU:EK:= .int .u32
abbrev bA:BP:=(true,[(.one .bool),(.one (.slc 1 0 5)),(.one (.mpp 2)),(.one (.gsl 3 2)),(.one (.int .i64))])
abbrev vW:TP:= .vl (.agg [(.one .bool),(.seq (.int .u32) 6)])
abbrev b6:BP:=(true,[(.seq (.int .u32) 6)])
abbrev tI:TP:= .vl (.sv (.int .i64))
abbrev Al(S:Type→Type):Type 1:={α:Type}→S α
abbrev fT(t:List TP)(ls:List Lf):=(fillT t ls).1
abbrev fB(t:List TP)(b:List BP)(ls:List Lf):=(fillB b (fillT t ls).2).1
abbrev rN:EK:= .rc [.i8, .i16, .i16, .i64, .i64]
abbrev rP:EK:= .rc [.i16, .i16]
abbrev mW:EK:= .mx [.b, .a .u32 6]
abbrev mK:EK:= .mx [.i .i64, .b, .a .u32 6]
end Go.Proofs.YtlmmgjngihlpeaaGreatDoor.Sx
