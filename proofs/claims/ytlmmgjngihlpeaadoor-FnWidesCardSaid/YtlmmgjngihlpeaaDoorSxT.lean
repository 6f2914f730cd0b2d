/- The program's types. Printed by our own sx.py. -/
import Derived.Test.YtlmmgjngihlpeaaDoorProg
import Derived.Test.YtlmmgjngihlpeaaDoorSxO
namespace Go.Proofs.YtlmmgjngihlpeaaDoor.Sx
open Go
set_option linter.unusedVariables false
set_option maxRecDepth 100000
def tab:Tab where
 agg:=[(30,6),(32,7),(34,7),(79,6),(88,1),(95,6),(146,12)]
 sca:=[3,4,5,29,37,100]
 zero:=[(5,[(.one (.int .u8 (0:Int)))]),(30,[(.seq (.int .u32) 6 [0,0,0,0,0,0])]),(34,[(.one (.bool false)),(.seq (.int .u32) 6 [0,0,0,0,0,0])]),(66,[(.one .nilp),(.one .nils)]),(79,[(.seq (.int .u32) 6 [0,0,0,0,0,0])]),(88,[(.one (.bool false))]),(95,[(.seq (.int .u32) 6 [0,0,0,0,0,0])]),(135,[(.one .nils),(.one (.int .i64 (0:Int))),(.one (.int .u64 (0:Int)))]),(146,[(.seq (.int .u32) 12 [0,0,0,0,0,0,0,0,0,0,0,0])]),(167,[(.seq (.int .u8) 24 (List.replicate 24 0))])]
 fld:=[(32,[(0,1),(1,6)]),(34,[(0,1),(1,6)]),(88,[(0,1)]),(135,[(0,1),(1,1),(2,1)])]
 arr:=[(30,6,1),(79,6,1),(95,6,1),(146,12,1),(167,24,1),(178,20,1)]
 sli:=[(37,5,1),(161,29,1)]
 knd:=[(2, .i64),(3, .i64),(5, .u8),(29, .u32),(94, .u64),(100, .u64)]
 str:=[9]
 bol:=[4]
 eqt:=[(30,[(.int .u32),(.int .u32),(.int .u32),(.int .u32),(.int .u32),(.int .u32)]),(34,[.bool,(.int .u32),(.int .u32),(.int .u32),(.int .u32),(.int .u32),(.int .u32)]),(79,[(.int .u32),(.int .u32),(.int .u32),(.int .u32),(.int .u32),(.int .u32)]),(95,[(.int .u32),(.int .u32),(.int .u32),(.int .u32),(.int .u32),(.int .u32)])]
 aix:=[(79,6,29)]
def strC0:ByteArray:=⟨#[0,1,2,2,3,3,3,3,4,4,4,4,4,4,4,4,5,5,5,5,5,5,5,5,5,5,5,5,5,5,5,5,6,6,6,6,6,6,6,6,6,6,6,6,6,6,6,6,6,6,6,6,6,6,6,6,6,6,6,6,6,6,6,6,7,7,7,7,7,7,7,7,7,7,7,7,7,7,7,7,7,7,7,7,7,7,7,7,7,7,7,7,7,7,7,7,7,7,7,7,7,7,7,7,7,7,7,7,7,7,7,7,7,7,7,7,7,7,7,7,7,7,7,7,7,7,7,7,8,8,8,8,8,8,8,8,8,8,8,8,8,8,8,8,8,8,8,8,8,8,8,8,8,8,8,8,8,8,8,8,8,8,8,8,8,8,8,8,8,8,8,8,8,8,8,8,8,8,8,8,8,8,8,8,8,8,8,8,8,8,8,8,8,8,8,8,8,8,8,8,8,8,8,8,8,8,8,8,8,8,8,8,8,8,8,8,8,8,8,8,8,8,8,8,8,8,8,8,8,8,8,8,8,8,8,8,8,8,8,8,8,8,8,8,8,8,8,8,8,8,8,8,8,8,8,8]⟩
def strC1:ByteArray:=⟨#[48,49,50,51,52,53,54,55,56,57,97,98,99,100,101,102,103,104,105,106,107,108,109,110,111,112,113,114,115,116,117,118,119,120,121,122]⟩
def strC2:ByteArray:=⟨#[48,48,48,49,48,50,48,51,48,52,48,53,48,54,48,55,48,56,48,57,49,48,49,49,49,50,49,51,49,52,49,53,49,54,49,55,49,56,49,57,50,48,50,49,50,50,50,51,50,52,50,53,50,54,50,55,50,56,50,57,51,48,51,49,51,50,51,51,51,52,51,53,51,54,51,55,51,56,51,57,52,48,52,49,52,50,52,51,52,52,52,53,52,54,52,55,52,56,52,57,53,48,53,49,53,50,53,51,53,52,53,53,53,54,53,55,53,56,53,57,54,48,54,49,54,50,54,51,54,52,54,53,54,54,54,55,54,56,54,57,55,48,55,49,55,50,55,51,55,52,55,53,55,54,55,55,55,56,55,57,56,48,56,49,56,50,56,51,56,52,56,53,56,54,56,55,56,56,56,57,57,48,57,49,57,50,57,51,57,52,57,53,57,54,57,55,57,56,57,57]⟩
def strC3:ByteArray:=⟨#[32,32,32,32,32,32,32,32,32,32,32,32,32,32,32,32,32,32,32,32,32,32,32,32,32,32,32,32,32,32,32,32,32,32,32,32,32,32,32,32,32,32,32,32,32,32,32,32,32,32,32,32,32,32,32,32,32,32,32,32,32,32,32,32,32,32,32,32,32,32,32,32,32,32,32,32,32,32,32,32,32,32,32,32,32,32,32,32,32,32,32,32,32,32,32,32,32,32,32,32,32,32,32,32,32,32,32,32,32,32,32,32,32,32,32,32,32,32,32,32,32,32,32,32,32,32,32,32]⟩
def strC4:ByteArray:=⟨#[45,45,45,45,45,45,45,45,45,45,45,45,45,45,45,45,45,45,45,45,45,45,45,45,45,45,45,45,45,45,45,45,45,45,45,45,45,45,45,45,45,45,45,45,45,45,45,45,45,45,45,45,45,45,45,45,45,45,45,45,45,45,45,45,45,45,45,45,45,45,45,45,45,45,45,45,45,45,45,45,45,45,45,45,45,45,45,45,45,45,45,45,45,45,45,45,45,45,45,45,45,45,45,45,45,45,45,45,45,45,45,45,45,45,45,45,45,45,45,45,45,45,45,45,45,45,45,45]⟩
def strC5:ByteArray:=⟨#[48,48,48,48,48,48,48,48,48,48,48,48,48,48,48,48,48,48,48,48,48,48,48,48,48,48,48,48,48,48,48,48,48,48,48,48,48,48,48,48,48,48,48,48,48,48,48,48,48,48,48,48,48,48,48,48,48,48,48,48,48,48,48,48]⟩
def strC6:ByteArray:=⟨#[61,61,61,61,61,61,61,61,61,61,61,61,61,61,61,61,61,61,61,61,61,61,61,61,61,61,61,61,61,61,61,61,61,61,61,61,61,61,61,61,61,61,61,61,61,61,61,61,61,61,61,61,61,61,61,61,61,61,61,61,61,61,61,61,61,61,61,61,61,61,61,61,61,61,61,61,61,61,61,61,61,61,61,61,61,61,61,61,61,61,61,61,61,61,61,61,61,61,61,61,61,61,61,61,61,61,61,61,61,61,61,61,61,61,61,61,61,61,61,61,61,61,61,61,61,61,61,61]⟩
def strC7:ByteArray:=⟨#[9,9,9,9,9,9,9,9,9,9,9,9,9,9,9,9,9,9,9,9,9,9,9,9,9,9,9,9,9,9,9,9,9,9,9,9,9,9,9,9,9,9,9,9,9,9,9,9,9,9,9,9,9,9,9,9,9,9,9,9,9,9,9,9]⟩
theorem tabBOk:tabB Tryd.prog tab=true:=by kernel_rfl
theorem tabOk:TabOk Tryd.prog tab:=tabOk_of tabBOk
theorem mixed:Tryd.prog.follows .mixedOrders=true:=by kernel_rfl
theorem lo0{P:Program}{h:Hd}{fn:Func}(h0:loopsOf (bodyOf fn)=[]):∀c,fn.body=some c→LoopsOk P h c:=fun c hc=>by
 rw[bodyOf_some hc]
 exact loopsOk_of _ (fun p hp=>by rw[h0] at hp;cases hp)
theorem lb0{P:Program}{h:Hd}{b:Code}(h0:loopsOf b=[]):LoopsOk P h b:=loopsOk_of _ (fun p hp=>by rw[h0] at hp;cases hp)
theorem lo1{P:Program}{h:Hd}{fn:Func}{i:Nat}{b:Code}(h1:loopsOf (bodyOf fn)=[(i,b)])(H:∀(α:Type) (st:St) (k:Ex→St→Option α) (r:α),h.loop i st k=some r→∃e st',k e st'=some r∧CodeS P (.block i (.loop b)) st e st'):∀c,fn.body=some c→LoopsOk P h c:=fun c hc=>by
 rw[bodyOf_some hc]
 exact loopsOk_of _ (fun p hp=>by
 rw[h1] at hp
 simp only[List.mem_cons,List.not_mem_nil,or_false] at hp
 rcases hp with rfl
 exact H)
theorem fnk{h:Hd}(hc:h.CallsOk Tryd.prog){f:FuncId}{fn:Func}(hl:∀c,fn.body=some c→LoopsOk Tryd.prog h c){tp:List TP}{bp:List BP}{F:{α:Type}→List Lf→KRe α→Option α}
 (hmain:∀(α:Type) ls (k:KRe α),F ls k=evFun tab h fn (fillT tp ls).1 (fillB bp (fillT tp ls).2).1 k) (hf:Tryd.prog.funcs[f]? =some fn:=by kernel_rfl) (hname:(fn.name== "runtime.NumGoroutine")=false:=by kernel_rfl):FnOk Tryd.prog f tp bp F:=fn_ok tabOk hc mixed hf hname hl hmain
theorem lpk{h:Hd}(hc:h.CallsOk Tryd.prog){b:Code}(hl:LoopsOk Tryd.prog h b){D:LoopD}{id:Nat}{α:Type}{F:Nat→List Lf→KEx α→Option α}(h0:∀ls k,F 0 ls k=none)
 (hstep:∀n ls k,F (n+1) ls k=ev tab h b (atHead D ls) (loopK D id (loopH D (F n)) k)) {n:Nat} {st:St} {k:KEx α} {r:α} (hev:loopH D (F n) st k=some r):LoopS Tryd.prog id b st k r:=loop_ok tabOk hc mixed hl h0 hstep hev
theorem rwk{h:Hd}(hc:h.CallsOk Tryd.prog){f:FuncId}{fn:Func}(hl:∀c,fn.body=some c→LoopsOk Tryd.prog h c){tp:List TP}{bp:List BP}{F:{α:Type}→List Lf→KRe α→Option α}
 (hmain:∀(α:Type) ls (k:KRe α),F ls k=evFun tab h fn (fillT tp ls).1 (fillB bp (fillT tp ls).2).1 k) (hf:Tryd.prog.funcs[f]? =some fn:=by kernel_rfl) (hname:(fn.name== "runtime.NumGoroutine")=false:=by kernel_rfl):RowOk Tryd.prog f (fun{α}=>rowK tp bp (F (α:=α))):=row_of (fnk hc hl hmain hf hname)
abbrev uU:EK:= .int .u32
abbrev bA:BP:=(true,[(.one .bool),(.one (.slc 1 0 5)),(.one (.mpp 2)),(.one (.gsl 3 2)),(.one (.int .i64))])
abbrev vW:TP:= .vl (.agg [(.one .bool),(.seq (.int .u32) 6)])
abbrev b6:BP:=(true,[(.seq (.int .u32) 6)])
abbrev tI:TP:= .vl (.sv (.int .i64))
abbrev Al(S:Type→Type):Type 1:={α:Type}→S α
abbrev fT(t:List TP)(ls:List Lf):=(fillT t ls).1
abbrev fB(t:List TP)(b:List BP)(ls:List Lf):=(fillB b (fillT t ls).2).1
abbrev rN:EK:= .rc [.i8, .i16, .i16, .i64, .i64]
abbrev rP:EK:= .rc [.i16, .i16]
abbrev mW:EK:= .mx [.b, .a .u32 6]
abbrev mK:EK:= .mx [.i .i64, .b, .a .u32 6]
end Go.Proofs.YtlmmgjngihlpeaaDoor.Sx
