/- A symbolic evaluator for the machine's code, part G: what each operation does to a state. Our own work. -/
import Derived.Test.YtlmmgjngihlpeaaDoorSxF
namespace Go.Proofs.YtlmmgjngihlpeaaDoor.Sx
open Go
set_option linter.unusedVariables false
set_option linter.unusedSimpArgs false
variable {P : Program}
def pureE (x : TV) : Eff := ⟨x, [], []⟩
def svE (x : SV) : Eff := ⟨.vl (.sv x), [], []⟩
def nameOf (d j : Nat) : Nat := 1000 * (j + 1) + d
def segsOf : TV → Option (List Seg)
  | .vl (.sv s) => cond s.known (some [.one s]) none
  | .vl (.agg l) => some l
  | .tup _ => none
def knownL (l : List SV) : Bool := l.all SV.known
def nth {β : Type _} : List β → Nat → Option β
  | [], _ => none
  | x :: _, 0 => some x
  | _ :: r, i + 1 => nth r i
theorem nth_eq {β : Type _} : ∀ (l : List β) (i : Nat), nth l i = l[i]?
  | [], i => by simp [nth]
  | x :: r, 0 => rfl
  | x :: r, i + 1 => by simp [nth, nth_eq r i]
def lset {β : Type _} : List β → Nat → β → List β
  | [], _, _ => []
  | _ :: r, 0, y => y :: r
  | x :: r, i + 1, y => x :: lset r i y
theorem lset_eq {β : Type _} : ∀ (l : List β) (i : Nat) (y : β), lset l i y = l.set i y
  | [], i, y => by simp [lset]
  | x :: r, 0, y => rfl
  | x :: r, i + 1, y => by simp [lset, lset_eq r i y]
def byteAt (s : ByteArray) (i : Nat) : Int := (s.data.toList.getD i 0).toNat
def plainB : List Seg → Bool
  | [.mp _ _ _] => false
  | [.rws _ _ _] => false
  | _ => true
theorem plainB_spec {B : List Seg} (h : plainB B = true) : (∀ K V l, B ≠ [.mp K V l]) ∧ noRws B = true := by
  unfold plainB at h
  split at h
  · cases h
  · cases h
  · rename_i h1 h2
    refine ⟨fun K V l e => h1 K V l e, ?_⟩
    unfold noRws
    split
    · exact (h2 _ _ _ rfl).elim
    · rfl
section ev
variable {α : Type}
def newB (st : St) (d : Nat) (B : List Seg) (k : Eff → Option α) : Option α :=
  match st.H (nameOf d 0) with
  | none => cond (plainB B) (k ⟨.vl (.sv (.ptr (nameOf d 0) 0)), [], [(nameOf d 0, true, B)]⟩) none
  | some _ => none
def evBin (tab : Tab) (op : BinOp) (t : TypeId) (x y : TV) (k : Eff → Option α) : Option α :=
  match x, y with
  | .vl (.sv (.int k1 a)), .vl (.sv (.int k2 b)) => evInt op k1 a k2 b fun s => k (svE s)
  | .vl (.sv (.bool a)), .vl (.sv (.bool b)) =>
    cond (has tab.bol t) (match op with
      | .eql => k (svE (.bool (a == b)))
      | .neq => k (svE (.bool (!(a == b))))
      | _ => none) none
  | .vl (.sv (.str a)), .vl (.sv (.str b)) => evStr op a b fun s => k (svE s)
  | .vl (.agg a), .vl (.agg b) => match alook tab.eqt t with
    | some ks => cond (ksIs a ks && ksIs b ks) (match eqO a b with
      | some e => (match op with
        | .eql => k (svE (.bool e))
        | .neq => k (svE (.bool (!e)))
        | _ => none)
      | none => none) none
    | none => none
  | _, _ => none
def evUn (op : UnOp) (x : TV) (k : Eff → Option α) : Option α :=
  match op, x with
  | .neg, .vl (.sv (.int k1 a)) => k (svE (.int k1 (k1.wrap (0 - a))))
  | .not, .vl (.sv (.bool b)) => k (svE (.bool (!b)))
  | .xor, .vl (.sv (.int k1 a)) => k (svE (.int k1 (ibits .xor k1 (if k1.signed then -1 else k1.max) a)))
  | _, _ => none
def evConv (tab : Tab) (s d : TypeId) (x : TV) (k : Eff → Option α) : Option α :=
  match x with
  | .vl (.sv (.int _ a)) => match alook tab.knd s with
    | some _ => match alook tab.knd d with
      | some k2 => k (svE (.int k2 (k2.wrap a)))
      | none => none
    | none => none
  | _ => none
def evLoad (tab : Tab) (t : TypeId) (st : St) (x : TV) (k : Eff → Option α) : Option α :=
  match x with
  | .vl (.sv (.ptr b o)) => match st.H b with
    | some B => match segAt B.2 o with
      | some R => cond (has tab.sca t)
          (match R with
           | .one y :: _ => k ⟨.vl (.sv y), [b], []⟩
           | _ => none)
          (match alook tab.agg t with
           | some n => match segTake R n with
             | some l => k ⟨.vl (.agg l), [b], []⟩
             | none => none
           | none => none)
      | none => none
    | none => none
  | .vl (.sv (.el b o s i f)) => match st.H b with
    | some B => match segAt B.2 o with
      | some (.seq E n l :: _) => cond (Nat.beq E.s s)
          (if i < n then
            cond (has tab.sca t)
              (match nth (E.enc (l.getD i E.d)) f with
               | some y => k ⟨.vl (.sv y), [b], []⟩
               | none => none)
              (match alook tab.agg t with
               | some m => cond (Nat.beq m s && Nat.beq f 0) (k ⟨.vl (.agg ((E.enc (l.getD i E.d)).map Seg.one)), [b], []⟩) none
               | none => none)
           else none) none
      | _ => none
    | none => none
  | _ => none
def sizeIs (tab : Tab) (t : TypeId) (n : Nat) : Bool :=
  match alook tab.agg t with
  | some m => Nat.beq m n && Nat.blt 0 n
  | none => has tab.sca t && Nat.beq n 1
def evStore (tab : Tab) (t : TypeId) (st : St) (x y : TV) (k : Eff → Option α) : Option α :=
  match segsOf y with
  | some vs => cond (sizeIs tab t (sizeL vs) && knownL (cellsS vs))
      (match x with
       | .vl (.sv (.ptr b o)) => match st.H b with
         | some (true, B) => match segPutAt B o vs with
           | some B' => cond (groOk B B') (k ⟨tunk, [b], [(b, true, B')]⟩) none
           | none => none
         | _ => none
       | .vl (.sv (.el b o s i f)) => match st.H b with
         | some (true, B) => match segAt B o with
           | some (.seq E n l :: _) => cond (Nat.beq E.s s && (Nat.beq (cellsS vs).length (sizeL vs) && Nat.ble (f + sizeL vs) s))
               (if i < n then
                 match E.dec (putAt (E.enc (l.getD i E.d)) f (cellsS vs)) with
                 | some z => match segSetAt B o (.seq E n (l.set i z)) with
                   | some B' => cond (groOk B B') (k ⟨tunk, [b], [(b, true, B')]⟩) none
                   | none => none
                 | none => none
                else none) none
           | _ => none
         | _ => none
       | _ => none) none
  | none => none
where
  cellsS : List Seg → List SV
    | [] => []
    | .one x :: r => x :: cellsS r
    | _ :: r => cellsS r
  putAt : List SV → Nat → List SV → List SV
    | c, f, vs => c.take f ++ vs ++ c.drop (f + vs.length)
def evFieldAddr (tab : Tab) (s : TypeId) (x : TV) (f : Nat) (k : Eff → Option α) : Option α :=
  match alook tab.fld s with
  | some l => match nth l f with
    | some (off, _) => match x with
      | .vl (.sv (.ptr b o)) => k (svE (.ptr b (o + off)))
      | .vl (.sv (.el b o s i g)) => k (svE (.el b o s i (g + off)))
      | _ => none
    | none => none
  | none => none
def evIndexAddr (tab : Tab) (t : TypeId) (x i : TV) (k : Eff → Option α) : Option α :=
  match i with
  | .vl (.sv (.int _ n)) => match x with
    | .vl (.sv (.ptr b o)) => match alook tab.arr t with
      | some (len, s) => if 0 ≤ n ∧ n < len then k (svE (.el b o s n.toNat 0)) else none
      | none => none
    | .vl (.sv (.slc b o s lo len _)) => match alook tab.sli t with
      | some (_, s') => cond (Nat.beq s s') (if 0 ≤ n ∧ n < len then k (svE (.el b o s (lo + n.toNat) 0)) else none) none
      | none => none
    | _ => none
  | _ => none
def evIndex (tab : Tab) (t : TypeId) (x i : TV) (k : Eff → Option α) : Option α :=
  match i with
  | .vl (.sv (.int _ n)) => match x with
    | .vl (.sv (.str s)) => cond (has tab.str t) (if 0 ≤ n ∧ n < s.size then k (svE (.int .u8 (byteAt s n.toNat))) else none) none
    | _ => none
  | _ => none
def evExtract (x : TV) (i : Nat) (k : Eff → Option α) : Option α :=
  match x with
  | .tup l => match nth l i with
    | some y => k (pureE (.vl y))
    | none => none
  | _ => none
def evNil (x : TV) (k : Eff → Option α) : Option α :=
  match x with
  | .vl (.sv (.ptr b o)) => k (svE (.ptr b o))
  | .vl (.sv (.el b o s i f)) => k (svE (.el b o s i f))
  | _ => none
def fillS (l : List (Nat × Nat)) (st : St) : List (Nat × Operand) → List Seg → Option (List Seg)
  | [], B => some B
  | (i, x) :: r, B => match nth l i with
    | some (off, sz) => match segsOf (getO st x) with
      | some vs => cond (Nat.beq (sizeL vs) sz) ((segPutAt B off vs).bind (fillS l st r)) none
      | none => none
    | none => none
def fillA (E : EK) (st : St) : List (Nat × Operand) → List E.T → Option (List E.T)
  | [], l => some l
  | (i, x) :: r, l => match getO st x with
    | .vl (.sv y) => cond (Nat.blt i l.length) ((E.dec [y]).bind fun z => fillA E st r (lset l i z)) none
    | _ => none
def evBuild (tab : Tab) (t : TypeId) (parts : Array (Nat × Operand)) (st : St) (k : Eff → Option α) : Option α :=
  match alook tab.zero t with
  | some Z => match alook tab.fld t with
    | some l => match fillS l st parts.toList Z with
      | some B => k (pureE (.vl (.agg B)))
      | none => none
    | none => match alook tab.arr t with
      | some (n, s) => match Z with
        | [.seq E m z] => cond (Nat.beq s 1 && (Nat.beq E.s 1 && Nat.beq m n)) (match fillA E st parts.toList z with
          | some z' => k (pureE (.vl (.agg [.seq E m z'])))
          | none => none) none
        | _ => none
      | none => none
  | none => none
def evOp (tab : Tab) (o : Oper) (st : St) (k : Eff → Option α) : Option α :=
  match o.op with
  | .move x => k (pureE (getO st x))
  | .assign x => k (pureE (getO st x))
  | .pick c a b => match getO st c with
    | .vl (.sv (.bool t)) => cond t (k (pureE (getO st a))) (k (pureE (getO st b)))
    | _ => none
  | .binOp op t x y _ => evBin tab op t (getO st x) (getO st y) k
  | .unOp op _ x => evUn op (getO st x) k
  | .convert s d x => evConv tab s d (getO st x) k
  | .alloc e => match o.dst with
    | some d => match alook tab.zero e with
      | some B => newB st d B k
      | none => none
    | none => none
  | .box _ x => match o.dst with
    | some d => match segsOf (getO st x) with
      | some B => newB st d B k
      | none => none
    | none => none
  | .load t a => evLoad tab t st (getO st a) k
  | .store t a x => evStore tab t st (getO st a) (getO st x) k
  | .build t parts => evBuild tab t parts st k
  | .nilCheck x => evNil (getO st x) k
  | .fieldAddr s x f => evFieldAddr tab s (getO st x) f k
  | .indexAddr t x i => evIndexAddr tab t (getO st x) (getO st i) k
  | .index t x i => evIndex tab t (getO st x) (getO st i) k
  | .extract x i => evExtract (getO st x) i k
  | _ => none
end ev
end Go.Proofs.YtlmmgjngihlpeaaDoor.Sx
