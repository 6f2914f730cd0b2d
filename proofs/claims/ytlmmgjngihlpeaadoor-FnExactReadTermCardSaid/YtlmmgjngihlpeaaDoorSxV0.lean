/- Functions. Printed by our own sx.py. -/
import Derived.Test.YtlmmgjngihlpeaaDoorSxT
namespace Go.Proofs.YtlmmgjngihlpeaaDoor.Sx
open Go
set_option linter.unusedVariables false
set_option maxRecDepth 100000
abbrev S_g107 (α : Type) : Type := ByteArray → ByteArray → (Int → Option α) → Option α
def g107tp : List TP := [(.vl (.sv .str)), (.vl (.sv .str))]
def g107bp : List BP := []
def g107K {α : Type} (G : S_g107 α) (ls : List Lf) (k : KRe α) : Option α :=
  G (lf ls 0).str (lf ls 1).str
    (fun y0 => k (.vl (.sv (.int .i64 y0))) [] [])
def g107R {α : Type} (G : S_g107 α) := rowK g107tp g107bp (g107K G)
abbrev S_g73 (α : Type) : Type := ByteArray → ByteArray → (Nat → Nat → Nat → Ty0 → Option α) → Option α
def g73tp : List TP := [(.vl (.sv .str)), (.vl (.sv .str))]
def g73bp : List BP := []
def g73K {α : Type} (G : S_g73 α) (ls : List Lf) (k : KRe α) : Option α :=
  G (lf ls 0).str (lf ls 1).str
    (fun y1 y2 y3 y4 => k (.vl (.sv (.slc 0 0 1 0 y1 y2))) [] [[(.seq .str y3 y4)]])
def g73R {α : Type} (G : S_g73 α) := rowK g73tp g73bp (g73K G)
abbrev S_g124 (α : Type) : Type := ByteArray → Int → Int → (Int → Option α) → (Int → Option α) → Option α
def g124tp : List TP := [(.vl (.sv .str)), (.vl (.sv (.int .i64))), (.vl (.sv (.int .i64)))]
def g124bp : List BP := []
def g124K {α : Type} (G : S_g124 α) (ls : List Lf) (k : KRe α) : Option α :=
  G (lf ls 0).str (lf ls 1).int (lf ls 2).int
    (fun y0 => k (.tup [(.sv (.int .i64 y0)), (.sv .nili)]) [] [])
    (fun y0 => k (.tup [(.sv (.int .i64 y0)), (.sv .ifo)]) [] [])
def g124R {α : Type} (G : S_g124 α) := rowK g124tp g124bp (g124K G)
end Go.Proofs.YtlmmgjngihlpeaaDoor.Sx
