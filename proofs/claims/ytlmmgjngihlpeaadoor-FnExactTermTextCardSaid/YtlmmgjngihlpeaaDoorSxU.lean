/- Equations that open the functions. Printed by our own sx.py. -/
import Derived.Test.YtlmmgjngihlpeaaDoorSxV
namespace Go.Proofs.YtlmmgjngihlpeaaDoor.Sx
open Go
set_option linter.unusedVariables false
set_option maxRecDepth 100000
set_option linter.unusedVariables false
theorem g126_o {α : Type} (m : Nat) (p25 : Int) (k33 : ByteArray → Option α) : g126 m p25 k33 =
    cond (decide (p25 < (10 : Int)))
     (
      let x27 : Int := IntKind.wrap .i64 (p25 + (1 : Int))
      if 0 ≤ p25 ∧ p25 ≤ x27 ∧ x27 ≤ ((strC1.size : Nat) : Int) then
        k33 (ByteArray.extract strC1 (Int.toNat p25) (Int.toNat x27))
      else
        none)
     (
      let x29 : Int := IntKind.wrap .i64 (p25 * (2 : Int))
      let x31 : Int := IntKind.wrap .i64 ((IntKind.wrap .i64 (p25 * (2 : Int))) + (2 : Int))
      if 0 ≤ x29 ∧ x29 ≤ x31 ∧ x31 ≤ ((strC2.size : Nat) : Int) then
        k33 (ByteArray.extract strC2 (Int.toNat x29) (Int.toNat x31))
      else
        none) := by kernel_rfl
theorem g86_s {α : Type} (m : Nat) (p229 : Int) (k242 : ByteArray → Option α) : g86 (m + 1) p229 k242 =
    cond (decide (p229 < (10 : Int)))
     (
      k242 (bytesS (List.take 1 (List.drop 0 [(IntKind.wrap .u8 (IntKind.wrap .i64 ((48 : Int) + (Int.tmod p229 (10 : Int)))))]))))
     (
      (g86 m) (IntKind.wrap .i64 (Int.tdiv p229 (10 : Int)))
        (fun s236 =>
        let s240 : ByteArray := bytesS (List.take 1 (List.drop 0 [(IntKind.wrap .u8 (IntKind.wrap .i64 ((48 : Int) + (Int.tmod p229 (10 : Int)))))]))
        if s236.size + s240.size ≤ 9223372036854775807 then
        k242 (s236 ++ s240)
        else
        none)) := by kernel_rfl
theorem g112_o {α : Type} (m : Nat) (p217 : Int) (k246 : ByteArray → Option α) : g112 m p217 k246 =
    cond (decide (p217 < (0 : Int)))
     (
      (g86 m) (IntKind.wrap .i64 (0 - p217))
        (fun s243 =>
        if (⟨#[45]⟩ : ByteArray).size + s243.size ≤ 9223372036854775807 then
        k246 ((⟨#[45]⟩ : ByteArray) ++ s243)
        else
        none))
     (
      (g86 m) p217
        (fun s245 =>
        k246 s245)) := by kernel_rfl
theorem g78_o {α : Type} (m : Nat) (m207 : Nat) (m208 : Nat) (u209 : Ty0) (k273 : ByteArray → Option α) : g78 m m207 m208 u209 k273 =
    (g103 m)
      (fun l211 =>
        if m207 < m208 then
        let x212 : Int := (List.getD u209 m207 []).headD 0
        if 0 ≤ x212 ∧ x212 < (13 : Nat) then
        if (0 + x212.toNat) < 13 then
        let s213 : ByteArray := List.getD l211 (0 + x212.toNat) ⟨#[]⟩
        if m207 < m208 then
        cond (((List.getD u209 m207 []).headD 0) == (1 : Int))
        (
        if m207 < m208 then
        (g112 m) (((List.getD u209 m207 []).tail.tail.tail).headD 0)
        (fun s247 =>
        if (⟨#[32]⟩ : ByteArray).size + s247.size ≤ 9223372036854775807 then
        let s248 : ByteArray := (⟨#[32]⟩ : ByteArray) ++ s247
        if s248.size + (⟨#[32]⟩ : ByteArray).size ≤ 9223372036854775807 then
        let s249 : ByteArray := s248 ++ (⟨#[32]⟩ : ByteArray)
        if m207 < m208 then
        (g86 m) (((List.getD u209 m207 []).tail.tail.tail.tail).headD 0)
        (fun s251 =>
        if s249.size + s251.size ≤ 9223372036854775807 then
        let s252 : ByteArray := s249 ++ s251
        if s213.size + s252.size ≤ 9223372036854775807 then
        k273 (s213 ++ s252)
        else
        none
        else
        none)
        else
        none
        else
        none
        else
        none)
        else
        none)
        (
        if m207 < m208 then
        (g105 m) ((List.getD u209 m207 []).headD 0)
        (fun b255 =>
        cond b255
        (
        if m207 < m208 then
        (g86 m) (IntKind.wrap .i64 (((List.getD u209 m207 []).tail).headD 0))
        (fun s258 =>
        if (⟨#[32]⟩ : ByteArray).size + s258.size ≤ 9223372036854775807 then
        let s259 : ByteArray := (⟨#[32]⟩ : ByteArray) ++ s258
        if s213.size + s259.size ≤ 9223372036854775807 then
        k273 (s213 ++ s259)
        else
        none
        else
        none)
        else
        none)
        (
        if m207 < m208 then
        (g106 m) ((List.getD u209 m207 []).headD 0)
        (fun b262 =>
        cond b262
        (
        if m207 < m208 then
        (g86 m) (IntKind.wrap .i64 (((List.getD u209 m207 []).tail).headD 0))
        (fun s265 =>
        if (⟨#[32]⟩ : ByteArray).size + s265.size ≤ 9223372036854775807 then
        let s266 : ByteArray := (⟨#[32]⟩ : ByteArray) ++ s265
        if s266.size + (⟨#[32]⟩ : ByteArray).size ≤ 9223372036854775807 then
        let s267 : ByteArray := s266 ++ (⟨#[32]⟩ : ByteArray)
        if m207 < m208 then
        (g86 m) (IntKind.wrap .i64 (((List.getD u209 m207 []).tail.tail).headD 0))
        (fun s270 =>
        if s267.size + s270.size ≤ 9223372036854775807 then
        let s271 : ByteArray := s267 ++ s270
        if s213.size + s271.size ≤ 9223372036854775807 then
        k273 (s213 ++ s271)
        else
        none
        else
        none)
        else
        none
        else
        none
        else
        none)
        else
        none)
        (
        k273 s213))
        else
        none))
        else
        none)
        else
        none
        else
        none
        else
        none
        else
        none) := by kernel_rfl
theorem g38l0_s {α : Type} (q : Nat) (m199 : Nat) (m200 : Nat) (m201 : Nat) (m204 : Nat) (a205 : Ty0) (k278 : ByteArray → Option α) (m : Nat) (z202 : ByteArray) (v203 : Int) : g38l0 (g78 q) m199 m200 m201 m204 a205 k278 (m + 1) z202 v203 =
    cond (decide (v203 < ((m200 : Nat) : Int)))
     (
      if 0 ≤ v203 ∧ v203 < (m200 : Nat) then
        (g78 q) (m199 + v203.toNat) m204 a205
        (fun s274 =>
        if s274.size + (⟨#[10]⟩ : ByteArray).size ≤ 9223372036854775807 then
        let s275 : ByteArray := s274 ++ (⟨#[10]⟩ : ByteArray)
        if z202.size + s275.size ≤ 9223372036854775807 then
        (g38l0 (g78 q) m199 m200 m201 m204 a205 k278 m) (z202 ++ s275) (IntKind.wrap .i64 (v203 + (1 : Int)))
        else
        none
        else
        none)
      else
        none)
     (
      k278 z202) := by kernel_rfl
theorem g38_o {α : Type} (m : Nat) (m194 : Nat) (m195 : Nat) (m196 : Nat) (m197 : Nat) (u198 : Ty0) (k281 : ByteArray → Option α) : g38 m m194 m195 m196 m197 u198 k281 =
    g38l0 (g78 m) m194 m195 m196 m197 u198
      (fun s280 =>
        k281 s280)
      m (⟨#[]⟩ : ByteArray) (0 : Int) := by kernel_rfl
theorem g8_o {α : Type} (m : Nat) (m86 : Nat) (m87 : Nat) (m88 : Nat) (m89 : Nat) (u90 : Ty0) (k283 : ByteArray → Option α) : g8 m m86 m87 m88 m89 u90 k283 =
    (g37 m) m86 m87 m88 m89 u90
      (fun b192 =>
        cond (!b192)
        (
        k283 (⟨#[]⟩ : ByteArray))
        (
        (g38 m) m86 m87 m88 m89 u90
        (fun s282 =>
        k283 s282))) := by kernel_rfl
theorem g136_o {α : Type} (m : Nat) (p383 : Int) (k430 : Int → Option α) : g136 m p383 k430 =
    cond (decide (p383 ≥ (4294967296 : Int)))
     (
      let x385 : Int := Int.fdiv p383 (2 ^ 32)
      cond (decide (x385 ≥ (65536 : Int)))
       (
        let x387 : Int := Int.fdiv x385 (2 ^ 16)
        cond (decide (x387 ≥ (256 : Int)))
        (
        let x390 : Int := IntKind.wrap .u8 (Int.fdiv x387 (2 ^ 8))
        if 0 ≤ x390 ∧ x390 < strC0.size then
        k430 (IntKind.wrap .i64 ((56 : Int) + (IntKind.wrap .i64 (byteAt strC0 x390.toNat))))
        else
        none)
        (
        let x394 : Int := IntKind.wrap .u8 x387
        if 0 ≤ x394 ∧ x394 < strC0.size then
        k430 (IntKind.wrap .i64 ((48 : Int) + (IntKind.wrap .i64 (byteAt strC0 x394.toNat))))
        else
        none))
       (
        cond (decide (x385 ≥ (256 : Int)))
        (
        let x400 : Int := IntKind.wrap .u8 (Int.fdiv x385 (2 ^ 8))
        if 0 ≤ x400 ∧ x400 < strC0.size then
        k430 (IntKind.wrap .i64 ((40 : Int) + (IntKind.wrap .i64 (byteAt strC0 x400.toNat))))
        else
        none)
        (
        let x404 : Int := IntKind.wrap .u8 x385
        if 0 ≤ x404 ∧ x404 < strC0.size then
        k430 (IntKind.wrap .i64 ((32 : Int) + (IntKind.wrap .i64 (byteAt strC0 x404.toNat))))
        else
        none)))
     (
      cond (decide (p383 ≥ (65536 : Int)))
       (
        let x409 : Int := Int.fdiv p383 (2 ^ 16)
        cond (decide (x409 ≥ (256 : Int)))
        (
        let x412 : Int := IntKind.wrap .u8 (Int.fdiv x409 (2 ^ 8))
        if 0 ≤ x412 ∧ x412 < strC0.size then
        k430 (IntKind.wrap .i64 ((24 : Int) + (IntKind.wrap .i64 (byteAt strC0 x412.toNat))))
        else
        none)
        (
        let x416 : Int := IntKind.wrap .u8 x409
        if 0 ≤ x416 ∧ x416 < strC0.size then
        k430 (IntKind.wrap .i64 ((16 : Int) + (IntKind.wrap .i64 (byteAt strC0 x416.toNat))))
        else
        none))
       (
        cond (decide (p383 ≥ (256 : Int)))
        (
        let x422 : Int := IntKind.wrap .u8 (Int.fdiv p383 (2 ^ 8))
        if 0 ≤ x422 ∧ x422 < strC0.size then
        k430 (IntKind.wrap .i64 ((8 : Int) + (IntKind.wrap .i64 (byteAt strC0 x422.toNat))))
        else
        none)
        (
        let x426 : Int := IntKind.wrap .u8 p383
        if 0 ≤ x426 ∧ x426 < strC0.size then
        k430 (IntKind.wrap .i64 ((0 : Int) + (IntKind.wrap .i64 (byteAt strC0 x426.toNat))))
        else
        none))) := by kernel_rfl
theorem g135_o {α : Type} (m : Nat) (p432 : Int) (k435 : Int → Option α) : g135 m p432 k435 =
    k435 (Int.fdiv (IntKind.wrap .i64 (p432 * (78913 : Int))) (2 ^ 18)) := by kernel_rfl
theorem g137_o {α : Type} (m : Nat) (q439 : Bool) (k440 : Int → Option α) : g137 m q439 k440 =
    cond q439
     (
      k440 (1 : Int))
     (
      k440 (0 : Int)) := by kernel_rfl
theorem g127_o {α : Type} (m : Nat) (p382 : Int) (k443 : Int → Option α) : g127 m p382 k443 =
    (g136 m) p382
      (fun x431 =>
        (g135 m) x431
        (fun x436 =>
        if 0 ≤ x436 ∧ x436 < (20 : Nat) then
        if x436.toNat < pow10L.length then
        (g137 m) (decide (p382 ≥ (List.getD pow10L (x436.toNat) 0)))
        (fun x441 =>
        k443 (IntKind.wrap .i64 (x436 + x441)))
        else
        none
        else
        none)) := by kernel_rfl
theorem g128l0_s {α : Type} (m452 : Nat) (m453 : Nat) (m454 : Nat) (k501 : Int → Int → (List Int) → Option α) (m : Nat) (v455 : Int) (v456 : Int) (a457 : List Int) : g128l0 m452 m453 m454 k501 (m + 1) v455 v456 a457 =
    cond (decide (v456 ≥ (8 : Int)))
     (
      let x460 : Int := IntKind.wrap .u32 (Int.tmod v455 (100000000 : Int))
      let x462 : Int := IntKind.wrap .u32 (Int.tdiv x460 (10000 : Int))
      let x463 : Int := Int.tmod x460 (10000 : Int)
      let x465 : Int := IntKind.wrap .u32 ((IntKind.wrap .u32 (Int.tdiv x463 (100 : Int))) * (2 : Int))
      let x467 : Int := IntKind.wrap .u32 ((Int.tmod x463 (100 : Int)) * (2 : Int))
      let x469 : Int := IntKind.wrap .u32 ((IntKind.wrap .u32 (Int.tdiv x462 (100 : Int))) * (2 : Int))
      let x471 : Int := IntKind.wrap .u32 ((Int.tmod x462 (100 : Int)) * (2 : Int))
      let x472 : Int := IntKind.wrap .i64 (v456 - (1 : Int))
      let x473 : Int := IntKind.wrap .i64 (v456 - (2 : Int))
      let x474 : Int := IntKind.wrap .u32 (x467 + (1 : Int))
      if 0 ≤ x474 ∧ x474 < strC2.size then
        if 0 ≤ x467 ∧ x467 < strC2.size then
        if 0 ≤ x472 ∧ x472 < (m453 : Nat) then
        if (m452 + x472.toNat) < 24 then
        if 0 ≤ x473 ∧ x473 < (m453 : Nat) then
        if (m452 + x473.toNat) < 24 then
        let x479 : Int := IntKind.wrap .i64 (v456 - (3 : Int))
        let x480 : Int := IntKind.wrap .i64 (v456 - (4 : Int))
        let x481 : Int := IntKind.wrap .u32 (x465 + (1 : Int))
        if 0 ≤ x481 ∧ x481 < strC2.size then
        if 0 ≤ x465 ∧ x465 < strC2.size then
        if 0 ≤ x479 ∧ x479 < (m453 : Nat) then
        if (m452 + x479.toNat) < 24 then
        if 0 ≤ x480 ∧ x480 < (m453 : Nat) then
        if (m452 + x480.toNat) < 24 then
        let x486 : Int := IntKind.wrap .i64 (v456 - (5 : Int))
        let x487 : Int := IntKind.wrap .i64 (v456 - (6 : Int))
        let x488 : Int := IntKind.wrap .u32 (x471 + (1 : Int))
        if 0 ≤ x488 ∧ x488 < strC2.size then
        if 0 ≤ x471 ∧ x471 < strC2.size then
        if 0 ≤ x486 ∧ x486 < (m453 : Nat) then
        if (m452 + x486.toNat) < 24 then
        if 0 ≤ x487 ∧ x487 < (m453 : Nat) then
        if (m452 + x487.toNat) < 24 then
        let x493 : Int := IntKind.wrap .i64 (v456 - (7 : Int))
        let x494 : Int := IntKind.wrap .i64 (v456 - (8 : Int))
        let x495 : Int := IntKind.wrap .u32 (x469 + (1 : Int))
        if 0 ≤ x495 ∧ x495 < strC2.size then
        if 0 ≤ x469 ∧ x469 < strC2.size then
        if 0 ≤ x493 ∧ x493 < (m453 : Nat) then
        if (m452 + x493.toNat) < 24 then
        if 0 ≤ x494 ∧ x494 < (m453 : Nat) then
        if (m452 + x494.toNat) < 24 then
        (g128l0 m452 m453 m454 k501 m) (IntKind.wrap .u64 (Int.tdiv v455 (100000000 : Int))) (IntKind.wrap .i64 (v456 - (8 : Int))) (List.set (List.set (List.set (List.set (List.set (List.set (List.set (List.set a457 (m452 + x472.toNat) (byteAt strC2 x474.toNat)) (m452 + x473.toNat) (byteAt strC2 x467.toNat)) (m452 + x479.toNat) (byteAt strC2 x481.toNat)) (m452 + x480.toNat) (byteAt strC2 x465.toNat)) (m452 + x486.toNat) (byteAt strC2 x488.toNat)) (m452 + x487.toNat) (byteAt strC2 x471.toNat)) (m452 + x493.toNat) (byteAt strC2 x495.toNat)) (m452 + x494.toNat) (byteAt strC2 x469.toNat))
        else
        none
        else
        none
        else
        none
        else
        none
        else
        none
        else
        none
        else
        none
        else
        none
        else
        none
        else
        none
        else
        none
        else
        none
        else
        none
        else
        none
        else
        none
        else
        none
        else
        none
        else
        none
        else
        none
        else
        none
        else
        none
        else
        none
        else
        none
      else
        none)
     (
      k501 v455 v456 a457) := by kernel_rfl
theorem g128_o {α : Type} (m : Nat) (m447 : Nat) (m448 : Nat) (m449 : Nat) (p450 : Int) (u451 : List Int) (k569 : (List Int) → Option α) : g128 m m447 m448 m449 p450 u451 k569 =
    g128l0 m447 m448 m449
      (fun x503 x504 l505 =>
        let x506 : Int := IntKind.wrap .u32 x503
        cond (decide (x504 ≥ (4 : Int)))
        (
        let x508 : Int := Int.tmod x506 (10000 : Int)
        let x509 : Int := IntKind.wrap .u32 (Int.tdiv x506 (10000 : Int))
        let x511 : Int := IntKind.wrap .u32 ((IntKind.wrap .u32 (Int.tdiv x508 (100 : Int))) * (2 : Int))
        let x513 : Int := IntKind.wrap .u32 ((Int.tmod x508 (100 : Int)) * (2 : Int))
        let x514 : Int := IntKind.wrap .i64 (x504 - (1 : Int))
        let x515 : Int := IntKind.wrap .i64 (x504 - (2 : Int))
        let x516 : Int := IntKind.wrap .u32 (x513 + (1 : Int))
        if 0 ≤ x516 ∧ x516 < strC2.size then
        if 0 ≤ x513 ∧ x513 < strC2.size then
        if 0 ≤ x514 ∧ x514 < (m448 : Nat) then
        if (m447 + x514.toNat) < 24 then
        if 0 ≤ x515 ∧ x515 < (m448 : Nat) then
        if (m447 + x515.toNat) < 24 then
        let x521 : Int := IntKind.wrap .i64 (x504 - (3 : Int))
        let x522 : Int := IntKind.wrap .i64 (x504 - (4 : Int))
        let x523 : Int := IntKind.wrap .u32 (x511 + (1 : Int))
        if 0 ≤ x523 ∧ x523 < strC2.size then
        if 0 ≤ x511 ∧ x511 < strC2.size then
        if 0 ≤ x521 ∧ x521 < (m448 : Nat) then
        if (m447 + x521.toNat) < 24 then
        if 0 ≤ x522 ∧ x522 < (m448 : Nat) then
        if (m447 + x522.toNat) < 24 then
        let l527 : List Int := List.set (List.set (List.set (List.set l505 (m447 + x514.toNat) (byteAt strC2 x516.toNat)) (m447 + x515.toNat) (byteAt strC2 x513.toNat)) (m447 + x521.toNat) (byteAt strC2 x523.toNat)) (m447 + x522.toNat) (byteAt strC2 x511.toNat)
        let x528 : Int := IntKind.wrap .i64 (x504 - (4 : Int))
        cond (decide (x528 ≥ (2 : Int)))
        (
        let x531 : Int := IntKind.wrap .u32 ((Int.tmod x509 (100 : Int)) * (2 : Int))
        let x533 : Int := IntKind.wrap .i64 (x528 - (1 : Int))
        let x534 : Int := IntKind.wrap .i64 (x528 - (2 : Int))
        let x535 : Int := IntKind.wrap .u32 (x531 + (1 : Int))
        if 0 ≤ x535 ∧ x535 < strC2.size then
        if 0 ≤ x531 ∧ x531 < strC2.size then
        if 0 ≤ x533 ∧ x533 < (m448 : Nat) then
        if (m447 + x533.toNat) < 24 then
        if 0 ≤ x534 ∧ x534 < (m448 : Nat) then
        if (m447 + x534.toNat) < 24 then
        let l539 : List Int := List.set (List.set l527 (m447 + x533.toNat) (byteAt strC2 x535.toNat)) (m447 + x534.toNat) (byteAt strC2 x531.toNat)
        cond (decide ((IntKind.wrap .i64 (x528 - (2 : Int))) > (0 : Int)))
        (
        if 0 ≤ (0 : Int) ∧ (0 : Int) < (m448 : Nat) then
        if (m447 + 0) < 24 then
        k569 (List.set l539 (m447 + 0) (IntKind.wrap .u8 (IntKind.wrap .u32 ((48 : Int) + (IntKind.wrap .u32 (Int.tdiv x509 (100 : Int)))))))
        else
        none
        else
        none)
        (
        k569 l539)
        else
        none
        else
        none
        else
        none
        else
        none
        else
        none
        else
        none)
        (
        cond (decide (x528 > (0 : Int)))
        (
        if 0 ≤ (0 : Int) ∧ (0 : Int) < (m448 : Nat) then
        if (m447 + 0) < 24 then
        k569 (List.set l527 (m447 + 0) (IntKind.wrap .u8 (IntKind.wrap .u32 ((48 : Int) + x509))))
        else
        none
        else
        none)
        (
        k569 l527))
        else
        none
        else
        none
        else
        none
        else
        none
        else
        none
        else
        none
        else
        none
        else
        none
        else
        none
        else
        none
        else
        none
        else
        none)
        (
        cond (decide (x504 ≥ (2 : Int)))
        (
        let x551 : Int := IntKind.wrap .u32 ((Int.tmod x506 (100 : Int)) * (2 : Int))
        let x553 : Int := IntKind.wrap .i64 (x504 - (1 : Int))
        let x554 : Int := IntKind.wrap .i64 (x504 - (2 : Int))
        let x555 : Int := IntKind.wrap .u32 (x551 + (1 : Int))
        if 0 ≤ x555 ∧ x555 < strC2.size then
        if 0 ≤ x551 ∧ x551 < strC2.size then
        if 0 ≤ x553 ∧ x553 < (m448 : Nat) then
        if (m447 + x553.toNat) < 24 then
        if 0 ≤ x554 ∧ x554 < (m448 : Nat) then
        if (m447 + x554.toNat) < 24 then
        let l559 : List Int := List.set (List.set l505 (m447 + x553.toNat) (byteAt strC2 x555.toNat)) (m447 + x554.toNat) (byteAt strC2 x551.toNat)
        cond (decide ((IntKind.wrap .i64 (x504 - (2 : Int))) > (0 : Int)))
        (
        if 0 ≤ (0 : Int) ∧ (0 : Int) < (m448 : Nat) then
        if (m447 + 0) < 24 then
        k569 (List.set l559 (m447 + 0) (IntKind.wrap .u8 (IntKind.wrap .u32 ((48 : Int) + (IntKind.wrap .u32 (Int.tdiv x506 (100 : Int)))))))
        else
        none
        else
        none)
        (
        k569 l559)
        else
        none
        else
        none
        else
        none
        else
        none
        else
        none
        else
        none)
        (
        cond (decide (x504 > (0 : Int)))
        (
        if 0 ≤ (0 : Int) ∧ (0 : Int) < (m448 : Nat) then
        if (m447 + 0) < 24 then
        k569 (List.set l505 (m447 + 0) (IntKind.wrap .u8 (IntKind.wrap .u32 ((48 : Int) + x506))))
        else
        none
        else
        none)
        (
        k569 l505))))
      m p450 ((m448 : Nat) : Int) u451 := by kernel_rfl
theorem g114_o {α : Type} (m : Nat) (p373 : Int) (p374 : Int) (k620 : ByteArray → Option α) : g114 m p373 p374 k620 =
    cond (p374 == (10 : Int))
     (
      cond (decide ((0 : Int) ≤ p373))
       (
        cond (decide (p373 < (100 : Int)))
        (
        (g126 m) p373
        (fun s378 =>
        k620 s378))
        (
        let x379 : Int := IntKind.wrap .u64 p373
        cond (decide (p373 < (0 : Int)))
        (
        let x381 : Int := IntKind.wrap .u64 (0 - x379)
        (g127 m) x381
        (fun x444 =>
        let x445 : Int := IntKind.wrap .i64 ((1 : Int) + x444)
        if 0 ≤ (1 : Int) ∧ (1 : Int) ≤ x445 ∧ x445 ≤ ((24 : Nat) : Int) then
        (g128 m) 1 ((Int.toNat x445) - 1) 23 x381 (List.replicate 24 0)
        (fun l570 =>
        cond (decide (p373 < (0 : Int)))
        (
        let x573 : Int := IntKind.wrap .i64 ((1 : Int) + x444)
        if 0 ≤ (0 : Int) ∧ (0 : Int) ≤ x573 ∧ x573 ≤ ((24 : Nat) : Int) then
        let n574 : Nat := (Int.toNat x573) - 0
        if 0 + n574 ≤ 24 then
        k620 (bytesS (List.take n574 (List.drop 0 (List.set l570 0 (45 : Int)))))
        else
        none
        else
        none)
        (
        let x576 : Int := IntKind.wrap .i64 ((1 : Int) + x444)
        if 0 ≤ (1 : Int) ∧ (1 : Int) ≤ x576 ∧ x576 ≤ ((24 : Nat) : Int) then
        let n577 : Nat := (Int.toNat x576) - 1
        if 1 + n577 ≤ 24 then
        k620 (bytesS (List.take n577 (List.drop 1 l570)))
        else
        none
        else
        none))
        else
        none))
        (
        (g127 m) x379
        (fun x579 =>
        let x580 : Int := IntKind.wrap .i64 ((1 : Int) + x579)
        if 0 ≤ (1 : Int) ∧ (1 : Int) ≤ x580 ∧ x580 ≤ ((24 : Nat) : Int) then
        (g128 m) 1 ((Int.toNat x580) - 1) 23 x379 (List.replicate 24 0)
        (fun l582 =>
        cond (decide (p373 < (0 : Int)))
        (
        let x585 : Int := IntKind.wrap .i64 ((1 : Int) + x579)
        if 0 ≤ (0 : Int) ∧ (0 : Int) ≤ x585 ∧ x585 ≤ ((24 : Nat) : Int) then
        let n586 : Nat := (Int.toNat x585) - 0
        if 0 + n586 ≤ 24 then
        k620 (bytesS (List.take n586 (List.drop 0 (List.set l582 0 (45 : Int)))))
        else
        none
        else
        none)
        (
        let x588 : Int := IntKind.wrap .i64 ((1 : Int) + x579)
        if 0 ≤ (1 : Int) ∧ (1 : Int) ≤ x588 ∧ x588 ≤ ((24 : Nat) : Int) then
        let n589 : Nat := (Int.toNat x588) - 1
        if 1 + n589 ≤ 24 then
        k620 (bytesS (List.take n589 (List.drop 1 l582)))
        else
        none
        else
        none))
        else
        none))))
       (
        let x591 : Int := IntKind.wrap .u64 p373
        cond (decide (p373 < (0 : Int)))
        (
        let x593 : Int := IntKind.wrap .u64 (0 - x591)
        (g127 m) x593
        (fun x594 =>
        let x595 : Int := IntKind.wrap .i64 ((1 : Int) + x594)
        if 0 ≤ (1 : Int) ∧ (1 : Int) ≤ x595 ∧ x595 ≤ ((24 : Nat) : Int) then
        (g128 m) 1 ((Int.toNat x595) - 1) 23 x593 (List.replicate 24 0)
        (fun l597 =>
        cond (decide (p373 < (0 : Int)))
        (
        let x600 : Int := IntKind.wrap .i64 ((1 : Int) + x594)
        if 0 ≤ (0 : Int) ∧ (0 : Int) ≤ x600 ∧ x600 ≤ ((24 : Nat) : Int) then
        let n601 : Nat := (Int.toNat x600) - 0
        if 0 + n601 ≤ 24 then
        k620 (bytesS (List.take n601 (List.drop 0 (List.set l597 0 (45 : Int)))))
        else
        none
        else
        none)
        (
        let x603 : Int := IntKind.wrap .i64 ((1 : Int) + x594)
        if 0 ≤ (1 : Int) ∧ (1 : Int) ≤ x603 ∧ x603 ≤ ((24 : Nat) : Int) then
        let n604 : Nat := (Int.toNat x603) - 1
        if 1 + n604 ≤ 24 then
        k620 (bytesS (List.take n604 (List.drop 1 l597)))
        else
        none
        else
        none))
        else
        none))
        (
        (g127 m) x591
        (fun x606 =>
        let x607 : Int := IntKind.wrap .i64 ((1 : Int) + x606)
        if 0 ≤ (1 : Int) ∧ (1 : Int) ≤ x607 ∧ x607 ≤ ((24 : Nat) : Int) then
        (g128 m) 1 ((Int.toNat x607) - 1) 23 x591 (List.replicate 24 0)
        (fun l609 =>
        cond (decide (p373 < (0 : Int)))
        (
        let x612 : Int := IntKind.wrap .i64 ((1 : Int) + x606)
        if 0 ≤ (0 : Int) ∧ (0 : Int) ≤ x612 ∧ x612 ≤ ((24 : Nat) : Int) then
        let n613 : Nat := (Int.toNat x612) - 0
        if 0 + n613 ≤ 24 then
        k620 (bytesS (List.take n613 (List.drop 0 (List.set l609 0 (45 : Int)))))
        else
        none
        else
        none)
        (
        let x615 : Int := IntKind.wrap .i64 ((1 : Int) + x606)
        if 0 ≤ (1 : Int) ∧ (1 : Int) ≤ x615 ∧ x615 ≤ ((24 : Nat) : Int) then
        let n616 : Nat := (Int.toNat x615) - 1
        if 1 + n616 ≤ 24 then
        k620 (bytesS (List.take n616 (List.drop 1 l609)))
        else
        none
        else
        none))
        else
        none))))
     (
      none) := by kernel_rfl
theorem g83_o {α : Type} (m : Nat) (p371 : Int) (p372 : Int) (k622 : ByteArray → Option α) : g83 m p371 p372 k622 =
    (g114 m) p371 p372
      (fun s621 =>
        k622 s621) := by kernel_rfl
theorem g42_o {α : Type} (m : Nat) (p358 : Int) (p359 : Int) (p360 : Int) (z361 : ByteArray) (z362 : ByteArray) (k634 : ByteArray → Option α) : g42 m p358 p359 p360 z361 z362 k634 =
    (g74 m) p358
      (fun b363 b364 b365 =>
        (g82 m) p358
        (fun s369 =>
        cond b365
        (
        if s369.size + (⟨#[32]⟩ : ByteArray).size ≤ 9223372036854775807 then
        let s370 : ByteArray := s369 ++ (⟨#[32]⟩ : ByteArray)
        (g83 m) p359 (10 : Int)
        (fun s623 =>
        if s370.size + s623.size ≤ 9223372036854775807 then
        let s624 : ByteArray := s370 ++ s623
        if s624.size + (⟨#[32]⟩ : ByteArray).size ≤ 9223372036854775807 then
        let s625 : ByteArray := s624 ++ (⟨#[32]⟩ : ByteArray)
        (g83 m) p360 (10 : Int)
        (fun s626 =>
        if s625.size + s626.size ≤ 9223372036854775807 then
        k634 (s625 ++ s626)
        else
        none)
        else
        none
        else
        none)
        else
        none)
        (
        cond b363
        (
        if (⟨#[32]⟩ : ByteArray).size + z361.size ≤ 9223372036854775807 then
        let s628 : ByteArray := (⟨#[32]⟩ : ByteArray) ++ z361
        if s369.size + s628.size ≤ 9223372036854775807 then
        let s629 : ByteArray := s369 ++ s628
        cond b364
        (
        if (⟨#[32]⟩ : ByteArray).size + z362.size ≤ 9223372036854775807 then
        let s630 : ByteArray := (⟨#[32]⟩ : ByteArray) ++ z362
        if s629.size + s630.size ≤ 9223372036854775807 then
        k634 (s629 ++ s630)
        else
        none
        else
        none)
        (
        k634 s629)
        else
        none
        else
        none)
        (
        cond b364
        (
        if (⟨#[32]⟩ : ByteArray).size + z362.size ≤ 9223372036854775807 then
        let s632 : ByteArray := (⟨#[32]⟩ : ByteArray) ++ z362
        if s369.size + s632.size ≤ 9223372036854775807 then
        k634 (s369 ++ s632)
        else
        none
        else
        none)
        (
        k634 s369))))) := by kernel_rfl
theorem g84_o {α : Type} (m : Nat) (p636 : Int) (k638 : ByteArray → Option α) : g84 m p636 k638 =
    (g114 m) p636 (10 : Int)
      (fun s637 =>
        k638 s637) := by kernel_rfl
theorem g43_o {α : Type} (m : Nat) (p635 : Int) (k640 : ByteArray → Option α) : g43 m p635 k640 =
    (g84 m) p635
      (fun s639 =>
        k640 s639) := by kernel_rfl
theorem g45_o {α : Type} (m : Nat) (p683 : Int) (p684 : Int) (p685 : Int) (p686 : Int) (p687 : Int) (p688 : Int) (p689 : Int) (p690 : Int) (p691 : Int) (p692 : Int) (k698 : Bool → Option α) : g45 m p683 p684 p685 p686 p687 p688 p689 p690 p691 p692 k698 =
    cond (p683 != p688)
     (
      k698 false)
     (
      cond (p684 != p689)
       (
        k698 false)
       (
        cond (p685 != p690)
        (
        k698 false)
        (
        cond (p686 != p691)
        (
        k698 false)
        (
        cond (p687 != p692)
        (
        k698 false)
        (
        k698 true))))) := by kernel_rfl
theorem g11l0_s {α : Type} (q : Nat) (m661 : Nat) (m662 : Nat) (m663 : Nat) (m664 : Nat) (m665 : Nat) (m666 : Nat) (m668 : Nat) (a669 : Ty0) (m670 : Nat) (a671 : Ty0) (k702 : Option α) (k703 : Option α) (m : Nat) (v667 : Int) : g11l0 (g45 q) m661 m662 m663 m664 m665 m666 m668 a669 m670 a671 k702 k703 (m + 1) v667 =
    cond (decide (v667 < ((m662 : Nat) : Int)))
     (
      if 0 ≤ v667 ∧ v667 < (m662 : Nat) then
        if (m661 + v667.toNat) < m668 then
        if 0 ≤ v667 ∧ v667 < (m665 : Nat) then
        if (m664 + v667.toNat) < m670 then
        (g45 q) ((List.getD a669 (m661 + v667.toNat) []).headD 0) ((List.getD a669 (m661 + v667.toNat) []).tail.headD 0) ((List.getD a669 (m661 + v667.toNat) []).tail.tail.headD 0) ((List.getD a669 (m661 + v667.toNat) []).tail.tail.tail.headD 0) ((List.getD a669 (m661 + v667.toNat) []).tail.tail.tail.tail.headD 0) ((List.getD a671 (m664 + v667.toNat) []).headD 0) ((List.getD a671 (m664 + v667.toNat) []).tail.headD 0) ((List.getD a671 (m664 + v667.toNat) []).tail.tail.headD 0) ((List.getD a671 (m664 + v667.toNat) []).tail.tail.tail.headD 0) ((List.getD a671 (m664 + v667.toNat) []).tail.tail.tail.tail.headD 0)
        (fun b699 =>
        cond (!b699)
        (
        k702)
        (
        (g11l0 (g45 q) m661 m662 m663 m664 m665 m666 m668 a669 m670 a671 k702 k703 m) (IntKind.wrap .i64 (v667 + (1 : Int)))))
        else
        none
        else
        none
        else
        none
      else
        none)
     (
      k703) := by kernel_rfl
theorem g11_o {α : Type} (m : Nat) (m650 : Nat) (m651 : Nat) (m652 : Nat) (m653 : Nat) (m654 : Nat) (m655 : Nat) (m656 : Nat) (u657 : Ty0) (m658 : Nat) (u659 : Ty0) (k705 : Bool → Option α) : g11 m m650 m651 m652 m653 m654 m655 m656 u657 m658 u659 k705 =
    cond (((m651 : Nat) : Int) != ((m654 : Nat) : Int))
     (
      k705 false)
     (
      g11l0 (g45 m) m650 m651 m652 m653 m654 m655 m656 u657 m658 u659
        (
        k705 false)
        (
        k705 true)
        m (0 : Int)) := by kernel_rfl
theorem g3_o {α : Type} (m : Nat) (m34 : Nat) (m35 : Nat) (m36 : Nat) (m37 : Nat) (u38 : Ty0) (k708 : Bool → Option α) : g3 m m34 m35 m36 m37 u38 k708 =
    (g7 m) m34 m35 m36 (1048576 : Int) m37 u38
      (fun x48 =>
        cond (decide (x48 < (0 : Int)))
        (
        k708 true)
        (
        (g9 m) m34 m35 m36 m37 u38
        (fun l85 =>
        (g8 m) 0 m35 m35 m35 l85
        (fun s284 =>
        (g9 m) m34 m35 m36 m37 u38
        (fun l285 =>
        (g10 m) 0 m35 m35 m35 l285
        (fun s647 =>
        cond (!bytesEq s647 s284)
        (
        k708 false)
        (
        (g9 m) m34 m35 m36 m37 u38
        (fun l649 =>
        (g11 m) 0 m35 m35 0 m35 m35 m35 l285 m35 l649
        (fun b706 =>
        cond (!b706)
        (
        k708 false)
        (
        k708 true)))))))))) := by kernel_rfl
end Go.Proofs.YtlmmgjngihlpeaaDoor.Sx
