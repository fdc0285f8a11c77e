/-
  The law HeapFills: what is reckoned, for each of the 81 sizes.
-/
import Derived.Test.YtcecegcbkcdpjaaHeapU
namespace Go.Proofs.Ytcecegcbkcdpjaa
open Go.RowKit
set_option linter.unusedVariables false
set_option maxHeartbeats 8000000

def fillS (s k : Nat) : Nat → HpS
  | 0 => newH (s * k)
  | j + 1 => allocS (fillS s k j) (j * s) s
def halfS (s k : Nat) : Nat → HpS
  | 0 => fillS s k k
  | j + 1 => freeS (halfS s k j) (2 * j)
def usedAt (S : HpS) (j : Nat) : Bool := ((S.bl[j]?).map Blk.used).getD false
/-- Of a size and a number, all that the law tells. -/
def fills1 (s k : Nat) : Bool := (List.range k).all fun j =>
  goodB (fillS s k j) && decide (placeI (gapsOf (fillS s k j) (usedL (fillS s k j))) s = ((j * s : Nat) : Int)) && decide (freeIx (fillS s k j) = j) && usedAt (fillS s k (j + 1)) j && decide (atOf (fillS s k (j + 1)) j = j * s) && decide ((fillS s k j).bl.length < 1000000)
def fills2 (s k : Nat) : Bool := goodB (fillS s k k) && decide (placeI (gapsOf (fillS s k k) (usedL (fillS s k k))) 1 = -1) && decide ((fillS s k k).bl.length < 1000000) &&
  (List.range ((k + 1) / 2)).all fun j => usedAt (halfS s k j) (2 * j)
def halfE (s k : Nat) : HpS := halfS s k ((k + 1) / 2)
def fills3 (s k : Nat) : Bool := goodB (halfE s k) && decide (allOf (gapsOf (halfE s k) (usedL (halfE s k))) = (k + 1) / 2 * s) && decide (mostOf (gapsOf (halfE s k) (usedL (halfE s k))) = s) &&
  decide (placeI (gapsOf (halfE s k) (usedL (halfE s k))) (s + 1) = -1) && compB (halfE s k) (usedL (halfE s k)) && decide ((halfE s k).bl.length < 1000000)
def compE (s k : Nat) : HpS := (compTo (halfE s k) (usedL (halfE s k))).1
def fills4 (s k : Nat) : Bool := goodB (compE s k) && decide (allOf (gapsOf (compE s k) (usedL (compE s k))) = (k + 1) / 2 * s) && decide (mostOf (gapsOf (compE s k) (usedL (compE s k))) = (k + 1) / 2 * s) &&
  decide (0 ≤ placeI (gapsOf (compE s k) (usedL (compE s k))) ((k + 1) / 2 * s)) && decide ((compE s k).bl.length < 1000000)
theorem fills1_all : ∀ s, s < 9 → ∀ k, k < 9 → fills1 (s + 1) (k + 2) = true := by decide +kernel
theorem fills2_all : ∀ s, s < 9 → ∀ k, k < 9 → fills2 (s + 1) (k + 2) = true := by decide +kernel
theorem fills3_all : ∀ s, s < 9 → ∀ k, k < 9 → fills3 (s + 1) (k + 2) = true := by decide +kernel
theorem fills4_all : ∀ s, s < 9 → ∀ k, k < 9 → fills4 (s + 1) (k + 2) = true := by decide +kernel

end Go.Proofs.Ytcecegcbkcdpjaa
