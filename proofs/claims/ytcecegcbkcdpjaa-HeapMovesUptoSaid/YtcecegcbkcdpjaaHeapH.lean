/-
  Contracts of package heap: gaps (under way).
-/
import Derived.Test.YtcecegcbkcdpjaaHeapG
namespace Go.Proofs.Ytcecegcbkcdpjaa
open Go.RowKit
set_option linter.unusedVariables false
set_option maxHeartbeats 4000000

def nOf (S : HpS) (k : Nat) : Nat := ((S.bl[k]?).map Blk.n).getD 0
/-- One block more: what is free ahead of it, and where it ends. -/
def gapS (S : HpS) (a : List (Nat × Nat) × Nat) (k : Nat) : List (Nat × Nat) × Nat :=
  if 0 < nOf S k then (if a.2 < atOf S k then a.1 ++ [(a.2, atOf S k - a.2)] else a.1, atOf S k + nOf S k) else a
def gapsTo (S : HpS) (l : List Nat) : List (Nat × Nat) × Nat := l.foldl (gapS S) ([], 0)
def gapsOf (S : HpS) (l : List Nat) : List (Nat × Nat) := if (gapsTo S l).2 < S.N then (gapsTo S l).1 ++ [((gapsTo S l).2, S.N - (gapsTo S l).2)] else (gapsTo S l).1
theorem gapsTo_step (S : HpS) {l : List Nat} {j : Nat} (h : j < l.length) : gapsTo S (l.take (j + 1)) = gapS S (gapsTo S (l.take j)) l[j] := by
  unfold gapsTo
  rw [List.take_add_one, List.getElem?_eq_getElem h, Option.toList_some, List.foldl_append]
  rfl
def flat2 (gs : List (Nat × Nat)) : List Value := gs.flatMap (fun p => [.int .i64 (p.1 : Nat), .int .i64 (p.2 : Nat)])
theorem flat2_app (xs ys : List (Nat × Nat)) : flat2 (xs ++ ys) = flat2 xs ++ flat2 ys := by simp [flat2]
theorem inf_two : (Try.prog.info? 43).map (fun i => (i.zero, i.size, i.bytes)) = some (some (.agg #[.int .i64 0, .int .i64 0]), 2, 16) := by kernel_rfl
theorem gapS_len (S : HpS) (a : List (Nat × Nat) × Nat) (k : Nat) : (gapS S a k).1.length ≤ a.1.length + 1 := by
  unfold gapS
  split
  · split <;> simp
  · omega
theorem gapsTo_len (S : HpS) (l : List Nat) : ∀ j, j ≤ l.length → (gapsTo S (l.take j)).1.length ≤ j
  | 0, _ => by simp [gapsTo]
  | j + 1, h => by
    rw [gapsTo_step S (by omega)]
    have h1 := gapsTo_len S l j (by omega)
    have h2 := gapS_len S (gapsTo S (l.take j)) (l[j]'(by omega))
    omega
theorem gapS_end {S : HpS} {a : List (Nat × Nat) × Nat} {k : Nat} (h : atOf S k + nOf S k ≤ S.N) (ha : a.2 ≤ S.N) : (gapS S a k).2 ≤ S.N := by
  unfold gapS
  split
  · exact h
  · exact ha
theorem gapsTo_end {S : HpS} {l : List Nat} (h : ∀ k ∈ l, atOf S k + nOf S k ≤ S.N) : ∀ j, j ≤ l.length → (gapsTo S (l.take j)).2 ≤ S.N
  | 0, _ => by simp [gapsTo]
  | j + 1, hj => by
    rw [gapsTo_step S (by omega)]
    exact gapS_end (h _ (List.getElem_mem _)) (gapsTo_end h j (by omega))

end Go.Proofs.Ytcecegcbkcdpjaa
