/-
  The law HeapWrites.
-/
import Derived.Test.YtcecegcbkcdpjaaHeapS
namespace Go.Proofs.Ytcecegcbkcdpjaa
open Go.RowKit
set_option linter.unusedVariables false
set_option maxHeartbeats 8000000

theorem owns_ne {w : World} {base : Nat} {e : TypeId} {size : Nat} {a : Option Addr} {m n c : Nat} {xs : List Value} (h : w.ownsRow base e size (.slice a m c) n xs) {g : Nat} {t : TypeId} {ys : List Value} (hg : Row w g t ys) (hne : e ≠ t) : ∀ x, a = some x → x.block ≠ g := by
  intro x hx
  subst hx
  obtain ⟨_, ys', hy⟩ := owns_row h x.block rfl
  exact typ_ne hy hg hne
theorem HX.data {w : World} {B h g : Nat} {S : HpS} (H : HX w B h g S) : Row w g 56 (S.ws.map (Value.int .u16)) := by
  obtain ⟨vb, H⟩ := H; exact H.data

/-! ### Two blocks of a heap of 1000 -/
theorem good_one (A : Nat) (h : A ≤ 1000) : Good (allocS (newH 1000) 0 A) := by
  have hu : ∀ k ∈ usedL (allocS (newH 1000) 0 A), k = 0 := fun k hk => by
    have : k ∈ [0] := hk
    simpa using this
  refine ⟨⟨?_, ?_, ?_⟩, (show 1 ≤ 19 by decide), ?_⟩
  · intro k hk
    rw [hu k hk]; show 0 < 1; decide
  · intro k hk
    rw [hu k hk]; show 0 ≤ 32768; decide
  · intro t ht
    have : (usedL (allocS (newH 1000) 0 A)).length = 1 := rfl
    omega
  · intro k hk
    rw [hu k hk]; show 0 + A ≤ 1000; omega
theorem gapS_eq {S : HpS} {g : List (Nat × Nat)} {e k p n : Nat} (h1 : atOf S k = p) (h2 : nOf S k = n) : gapS S (g, e) k = if 0 < n then (if e < p then g ++ [(e, p - e)] else g, p + n) else (g, e) := by
  subst h1; subst h2; rfl
theorem gapsOf_eq {S : HpS} {L : List Nat} {g : List (Nat × Nat)} {e : Nat} (h : gapsTo S L = (g, e)) : gapsOf S L = if e < S.N then g ++ [(e, S.N - e)] else g := by
  unfold gapsOf; rw [h]
theorem placeI_first {s c m : Nat} {gs : List (Nat × Nat)} (h : m ≤ c) (hm : 0 < m) : placeI ((s, c) :: gs) m = (s : Nat) := by
  unfold placeI
  rw [if_neg (by omega), List.find?_cons_of_pos (by simpa using h)]
theorem placeI_not {s c m : Nat} {gs : List (Nat × Nat)} (h : ¬ m ≤ c) (hm : 0 < m) : placeI ((s, c) :: gs) m = placeI gs m := by
  unfold placeI
  rw [if_neg (by omega), if_neg (by omega), List.find?_cons_of_neg (by simpa using h)]
theorem gaps_two (A m : Nat) (h : A + m ≤ 1000) (hm : 0 < m) : placeI (gapsOf (allocS (newH 1000) 0 A) (usedL (allocS (newH 1000) 0 A))) m = (A : Nat) := by
  have h1 : usedL (allocS (newH 1000) 0 A) = [0] := rfl
  have h2 : gapsTo (allocS (newH 1000) 0 A) [0] = ([], A) := by
    show gapS _ ([], 0) 0 = _
    rw [gapS_eq (p := 0) (n := A) rfl rfl]
    by_cases h0 : 0 < A
    · rw [if_pos h0, if_neg (by omega), Nat.zero_add]
    · rw [if_neg h0, show A = 0 by omega]
  rw [h1, gapsOf_eq h2]
  show placeI (if A < 1000 then [(A, 1000 - A)] else []) m = _
  rw [if_pos (by omega)]
  exact placeI_first (by omega) hm

def twoS (A m : Nat) : HpS := allocS (allocS (newH 1000) 0 A) A m
theorem splice_zeros (N p n : Nat) (h : p + n ≤ N) : splice (List.replicate N (0 : Int)) p (List.replicate n 0) = List.replicate N 0 := by
  unfold splice
  simp only [List.take_replicate, List.length_replicate, List.drop_replicate, List.replicate_append_replicate]
  congr 1; omega
theorem twoS_ws (A m : Nat) (h : A + m ≤ 1000) : (twoS A m).ws = List.replicate 1000 0 := by
  show splice (splice (List.replicate 1000 0) 0 (List.replicate A 0)) A (List.replicate m 0) = _
  rw [splice_zeros _ _ _ (by omega), splice_zeros _ _ _ h]
theorem twoS_bl (A m : Nat) : (twoS A m).bl = [⟨0, A, true⟩, ⟨A, m, true⟩] := rfl
/-- What is read behind both are written. -/
theorem two_ws (l0 l1 : List Int) (k : Nat) (hk : k ≤ 3) (h : l0.length + l1.length + 3 ≤ 1000) :
    (wsS (wsS (twoS l0.length (l1.length + 3)) (0 + 0) l0) (l0.length + k) l1).ws = l0 ++ (List.replicate k 0 ++ l1 ++ List.replicate (3 - k) 0) ++ List.replicate (997 - l0.length - l1.length) 0 := by
  show splice (splice (twoS _ _).ws 0 l0) (l0.length + k) l1 = _
  rw [twoS_ws _ _ (by omega)]
  have e1 : splice (List.replicate 1000 (0 : Int)) 0 l0 = l0 ++ List.replicate (1000 - l0.length) 0 := by
    unfold splice
    rw [List.take_zero, List.nil_append, Nat.zero_add, List.drop_replicate]
  rw [e1]
  unfold splice
  rw [List.take_append, List.take_of_length_le (by omega), List.take_replicate, List.drop_append, List.drop_of_length_le (by omega), List.drop_replicate, List.nil_append]
  rw [show min (l0.length + k - l0.length) (1000 - l0.length) = k by omega]
  rw [show 1000 - l0.length - (l0.length + k + l1.length - l0.length) = (3 - k) + (997 - l0.length - l1.length) by omega, ← List.replicate_append_replicate]
  simp only [List.append_assoc]

end Go.Proofs.Ytcecegcbkcdpjaa
