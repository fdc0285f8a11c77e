/-
  Contracts of package bits: Runs.
-/
import Derived.Test.YtpbokmmobepolaaBits3
namespace Go.Proofs.Ytpbokmmobepolaa
open Go.RowKit
set_option linter.unusedVariables false
set_option maxHeartbeats 1000000

/-- The runs among the first i, the last one first. -/
def runsR (b : Nat → Bool) : Nat → List (Nat × Nat)
  | 0 => []
  | i + 1 => if b i then (match runsR b i with | (s, c) :: r => if s + c = i then (s, c + 1) :: r else (i, 1) :: (s, c) :: r | [] => [(i, 1)]) else runsR b i

def flatR : List (Nat × Nat) → List Int
  | [] => []
  | (s, c) :: r => flatR r ++ [(s : Int), (c : Int)]
theorem flatR_len : ∀ r, (flatR r).length = 2 * r.length
  | [] => rfl
  | (s, c) :: r => by rw [flatR, List.length_append, flatR_len r]; simp; omega
theorem flatR_s (s c : Nat) (r : List (Nat × Nat)) : (flatR ((s, c) :: r)).getD (2 * r.length) 0 = (s : Int) := by
  rw [flatR, List.getD_eq_getElem?_getD, List.getElem?_append_right (by rw [flatR_len]; omega), flatR_len, Nat.sub_self]; rfl
theorem flatR_c (s c : Nat) (r : List (Nat × Nat)) : (flatR ((s, c) :: r)).getD (2 * r.length + 1) 0 = (c : Int) := by
  rw [flatR, List.getD_eq_getElem?_getD, List.getElem?_append_right (by rw [flatR_len]; omega), flatR_len, show 2 * r.length + 1 - 2 * r.length = 1 from by omega]; rfl
theorem flatR_next (s c : Nat) (r : List (Nat × Nat)) : flatR ((s, c + 1) :: r) = (flatR ((s, c) :: r)).set (2 * r.length + 1) ((c : Int) + 1) := by
  rw [flatR, flatR, List.set_append, if_neg (by rw [flatR_len]; omega), flatR_len, show 2 * r.length + 1 - 2 * r.length = 1 from by omega]; simp

theorem runsR_len (b : Nat → Bool) : ∀ i, (runsR b i).length ≤ i
  | 0 => Nat.le_refl _
  | i + 1 => by
    have ih := runsR_len b i
    rw [runsR]
    split
    · split
      · rename_i s c r he
        rw [he] at ih
        split <;> simp at ih ⊢ <;> omega
      · simp
    · omega
theorem runsR_in (b : Nat → Bool) : ∀ i s c, (s, c) ∈ runsR b i → s + c ≤ i ∧ 1 ≤ c
  | 0, s, c, h => by simp [runsR] at h
  | i + 1, s, c, h => by
    have ih := runsR_in b i
    rw [runsR] at h
    split at h
    · split at h
      · rename_i s' c' r he
        rw [he] at ih
        have h0 := ih s' c' (by simp)
        split at h
        · rcases List.mem_cons.1 h with h | h
          · cases h; omega
          · have := ih s c (by simp [h]); omega
        · rcases List.mem_cons.1 h with h | h
          · cases h; omega
          · have := ih s c h; omega
      · simp at h; omega
    · have := ih s c h; omega

/-- A row that the call owns, whole; of elements of whatever size. -/
theorem owns_block {w : World} {base : Nat} {e : TypeId} {size : Nat} {v : Value} {n : Nat} {xs : List Value} (h : w.ownsRow base e size v n xs) (hn : 0 < n) :
    ∃ g c cur, v = .slice (some ⟨g, 0, none⟩) n c ∧ base ≤ g ∧ Row w g e cur ∧ cur.take (n * size) = xs ∧ n ≤ c ∧ c ≤ maxLen ∧ cur.length = c * size := by
  rcases h.2 with ⟨_, rfl⟩ | ⟨g, cap, cur, rfl, hb, hg, hnc, hm, hs, ht⟩
  · omega
  · exact ⟨g, cap, cur.toList, rfl, hb, by unfold Row; simpa using hg, by simpa using ht, hnc, hm, by simpa using hs⟩
theorem block_owns {w : World} {base : Nat} {e : TypeId} {size : Nat} {n g c : Nat} {cur xs : List Value} (hb : base ≤ g) (hr : Row w g e cur) (ht : cur.take (n * size) = xs) (hn : n ≤ c) (hm : c ≤ maxLen) (hl : cur.length = c * size) :
    w.ownsRow base e size (.slice (some ⟨g, 0, none⟩) n c) n xs := by
  refine ⟨?_, .inr ⟨g, c, cur.toArray, rfl, hb, hr, hn, hm, by simpa using hl, by simpa using ht⟩⟩
  rw [← ht, List.length_take, hl]
  exact Nat.min_eq_left (Nat.mul_le_mul_right _ hn)

end Go.Proofs.Ytpbokmmobepolaa
