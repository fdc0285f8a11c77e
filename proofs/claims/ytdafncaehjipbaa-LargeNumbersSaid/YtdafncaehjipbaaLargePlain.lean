/-
  Large numbers, plain: bytes from the lowest on, their number, the digits of a number, how numbers stand.
-/
import Derived.Test.YtdafncaehjipbaaGen
namespace Go.Proofs.Ytdafncaehjipbaa
set_option linter.unusedVariables false
set_option maxHeartbeats 400000

def valI : List Int → Nat
  | [] => 0
  | b :: r => b.toNat + 256 * valI r

theorem valI_append : ∀ a b : List Int, valI (a ++ b) = valI a + 256 ^ a.length * valI b
  | [], b => by simp [valI]
  | x :: a, b => by
    rw [List.cons_append, valI, valI, valI_append a b, List.length_cons, Nat.pow_succ, Nat.mul_add, ← Nat.mul_assoc, Nat.mul_comm 256 (256 ^ a.length)]
    omega

theorem Byt.tail {b : Int} {l : List Int} (h : Byt (b :: l)) : Byt l := fun x hx => h x (List.mem_cons_of_mem _ hx)
theorem Byt.head {b : Int} {l : List Int} (h : Byt (b :: l)) : 0 ≤ b ∧ b ≤ 255 := h b (by simp)
theorem Byt.cons {b : Int} {l : List Int} (h : 0 ≤ b ∧ b ≤ 255) (k : Byt l) : Byt (b :: l) := fun x hx => by
  rcases List.mem_cons.1 hx with rfl | hx
  · exact h
  · exact k x hx

theorem valI_lt : ∀ {l : List Int}, Byt l → valI l < 256 ^ l.length
  | [], _ => by simp [valI]
  | b :: r, h => by
    have := valI_lt h.tail
    have hb := h.head
    rw [valI, List.length_cons, Nat.pow_succ]
    omega

/-- The digits of a number, the lowest first, no nought at the end. -/
def digs (n : Nat) : List Int := if h : n = 0 then [] else ((n % 256 : Nat) : Int) :: digs (n / 256)
termination_by n
decreasing_by omega

theorem digs_0 : digs 0 = [] := by rw [digs]; simp
theorem digs_pos {n : Nat} (h : n ≠ 0) : digs n = ((n % 256 : Nat) : Int) :: digs (n / 256) := by rw [digs]; simp [h]
theorem digs_nil {n : Nat} : digs n = [] ↔ n = 0 := by
  constructor
  · intro h
    by_cases h0 : n = 0
    · exact h0
    · rw [digs_pos h0] at h; cases h
  · rintro rfl; exact digs_0

theorem valI_digs (n : Nat) : valI (digs n) = n := by
  induction n using Nat.strongRecOn with
  | ind n ih =>
    by_cases h : n = 0
    · subst h; rw [digs_0]; rfl
    · rw [digs_pos h, valI, ih (n / 256) (by omega), Int.toNat_natCast]; omega
theorem byt_digs (n : Nat) : Byt (digs n) := by
  induction n using Nat.strongRecOn with
  | ind n ih =>
    by_cases h : n = 0
    · subst h; rw [digs_0]; exact Byt.nil
    · rw [digs_pos h]
      exact Byt.cons (by omega) (ih (n / 256) (by omega))

theorem digs_len {n k : Nat} (h : n < 256 ^ k) : (digs n).length ≤ k := by
  induction k generalizing n with
  | zero => have : n = 0 := by simpa using h
            subst this; rw [digs_0]; exact Nat.le_refl _
  | succ k ih =>
    by_cases h0 : n = 0
    · subst h0; rw [digs_0]; exact Nat.zero_le _
    · rw [digs_pos h0, List.length_cons]
      have := ih (n := n / 256) (by rw [Nat.pow_succ] at h; omega)
      omega
theorem digs_len_ge {n k : Nat} (h : 256 ^ k ≤ n) : k + 1 ≤ (digs n).length := by
  have h1 := valI_lt (byt_digs n)
  rw [valI_digs] at h1
  rcases Nat.lt_or_ge k (digs n).length with h2 | h2
  · exact h2
  · exact absurd (Nat.lt_of_lt_of_le h1 (Nat.pow_le_pow_right (by omega) h2)) (by omega)
theorem digs_ge {n : Nat} (h : n ≠ 0) : 256 ^ ((digs n).length - 1) ≤ n := by
  induction n using Nat.strongRecOn with
  | ind n ih =>
    rw [digs_pos h, List.length_cons, Nat.add_sub_cancel]
    by_cases h0 : n / 256 = 0
    · rw [h0, digs_0]; simp; omega
    · have := ih (n / 256) (by omega) h0
      have hl : 0 < (digs (n / 256)).length := by
        rcases Nat.eq_zero_or_pos (digs (n / 256)).length with h1 | h1
        · exact absurd (digs_nil.1 (List.eq_nil_of_length_eq_zero h1)) h0
        · exact h1
      obtain ⟨k, hk⟩ : ∃ k, (digs (n / 256)).length = k + 1 := ⟨_, (Nat.sub_add_cancel hl).symm⟩
      rw [hk, Nat.add_sub_cancel] at this
      rw [hk, Nat.pow_succ]
      omega
/-- Fewer digits, a smaller number. -/
theorem digs_len_lt {a b : Nat} (h : (digs a).length < (digs b).length) : a < b := by
  have hb : b ≠ 0 := fun h0 => by rw [h0, digs_0] at h; simp at h
  have h1 := digs_ge hb
  have h2 := valI_lt (byt_digs a)
  rw [valI_digs] at h2
  have h3 : 256 ^ (digs a).length ≤ 256 ^ ((digs b).length - 1) := Nat.pow_le_pow_right (by omega) (by omega)
  omega

/-- A row without the noughts at its end. -/
theorem digs_snoc0 : ∀ {l : List Int}, Byt l → digs (valI (l ++ [0])) = digs (valI l) := fun {l} h => by
  rw [valI_append]
  simp [valI]
theorem digs_of : ∀ {l : List Int}, Byt l → (l = [] ∨ l.getD (l.length - 1) 0 ≠ 0) → digs (valI l) = l
  | [], _, _ => digs_0
  | [b], h, hl => by
    have hb := h.head
    have h0 : b ≠ 0 := by
      rcases hl with hl | hl
      · cases hl
      · simpa using hl
    rw [valI, valI, digs_pos (by omega)]
    have : (b.toNat + 256 * 0) / 256 = 0 := by omega
    rw [this, digs_0]
    congr 1
    omega
  | b :: c :: r, h, hl => by
    have hb := h.head
    have ht := digs_of (l := c :: r) h.tail (.inr (by
      rcases hl with hl | hl
      · cases hl
      · simpa using hl))
    have hv : valI (c :: r) ≠ 0 := fun h0 => by rw [h0, digs_0] at ht; cases ht
    rw [valI, digs_pos (by omega), show (b.toNat + 256 * valI (c :: r)) / 256 = valI (c :: r) from by omega, ht]
    congr 1
    omega

/-- A number is right if it has no nought at its end. -/
def Canon (l : List Int) : Prop := l = digs (valI l)
theorem canon_digs (n : Nat) : Canon (digs n) := by unfold Canon; rw [valI_digs]
theorem canon_iff {l : List Int} (h : Byt l) : Canon l ↔ (l = [] ∨ l.getD (l.length - 1) 0 ≠ 0) := by
  constructor
  · intro hc
    by_cases h0 : l = []
    · exact .inl h0
    · refine .inr (fun hz => ?_)
      -- the last is nought: the number has fewer digits
      obtain ⟨i, x, rfl⟩ : ∃ i x, l = i ++ [x] := ⟨l.dropLast, l.getLast h0, (List.dropLast_concat_getLast h0).symm⟩
      have hx : x = 0 := by simpa using hz
      subst hx
      unfold Canon at hc
      have h1 : (i ++ [0]).length = (digs (valI (i ++ [0]))).length := by rw [← hc]
      rw [digs_snoc0 (fun y hy => h y (by simp [hy]))] at h1
      have h2 := digs_len (valI_lt (l := i) (fun y hy => h y (by simp [hy])))
      simp at h1
      omega
  · intro hl
    unfold Canon
    exact (digs_of h hl).symm

/-- The number above a place. -/
theorem valI_split {l : List Int} {i : Nat} (h : i < l.length) : valI l = valI (l.take i) + 256 ^ i * ((l.getD i 0).toNat + 256 * valI (l.drop (i + 1))) := by
  have e : l = l.take i ++ (l.getD i 0 :: l.drop (i + 1)) := by
    rw [List.getD_eq_getElem?_getD, List.getElem?_eq_getElem h]
    simp
  have := valI_append (l.take i) (l.getD i 0 :: l.drop (i + 1))
  rw [← e, valI, List.length_take, Nat.min_eq_left (by omega)] at this
  exact this

/-- Rows of one length: the highest place at which they part tells. -/
theorem val_lt_at {a b : List Int} {i : Nat} (ha : Byt a) (hl : a.length = b.length) (hi : i < a.length) (hd : a.drop (i + 1) = b.drop (i + 1)) (h : (a.getD i 0).toNat < (b.getD i 0).toNat) : valI a < valI b := by
  rw [valI_split (l := a) hi, valI_split (l := b) (i := i) (by omega), hd]
  have h1 : valI (a.take i) < 256 ^ i := by
    have := valI_lt (l := a.take i) (fun x hx => ha x (List.mem_of_mem_take hx))
    rwa [List.length_take, Nat.min_eq_left (by omega)] at this
  obtain ⟨d, hd2⟩ : ∃ d, (b.getD i 0).toNat = (a.getD i 0).toNat + 1 + d := ⟨(b.getD i 0).toNat - (a.getD i 0).toNat - 1, by omega⟩
  rw [hd2]
  generalize valI (b.drop (i + 1)) = D
  generalize (a.getD i 0).toNat = x
  generalize 256 ^ i = P at *
  have e : P * (x + 1 + d + 256 * D) = P * (x + 256 * D) + P + P * d := by
    rw [show x + 1 + d + 256 * D = (x + 256 * D) + 1 + d from by omega, Nat.mul_add, Nat.mul_add, Nat.mul_one]
  rw [e]
  omega

end Go.Proofs.Ytdafncaehjipbaa
