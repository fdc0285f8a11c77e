/-
  Large numbers, plain: how sums, differences, products and quotients are reckoned place by place.
-/
import Derived.Test.YtdafncaehjipbaaLargePlain
namespace Go.Proofs.Ytdafncaehjipbaa
set_option linter.unusedVariables false
set_option maxHeartbeats 400000

/-- The i-th digit as a number; 0 beyond. -/
def dg (l : List Int) (i : Nat) : Nat := (l.getD i 0).toNat
theorem dg_le {l : List Int} (h : Byt l) (i : Nat) : dg l i ≤ 255 := by
  unfold dg
  by_cases hi : i < l.length
  · have := h (l.getD i 0) (by rw [List.getD_eq_getElem?_getD, List.getElem?_eq_getElem hi]; exact List.getElem_mem hi)
    omega
  · rw [List.getD_eq_getElem?_getD, List.getElem?_eq_none (by omega)]; simp
theorem dg_out {l : List Int} {i : Nat} (h : l.length ≤ i) : dg l i = 0 := by
  unfold dg
  rw [List.getD_eq_getElem?_getD, List.getElem?_eq_none h]; rfl
theorem val_take (l : List Int) (i : Nat) : valI (l.take (i + 1)) = valI (l.take i) + 256 ^ i * dg l i := by
  by_cases hi : i < l.length
  · have e : l.take (i + 1) = l.take i ++ [l.getD i 0] := by
      rw [List.take_add_one, List.getD_eq_getElem?_getD, List.getElem?_eq_getElem hi]; rfl
    rw [e, valI_append, List.length_take, Nat.min_eq_left (by omega)]
    simp [valI, dg]
  · rw [dg_out (by omega), List.take_of_length_le (by omega), List.take_of_length_le (by omega)]; simp
theorem val_take_all {l : List Int} {i : Nat} (h : l.length ≤ i) : valI (l.take i) = valI l := by rw [List.take_of_length_le h]

/-- A row of so many places, those from i on not yet written. -/
theorem take_set_next {o : List Int} {i : Nat} {d : Int} (h : i < o.length) : (o.set i d).take (i + 1) = o.take i ++ [d] := by
  rw [List.take_add_one, List.take_set_of_le (Nat.le_refl _), List.getElem?_set_self h]; rfl
theorem val_set_next {o : List Int} {i : Nat} {d : Int} (h : i < o.length) : valI ((o.set i d).take (i + 1)) = valI (o.take i) + 256 ^ i * d.toNat := by
  rw [take_set_next h, valI_append, List.length_take, Nat.min_eq_left (by omega)]
  simp [valI]
theorem byt_set {o : List Int} (h : Byt o) (i : Nat) {d : Int} (hd : 0 ≤ d ∧ d ≤ 255) : Byt (o.set i d) := fun x hx => by
  rcases List.mem_or_eq_of_mem_set hx with h1 | rfl
  · exact h x h1
  · exact hd

/-- A step of a sum with a carry, over the naturals. -/
theorem carry_step {V c T P z c' : Nat} (h : V + P * c = T) (hc : c' = c + z) : V + P * (c' % 256) + P * 256 * (c' / 256) = T + P * z := by
  have h1 : c' = 256 * (c' / 256) + c' % 256 := by omega
  have h2 : P * c' = P * (256 * (c' / 256)) + P * (c' % 256) := by rw [← Nat.mul_add, ← h1]
  have h3 : P * c' = P * c + P * z := by rw [hc, Nat.mul_add]
  rw [Nat.mul_assoc]
  omega

/-- The same with numbers below 0: a difference with a borrow. -/
theorem borrow_step {V c T P z c' : Int} (h : V + P * c = T) (hc : c' = c + z) : V + P * (c' % 256) + P * 256 * (c' / 256) = T + P * z := by
  have h1 : c' = 256 * (c' / 256) + c' % 256 := by omega
  have h2 : P * c' = P * (256 * (c' / 256)) + P * (c' % 256) := by rw [← Int.mul_add, ← h1]
  have h3 : P * c' = P * c + P * z := by rw [hc, Int.mul_add]
  rw [Int.mul_assoc]
  omega

/-- What a sum has reckoned behind i places. -/
def SumAt (a b o : List Int) (i c : Nat) : Prop := valI (o.take i) + 256 ^ i * c = valI (a.take i) + valI (b.take i) ∧ c ≤ 1

theorem SumAt.next {a b o : List Int} {i c : Nat} (ha : Byt a) (hb : Byt b) (h : SumAt a b o i c) (hi : i < o.length) :
    SumAt a b (o.set i (((c + (dg a i + dg b i)) % 256 : Nat) : Int)) (i + 1) ((c + (dg a i + dg b i)) / 256) := by
  have h1 := dg_le ha i
  have h2 := dg_le hb i
  obtain ⟨h3, h4⟩ := h
  refine ⟨?_, by omega⟩
  rw [val_set_next hi, Int.toNat_natCast, val_take a, val_take b, Nat.pow_succ]
  have := carry_step (z := dg a i + dg b i) h3 rfl
  rw [Nat.mul_add (256 ^ i) (dg a i) (dg b i)] at this
  omega

theorem SumAt.done {a b o : List Int} {n c : Nat} (ha : Byt a) (hb : Byt b) (h : SumAt a b o n c) (hn : o.length = n) (h1 : a.length < n) (h2 : b.length < n) : valI o = valI a + valI b := by
  obtain ⟨h3, _⟩ := h
  rw [← hn, List.take_length, val_take_all (by omega), val_take_all (by omega), hn] at h3
  have e1 := valI_lt ha
  have e2 := valI_lt hb
  have p1 : 256 ^ a.length ≤ 256 ^ (n - 1) := Nat.pow_le_pow_right (by omega) (by omega)
  have p2 : 256 ^ b.length ≤ 256 ^ (n - 1) := Nat.pow_le_pow_right (by omega) (by omega)
  have p3 : 256 ^ n = 256 ^ (n - 1) * 256 := by rw [← Nat.pow_succ]; congr 1; omega
  have hc : c = 0 := by
    rcases Nat.eq_zero_or_pos c with h | h
    · exact h
    · have : 256 ^ n * 1 ≤ 256 ^ n * c := Nat.mul_le_mul_left _ h
      omega
  rw [hc] at h3
  omega

/-- What a difference has reckoned behind i places. -/
def DiffAt (a b o : List Int) (i : Nat) (c : Int) : Prop := (valI (o.take i) : Int) + (256 ^ i : Nat) * c = valI (a.take i) - (valI (b.take i) : Int) ∧ -1 ≤ c ∧ c ≤ 0

theorem DiffAt.next {a b o : List Int} {i : Nat} {c : Int} (ha : Byt a) (hb : Byt b) (h : DiffAt a b o i c) (hi : i < o.length) :
    DiffAt a b (o.set i ((c + ((dg a i : Int) - dg b i)) % 256)) (i + 1) ((c + ((dg a i : Int) - dg b i)) / 256) := by
  have h1 := dg_le ha i
  have h2 := dg_le hb i
  obtain ⟨h3, h4, h5⟩ := h
  refine ⟨?_, by omega, by omega⟩
  rw [val_set_next hi, val_take a, val_take b, Nat.pow_succ]
  have := borrow_step (z := (dg a i : Int) - dg b i) h3 rfl
  rw [Int.mul_sub] at this
  have e : (((c + ((dg a i : Int) - dg b i)) % 256).toNat : Int) = (c + ((dg a i : Int) - dg b i)) % 256 := by omega
  simp only [Int.natCast_add, Int.natCast_mul, e, show ((256 : Nat) : Int) = 256 from rfl] at this ⊢
  omega

theorem DiffAt.done {a b o : List Int} {n : Nat} {c : Int} (hoB : Byt o) (h : DiffAt a b o n c) (hn : o.length = n) (h1 : a.length = n) (h2 : b.length ≤ n) (hle : valI b ≤ valI a) : valI o = valI a - valI b := by
  obtain ⟨h3, h4, h5⟩ := h
  rw [val_take_all (show o.length ≤ n by omega), val_take_all (show a.length ≤ n by omega), val_take_all h2] at h3
  have e1 := valI_lt hoB
  rw [hn] at e1
  have hc : c = 0 := by
    by_cases h0 : c = 0
    · exact h0
    · have : c = -1 := by omega
      subst this
      omega
  subst hc
  omega

end Go.Proofs.Ytdafncaehjipbaa
