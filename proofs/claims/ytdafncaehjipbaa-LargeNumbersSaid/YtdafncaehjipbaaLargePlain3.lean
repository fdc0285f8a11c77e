/-
  Large numbers, plain: products place by place; rows of numbers settled to digits; quotients bit by bit.
-/
import Derived.Test.YtdafncaehjipbaaLargePlain2
namespace Go.Proofs.Ytdafncaehjipbaa
set_option linter.unusedVariables false
set_option maxHeartbeats 400000

theorem val_set : ∀ {o : List Int} {i : Nat} (d : Int), i < o.length → valI (o.set i d) + 256 ^ i * dg o i = valI o + 256 ^ i * d.toNat
  | [], i, d, h => by simp at h
  | b :: r, 0, d, h => by simp [valI, dg]; omega
  | b :: r, i + 1, d, h => by
    have ih := val_set (o := r) (i := i) d (by simpa using h)
    rw [List.set_cons_succ, valI, valI, Nat.pow_succ]
    have e : dg (b :: r) (i + 1) = dg r i := by simp [dg]
    rw [e, Nat.mul_comm (256 ^ i) 256, Nat.mul_assoc, Nat.mul_assoc]
    omega

/-- What the product of c and b, added at place i to the row o0, has reckoned behind k places. -/
def MulAt (b o0 o : List Int) (i c k carry : Nat) : Prop :=
  valI o + 256 ^ (i + k) * carry = valI o0 + 256 ^ i * (c * valI (b.take k)) ∧ o.length = o0.length ∧ carry ≤ 255 ∧ Byt o

theorem MulAt.next {b o0 o : List Int} {i c k carry : Nat} (hb : Byt b) (hc : c ≤ 255) (h : MulAt b o0 o i c k carry) (hi : i + k < o.length) :
    MulAt b o0 (o.set (i + k) (((carry + (dg o (i + k) + c * dg b k)) % 256 : Nat) : Int)) i c (k + 1) ((carry + (dg o (i + k) + c * dg b k)) / 256) := by
  obtain ⟨h1, h2, h3, h4⟩ := h
  have hbk := dg_le hb k
  have hok := dg_le h4 (i + k)
  have hcb : c * dg b k ≤ 255 * 255 := Nat.mul_le_mul hc hbk
  refine ⟨?_, by simpa using h2, by omega, byt_set h4 _ (by omega)⟩
  have hv := val_set (o := o) (i := i + k) (((carry + (dg o (i + k) + c * dg b k)) % 256 : Nat) : Int) hi
  rw [Int.toNat_natCast] at hv
  rw [val_take, ← Nat.add_assoc i k 1, Nat.pow_succ, Nat.mul_add c, Nat.mul_add (256 ^ i)]
  have e1 : 256 ^ i * (c * (256 ^ k * dg b k)) = 256 ^ (i + k) * (c * dg b k) := by
    rw [Nat.pow_add, Nat.mul_left_comm c, Nat.mul_assoc]
  rw [e1]
  generalize 256 ^ (i + k) = P at *
  generalize c * dg b k = z at *
  generalize dg o (i + k) = x at *
  have e2 : carry + (x + z) = 256 * ((carry + (x + z)) / 256) + (carry + (x + z)) % 256 := by omega
  have e3 : P * (carry + (x + z)) = P * (256 * ((carry + (x + z)) / 256)) + P * ((carry + (x + z)) % 256) := by rw [← Nat.mul_add, ← e2]
  have e4 : P * (carry + (x + z)) = P * carry + (P * x + P * z) := by rw [Nat.mul_add, Nat.mul_add]
  rw [Nat.mul_assoc]
  omega

theorem MulAt.start (b o0 : List Int) (i c : Nat) (h : Byt o0) : MulAt b o0 o0 i c 0 0 := ⟨by simp [valI], rfl, by omega, h⟩

/-- One more digit of a taken: nothing is left over. -/
theorem MulAt.done {a b o0 o : List Int} {i carry : Nat} (ha : Byt a) (hb : Byt b) (h0 : valI o0 = valI (a.take i) * valI b) (h : MulAt b o0 o i (dg a i) (b.length + 1) carry) : carry = 0 ∧ valI o = valI (a.take (i + 1)) * valI b := by
  obtain ⟨h1, h2, h3, h4⟩ := h
  rw [val_take_all (show b.length ≤ b.length + 1 by omega), h0] at h1
  have e : valI (a.take (i + 1)) * valI b = valI (a.take i) * valI b + 256 ^ i * (dg a i * valI b) := by
    rw [val_take, Nat.add_mul, Nat.mul_assoc]
  have hlt : valI (a.take (i + 1)) < 256 ^ (i + 1) := by
    have := valI_lt (l := a.take (i + 1)) (fun x hx => ha x (List.mem_of_mem_take hx))
    exact Nat.lt_of_lt_of_le this (Nat.pow_le_pow_right (by omega) (by simp; omega))
  have hb2 := valI_lt hb
  have hpos : 0 < 256 ^ b.length := Nat.pow_pos (by omega)
  have hprod : valI (a.take (i + 1)) * valI b < 256 ^ (i + 1) * 256 ^ b.length := by
    refine Nat.lt_of_le_of_lt (Nat.mul_le_mul_left _ (Nat.le_of_lt hb2)) ?_
    exact Nat.mul_lt_mul_of_pos_right hlt hpos
  rw [← Nat.pow_add, show i + 1 + b.length = i + (b.length + 1) from by omega] at hprod
  have hc : carry = 0 := by
    rcases Nat.eq_zero_or_pos carry with h | h
    · exact h
    · have : 256 ^ (i + (b.length + 1)) * 1 ≤ 256 ^ (i + (b.length + 1)) * carry := Nat.mul_le_mul_left _ h
      omega
  subst hc
  exact ⟨rfl, by omega⟩

/-! ### Rows of numbers, settled -/

def valZ : List Int → Int
  | [] => 0
  | b :: r => b + 256 * valZ r
theorem valZ_append : ∀ a b : List Int, valZ (a ++ b) = valZ a + (256 ^ a.length : Nat) * valZ b
  | [], b => by simp [valZ]
  | x :: a, b => by
    rw [List.cons_append, valZ, valZ, valZ_append a b, List.length_cons, Nat.pow_succ, Int.mul_add, Int.natCast_mul, Int.mul_assoc]
    simp only [show ((256 : Nat) : Int) = 256 from rfl]
    rw [Int.mul_left_comm]
    omega
theorem valZ_byt : ∀ {l : List Int}, Byt l → valZ l = (valI l : Int)
  | [], _ => rfl
  | b :: r, h => by
    have hb := h.head
    rw [valZ, valI, valZ_byt h.tail]
    omega
theorem valZ_take (l : List Int) (i : Nat) : valZ (l.take (i + 1)) = valZ (l.take i) + (256 ^ i : Nat) * l.getD i 0 := by
  by_cases hi : i < l.length
  · have e : l.take (i + 1) = l.take i ++ [l.getD i 0] := by
      rw [List.take_add_one, List.getD_eq_getElem?_getD, List.getElem?_eq_getElem hi]; rfl
    rw [e, valZ_append, List.length_take, Nat.min_eq_left (by omega)]
    simp [valZ]
  · have : l.getD i 0 = 0 := by rw [List.getD_eq_getElem?_getD, List.getElem?_eq_none (by omega)]; rfl
    rw [this, List.take_of_length_le (by omega), List.take_of_length_le (by omega)]; simp
theorem valZ_set : ∀ {l : List Int} {i : Nat} (d : Int), i < l.length → valZ (l.set i d) = valZ l + (256 ^ i : Nat) * (d - l.getD i 0)
  | [], i, d, h => by simp at h
  | b :: r, 0, d, h => by simp [valZ]; omega
  | b :: r, i + 1, d, h => by
    have ih := valZ_set (l := r) (i := i) d (by simpa using h)
    rw [List.set_cons_succ, valZ, valZ, ih, List.getD_cons_succ, Nat.pow_succ, Int.mul_add, Int.natCast_mul, Int.mul_assoc]
    simp only [show ((256 : Nat) : Int) = 256 from rfl]
    rw [Int.mul_left_comm]
    omega

/-- What is settled behind i places. -/
def SetAt (l o : List Int) (c : Int) : Prop := (valI o : Int) + (256 ^ o.length : Nat) * c = valZ (l.take o.length) ∧ Byt o

theorem SetAt.next {l o : List Int} {c : Int} (h : SetAt l o c) : SetAt l (o ++ [(c + l.getD o.length 0) % 256]) ((c + l.getD o.length 0) / 256) := by
  obtain ⟨h1, h2⟩ := h
  refine ⟨?_, h2.append (fun x hx => by simp at hx; subst hx; omega)⟩
  have := borrow_step (z := l.getD o.length 0) h1 rfl
  rw [valI_append, List.length_append, List.length_singleton, valZ_take, Nat.pow_succ]
  have e : (valI [(c + l.getD o.length 0) % 256] : Int) = (c + l.getD o.length 0) % 256 := by simp [valI]; omega
  simp only [Int.natCast_add, Int.natCast_mul, e, show ((256 : Nat) : Int) = 256 from rfl] at this ⊢
  omega

theorem SetAt.done {l o : List Int} {c : Int} (h : SetAt l o c) (hl : l.length ≤ o.length) (hc : c ≤ 0) (h0 : 0 ≤ valZ l) : c = 0 ∧ (valI o : Int) = valZ l := by
  obtain ⟨h1, h2⟩ := h
  rw [List.take_of_length_le hl] at h1
  have hv := valI_lt h2
  have hc0 : c = 0 := by
    by_cases hz : c = 0
    · exact hz
    · have h3 : (256 ^ o.length : Nat) * c ≤ (256 ^ o.length : Nat) * (-1 : Int) := Int.mul_le_mul_of_nonneg_left (by omega) (by omega)
      omega
  subst hc0
  exact ⟨rfl, by omega⟩

/-! ### Quotients bit by bit -/

/-- Behind the bits from i on: the number above i is q times b and the rest. -/
theorem div_bit {a b i q r : Nat} (hb : 0 < b) (h : a / 2 ^ (i + 1) = q * b + r) (hr : r < b) :
    let r2 := 2 * r + (a / 2 ^ i) % 2
    (b ≤ r2 → a / 2 ^ i = (2 * q + 1) * b + (r2 - b) ∧ r2 - b < b) ∧ (r2 < b → a / 2 ^ i = 2 * q * b + r2) := by
  have e : a / 2 ^ i = 2 * (a / 2 ^ (i + 1)) + (a / 2 ^ i) % 2 := by
    rw [Nat.pow_succ, ← Nat.div_div_eq_div_mul]; omega
  rw [h] at e
  intro r2
  have hb2 : (a / 2 ^ i) % 2 < 2 := Nat.mod_lt _ (by omega)
  have e2 : 2 * (q * b + r) = 2 * q * b + 2 * r := by rw [Nat.mul_add, Nat.mul_assoc]
  refine ⟨fun h1 => ⟨?_, ?_⟩, fun h1 => ?_⟩
  · have e3 : (2 * q + 1) * b = 2 * q * b + b := by rw [Nat.add_mul, Nat.one_mul]
    rw [e3]
    show _ = _
    omega
  · omega
  · show _ = _
    omega

theorem div_end {a b q r : Nat} (h : a / 2 ^ 0 = q * b + r) (hr : r < b) : q = a / b ∧ r = a % b := by
  have hb : 0 < b := by omega
  rw [Nat.pow_zero, Nat.div_one] at h
  constructor
  · rw [h, Nat.mul_comm, Nat.mul_add_div hb, Nat.div_eq_of_lt hr]; omega
  · rw [h, Nat.mul_comm, Nat.mul_add_mod, Nat.mod_eq_of_lt hr]

end Go.Proofs.Ytdafncaehjipbaa
