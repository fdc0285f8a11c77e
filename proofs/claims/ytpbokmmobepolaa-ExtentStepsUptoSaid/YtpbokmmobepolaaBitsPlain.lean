/-
  Bits in words, plain: a word of bits, its count, one bit turned.
-/
import Derived.Test.YtpbokmmobepolaaGen
namespace Go.Proofs.Ytpbokmmobepolaa
set_option linter.unusedVariables false
set_option maxHeartbeats 400000

/-- The number that k bits are. -/
def wordN (b : Nat → Bool) : Nat → Nat
  | 0 => 0
  | k + 1 => wordN b k + (if b k then 2 ^ k else 0)

theorem wordN_lt (b : Nat → Bool) : ∀ k, wordN b k < 2 ^ k
  | 0 => by simp [wordN]
  | k + 1 => by
    have := wordN_lt b k
    rw [wordN, Nat.pow_succ]
    split <;> omega

theorem testBit_wordN (b : Nat → Bool) : ∀ k i, (wordN b k).testBit i = (decide (i < k) && b i)
  | 0, i => by simp [wordN]
  | k + 1, i => by
    have ih := testBit_wordN b k i
    have hlt := wordN_lt b k
    rw [wordN]
    by_cases hb : b k = true
    · rw [if_pos hb, Nat.add_comm]
      rcases Nat.lt_trichotomy i k with h | h | h
      · rw [Nat.testBit_two_pow_add_gt h, ih]
        simp [h, Nat.lt_succ_of_lt h]
      · subst h
        rw [Nat.testBit_two_pow_add_eq, ih]
        simp [hb]
      · have h2 : 2 ^ k + wordN b k < 2 ^ i := by
          have : 2 ^ (k + 1) ≤ 2 ^ i := Nat.pow_le_pow_right (by omega) (by omega)
          rw [Nat.pow_succ] at this
          omega
        rw [Nat.testBit_lt_two_pow h2]
        have : ¬ i < k + 1 := by omega
        simp [this]
    · rw [if_neg hb, Nat.add_zero, ih]
      by_cases h : i = k
      · subst h; simp at hb; simp [hb]
      · have : (i < k) = (i < k + 1) := by apply propext; omega
        simp [this]

theorem wordN_congr {a b : Nat → Bool} {k : Nat} (h : ∀ i, i < k → a i = b i) : wordN a k = wordN b k := by
  apply Nat.eq_of_testBit_eq
  intro i
  rw [testBit_wordN, testBit_wordN]
  by_cases hi : i < k
  · rw [h i hi]
  · simp [hi]

/-- One bit turned. -/
theorem wordN_flip (b : Nat → Bool) {k s : Nat} (hs : s < k) : wordN b k ^^^ 2 ^ s = wordN (fun i => if i = s then !b i else b i) k := by
  apply Nat.eq_of_testBit_eq
  intro i
  rw [Nat.testBit_xor, testBit_wordN, testBit_wordN, Nat.testBit_two_pow]
  by_cases hi : i = s
  · subst hi; simp [hs]
  · have : ¬ s = i := fun h => hi h.symm
    simp [hi, this]

/-- How many bits are set among k. -/
def cntF (b : Nat → Bool) : Nat → Nat
  | 0 => 0
  | k + 1 => cntF b k + (if b k then 1 else 0)

theorem cntF_le (b : Nat → Bool) : ∀ k, cntF b k ≤ k
  | 0 => Nat.le_refl _
  | k + 1 => by have := cntF_le b k; rw [cntF]; split <;> omega
theorem cntF_add (b : Nat → Bool) (m : Nat) : ∀ k, cntF b (m + k) = cntF b m + cntF (fun i => b (m + i)) k
  | 0 => rfl
  | k + 1 => by rw [← Nat.add_assoc, cntF, cntF_add b m k, cntF]; omega
theorem cntF_congr {a b : Nat → Bool} : ∀ {k : Nat}, (∀ i, i < k → a i = b i) → cntF a k = cntF b k
  | 0, _ => rfl
  | k + 1, h => by rw [cntF, cntF, cntF_congr (fun i hi => h i (by omega)), h k (by omega)]

theorem wordN_add (b : Nat → Bool) (m : Nat) : ∀ k, wordN b (m + k) = wordN b m + 2 ^ m * wordN (fun i => b (m + i)) k
  | 0 => by simp [wordN]
  | k + 1 => by
    rw [← Nat.add_assoc, wordN, wordN_add b m k, wordN]
    split
    · rw [Nat.pow_add, Nat.mul_add, Nat.add_assoc]
    · simp

/-! ### Bytes, and what is reckoned of them side by side -/

def valB : List Nat → Nat
  | [] => 0
  | b :: r => b + 256 * valB r

theorem and_split {a b c d : Nat} (ha : a < 256) (hc : c < 256) : (a + 256 * b) &&& (c + 256 * d) = (a &&& c) + 256 * (b &&& d) := by
  have h1 : ∀ x y : Nat, x < 256 → x + 256 * y = 2 ^ 8 * y ||| x := fun x y hx => by
    rw [← Nat.two_pow_add_eq_or_of_lt (i := 8) (by omega) y]; omega
  have hac : a &&& c < 256 := Nat.lt_of_le_of_lt Nat.and_le_left ha
  rw [h1 a b ha, h1 c d hc, h1 _ (b &&& d) hac]
  apply Nat.eq_of_testBit_eq
  intro i
  simp only [Nat.testBit_and, Nat.testBit_or, Nat.testBit_two_pow_mul]
  by_cases hi : 8 ≤ i
  · have h2 : ∀ x : Nat, x < 256 → x.testBit i = false := fun x hx => Nat.testBit_lt_two_pow (Nat.lt_of_lt_of_le (show x < 2 ^ 8 by omega) (Nat.pow_le_pow_right (by omega) hi))
    rw [h2 a ha, h2 c hc]
    simp [hi]
  · simp [hi]

/-- The same byte n times. -/
def repB (m : Nat) : Nat → Nat
  | 0 => 0
  | n + 1 => m + 256 * repB m n

def s1 (b : Nat) : Nat := ((b / 2) &&& 0x55) + (b &&& 0x55)
def s2 (b : Nat) : Nat := ((b / 4) &&& 0x33) + (b &&& 0x33)
def s3 (b : Nat) : Nat := ((b / 16) + b) &&& 0x0f

theorem tab1 : ∀ b : Fin 256, ∀ c : Fin 2, ((b.val / 2 + 128 * c.val) &&& 0x55) = ((b.val / 2) &&& 0x55) := by decide +kernel
theorem tab2 : ∀ b : Fin 256, ∀ c : Fin 4, ((b.val / 4 + 64 * c.val) &&& 0x33) = ((b.val / 4) &&& 0x33) := by decide +kernel

theorem step1 : ∀ l : List Nat, (∀ b ∈ l, b < 256) → ((valB l / 2) &&& repB 0x55 l.length) + (valB l &&& repB 0x55 l.length) = valB (l.map s1)
  | [], _ => rfl
  | b :: r, h => by
    have ih := step1 r (fun x hx => h x (by simp [hx]))
    have hb := h b (by simp)
    have e : (b + 256 * valB r) / 2 = (b / 2 + 128 * (valB r % 2)) + 256 * (valB r / 2) := by omega
    have t := tab1 ⟨b, hb⟩ ⟨valB r % 2, by omega⟩
    simp only at t
    show ((b + 256 * valB r) / 2 &&& (0x55 + 256 * repB 0x55 r.length)) + ((b + 256 * valB r) &&& (0x55 + 256 * repB 0x55 r.length)) = s1 b + 256 * valB (r.map s1)
    rw [e, and_split (by omega) (by omega), and_split hb (by omega), t, ← ih]
    unfold s1
    omega

theorem step2 : ∀ l : List Nat, (∀ b ∈ l, b < 256) → ((valB l / 4) &&& repB 0x33 l.length) + (valB l &&& repB 0x33 l.length) = valB (l.map s2)
  | [], _ => rfl
  | b :: r, h => by
    have ih := step2 r (fun x hx => h x (by simp [hx]))
    have hb := h b (by simp)
    have e : (b + 256 * valB r) / 4 = (b / 4 + 64 * (valB r % 4)) + 256 * (valB r / 4) := by omega
    have t := tab2 ⟨b, hb⟩ ⟨valB r % 4, by omega⟩
    simp only at t
    show ((b + 256 * valB r) / 4 &&& (0x33 + 256 * repB 0x33 r.length)) + ((b + 256 * valB r) &&& (0x33 + 256 * repB 0x33 r.length)) = s2 b + 256 * valB (r.map s2)
    rw [e, and_split (by omega) (by omega), and_split hb (by omega), t, ← ih]
    unfold s2
    omega

theorem and15 (x : Nat) : x &&& 0x0f = x % 16 := Nat.and_two_pow_sub_one_eq_mod x 4

theorem step3 : ∀ l : List Nat, (∀ b ∈ l, b % 16 ≤ 4 ∧ b / 16 ≤ 4) → ((valB l / 16) + valB l) &&& repB 0x0f l.length = valB (l.map s3)
  | [], _ => rfl
  | b :: r, h => by
    have ih := step3 r (fun x hx => h x (by simp [hx]))
    have hb := h b (by simp)
    have hr : valB r % 16 ≤ 4 := by
      cases r with
      | nil => decide
      | cons c r' =>
        have := h c (by simp)
        show (c + 256 * valB r') % 16 ≤ 4
        omega
    have e : (b + 256 * valB r) / 16 + (b + 256 * valB r) = (b / 16 + 16 * (valB r % 16) + b) + 256 * (valB r / 16 + valB r) := by omega
    show ((b + 256 * valB r) / 16 + (b + 256 * valB r) &&& (0x0f + 256 * repB 0x0f r.length)) = s3 b + 256 * valB (r.map s3)
    rw [e, and_split (by omega) (by omega), ih]
    unfold s3
    rw [and15, and15]
    omega

def byteN (b : Nat → Bool) (j : Nat) : Nat := wordN (fun i => b (8 * j + i)) 8
theorem byteN_lt (b : Nat → Bool) (j : Nat) : byteN b j < 256 := wordN_lt _ 8
def bytesN (b : Nat → Bool) : List Nat := [byteN b 0, byteN b 1, byteN b 2, byteN b 3, byteN b 4, byteN b 5, byteN b 6, byteN b 7]

theorem valB_bytesN (b : Nat → Bool) : valB (bytesN b) = wordN b 64 := by
  have h : ∀ (j k : Nat), wordN (fun i => b (8 * j + i)) (8 + k) = byteN b j + 256 * wordN (fun i => b (8 * (j + 1) + i)) k := fun j k => by
    rw [wordN_add]
    have : (fun i => b (8 * j + (8 + i))) = (fun i => b (8 * (j + 1) + i)) := by
      funext i; rw [show 8 * j + (8 + i) = 8 * (j + 1) + i from by omega]
    rw [this]; rfl
  have h0 : wordN b 64 = wordN (fun i => b (8 * 0 + i)) (8 + 56) := wordN_congr (fun i _ => by simp)
  rw [h0, h 0 56, show (56 : Nat) = 8 + 48 from rfl, h 1 48, show (48 : Nat) = 8 + 40 from rfl, h 2 40, show (40 : Nat) = 8 + 32 from rfl, h 3 32, show (32 : Nat) = 8 + 24 from rfl, h 4 24, show (24 : Nat) = 8 + 16 from rfl, h 5 16, show (16 : Nat) = 8 + 8 from rfl, h 6 8, show (8 : Nat) = 8 + 0 from rfl, h 7 0]
  rfl

theorem pop_tab : ∀ b : Fin 256, (s2 (s1 b.val)) % 16 ≤ 4 ∧ (s2 (s1 b.val)) / 16 ≤ 4 ∧ s1 b.val < 256 ∧ s3 (s2 (s1 b.val)) ≤ 8 := by decide +kernel

theorem pop_bits : ∀ a0 a1 a2 a3 a4 a5 a6 a7 : Bool, s3 (s2 (s1 ((if a0 then 1 else 0) + (if a1 then 2 else 0) + (if a2 then 4 else 0) + (if a3 then 8 else 0) + (if a4 then 16 else 0) + (if a5 then 32 else 0) + (if a6 then 64 else 0) + (if a7 then 128 else 0)))) = (if a0 then 1 else 0) + (if a1 then 1 else 0) + (if a2 then 1 else 0) + (if a3 then 1 else 0) + (if a4 then 1 else 0) + (if a5 then 1 else 0) + (if a6 then 1 else 0) + (if a7 then 1 else 0) := by decide +kernel

theorem pop_byteN (b : Nat → Bool) (j : Nat) : s3 (s2 (s1 (byteN b j))) = cntF (fun i => b (8 * j + i)) 8 := by
  have := pop_bits (b (8 * j + 0)) (b (8 * j + 1)) (b (8 * j + 2)) (b (8 * j + 3)) (b (8 * j + 4)) (b (8 * j + 5)) (b (8 * j + 6)) (b (8 * j + 7))
  unfold byteN
  simp only [wordN, cntF, Nat.zero_add] at this ⊢
  exact this

/-- The words' bits counted as Go's library counts them. -/
def swar (x : Nat) : Nat :=
  let y1 := ((x / 2) &&& 0x5555555555555555) + (x &&& 0x5555555555555555)
  let y2 := ((y1 / 4) &&& 0x3333333333333333) + (y1 &&& 0x3333333333333333)
  let y3 := ((y2 / 16) + y2) &&& 0x0f0f0f0f0f0f0f0f
  let y4 := y3 + y3 / 256
  let y5 := y4 + y4 / 65536
  let y6 := y5 + y5 / 4294967296
  y6 % 128

theorem cnt_bytes (b : Nat → Bool) : cntF b 64 = cntF (fun i => b (8 * 0 + i)) 8 + cntF (fun i => b (8 * 1 + i)) 8 + cntF (fun i => b (8 * 2 + i)) 8 + cntF (fun i => b (8 * 3 + i)) 8 + cntF (fun i => b (8 * 4 + i)) 8 + cntF (fun i => b (8 * 5 + i)) 8 + cntF (fun i => b (8 * 6 + i)) 8 + cntF (fun i => b (8 * 7 + i)) 8 := by
  have h : ∀ (j k : Nat), cntF (fun i => b (8 * j + i)) (8 + k) = cntF (fun i => b (8 * j + i)) 8 + cntF (fun i => b (8 * (j + 1) + i)) k := fun j k => by
    rw [cntF_add]
    have : (fun i => b (8 * j + (8 + i))) = (fun i => b (8 * (j + 1) + i)) := by
      funext i; rw [show 8 * j + (8 + i) = 8 * (j + 1) + i from by omega]
    rw [this]
  have h0 : cntF b 64 = cntF (fun i => b (8 * 0 + i)) (8 + 56) := cntF_congr (fun i _ => by simp)
  rw [h0, h 0 56, show (56 : Nat) = 8 + 48 from rfl, h 1 48, show (48 : Nat) = 8 + 40 from rfl, h 2 40, show (40 : Nat) = 8 + 32 from rfl, h 3 32, show (32 : Nat) = 8 + 24 from rfl, h 4 24, show (24 : Nat) = 8 + 16 from rfl, h 5 16, show (16 : Nat) = 8 + 8 from rfl, h 6 8]
  simp only [Nat.reduceAdd]
  omega

theorem sum_bytes (p0 p1 p2 p3 p4 p5 p6 p7 y : Nat) (h0 : p0 ≤ 8) (h1 : p1 ≤ 8) (h2 : p2 ≤ 8) (h3 : p3 ≤ 8) (h4 : p4 ≤ 8) (h5 : p5 ≤ 8) (h6 : p6 ≤ 8) (h7 : p7 ≤ 8) (hy : y = valB [p0, p1, p2, p3, p4, p5, p6, p7]) :
    (let y4 := y + y / 256; let y5 := y4 + y4 / 65536; let y6 := y5 + y5 / 4294967296; y6 % 128) = p0 + p1 + p2 + p3 + p4 + p5 + p6 + p7 ∧ (let y4 := y + y / 256; let y5 := y4 + y4 / 65536; y5 + y5 / 4294967296) < 18446744073709551616 := by
  simp only [valB] at hy
  have e1 : y / 256 = p1 + 256 * (p2 + 256 * (p3 + 256 * (p4 + 256 * (p5 + 256 * (p6 + 256 * p7))))) := by omega
  dsimp only
  rw [e1]
  obtain ⟨y4, hy4⟩ : ∃ z, z = y + (p1 + 256 * (p2 + 256 * (p3 + 256 * (p4 + 256 * (p5 + 256 * (p6 + 256 * p7)))))) := ⟨_, rfl⟩
  rw [← hy4]
  have e4 : y4 = (p0 + p1) + 256 * ((p1 + p2) + 256 * ((p2 + p3) + 256 * ((p3 + p4) + 256 * ((p4 + p5) + 256 * ((p5 + p6) + 256 * ((p6 + p7) + 256 * p7)))))) := by omega
  have e2 : y4 / 65536 = (p2 + p3) + 256 * ((p3 + p4) + 256 * ((p4 + p5) + 256 * ((p5 + p6) + 256 * ((p6 + p7) + 256 * p7)))) := by omega
  rw [e2]
  obtain ⟨y5, hy5⟩ : ∃ z, z = y4 + ((p2 + p3) + 256 * ((p3 + p4) + 256 * ((p4 + p5) + 256 * ((p5 + p6) + 256 * ((p6 + p7) + 256 * p7))))) := ⟨_, rfl⟩
  rw [← hy5]
  have e5 : y5 = (p0 + p1 + p2 + p3) + 256 * ((p1 + p2 + p3 + p4) + 256 * ((p2 + p3 + p4 + p5) + 256 * ((p3 + p4 + p5 + p6) + 256 * ((p4 + p5 + p6 + p7) + 256 * ((p5 + p6 + p7) + 256 * ((p6 + p7) + 256 * p7)))))) := by omega
  have e3 : y5 / 4294967296 = (p4 + p5 + p6 + p7) + 256 * ((p5 + p6 + p7) + 256 * ((p6 + p7) + 256 * p7)) := by omega
  rw [e3]
  clear hy hy4 hy5 e1 e2 e3 e4
  constructor <;> omega

theorem swar_pop (b : Nat → Bool) : swar (wordN b 64) = cntF b 64 := by
  unfold swar
  have hlt : ∀ x ∈ bytesN b, x < 256 := by
    intro x hx
    simp only [bytesN, List.mem_cons, List.not_mem_nil, or_false] at hx
    rcases hx with rfl | rfl | rfl | rfl | rfl | rfl | rfl | rfl <;> exact byteN_lt _ _
  have m1 : repB 0x55 8 = 0x5555555555555555 := by decide
  have m2 : repB 0x33 8 = 0x3333333333333333 := by decide
  have m3 : repB 0x0f 8 = 0x0f0f0f0f0f0f0f0f := by decide
  have y1 := step1 (bytesN b) hlt
  rw [show (bytesN b).length = 8 from rfl, m1, valB_bytesN] at y1
  dsimp only
  rw [y1]
  have h1 : ∀ x ∈ (bytesN b).map s1, x < 256 := by
    intro x hx
    obtain ⟨c, hc, rfl⟩ := List.mem_map.1 hx
    exact (pop_tab ⟨c, hlt c hc⟩).2.2.1
  have y2 := step2 ((bytesN b).map s1) h1
  rw [show ((bytesN b).map s1).length = 8 from rfl, m2] at y2
  rw [y2]
  have h2 : ∀ x ∈ ((bytesN b).map s1).map s2, x % 16 ≤ 4 ∧ x / 16 ≤ 4 := by
    intro x hx
    obtain ⟨d, hd, rfl⟩ := List.mem_map.1 hx
    obtain ⟨c, hc, rfl⟩ := List.mem_map.1 hd
    exact ⟨(pop_tab ⟨c, hlt c hc⟩).1, (pop_tab ⟨c, hlt c hc⟩).2.1⟩
  have y3 := step3 (((bytesN b).map s1).map s2) h2
  rw [show (((bytesN b).map s1).map s2).length = 8 from rfl, m3] at y3
  rw [y3]
  have h3 : ∀ j, s3 (s2 (s1 (byteN b j))) ≤ 8 := fun j => (pop_tab ⟨_, byteN_lt b j⟩).2.2.2
  have := (sum_bytes _ _ _ _ _ _ _ _ _ (h3 0) (h3 1) (h3 2) (h3 3) (h3 4) (h3 5) (h3 6) (h3 7) rfl).1
  rw [cnt_bytes, ← pop_byteN, ← pop_byteN, ← pop_byteN, ← pop_byteN, ← pop_byteN, ← pop_byteN, ← pop_byteN, ← pop_byteN]
  exact this

end Go.Proofs.Ytpbokmmobepolaa
