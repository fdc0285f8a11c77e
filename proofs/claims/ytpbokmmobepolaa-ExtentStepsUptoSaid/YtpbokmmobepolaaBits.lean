/-
  Contracts of package bits.
-/
import Derived.Test.YtpbokmmobepolaaInts
import Derived.Test.YtpbokmmobepolaaBitsPlain2
namespace Go.Proofs.Ytpbokmmobepolaa
open Go.RowKit
set_option linter.unusedVariables false
set_option maxHeartbeats 1000000

/-- A map in memory. -/
structure MapAt (w : World) (m g n : Nat) (b : Nat → Bool) : Prop where
  head : Row w m 86 [.int .i64 n, .slice (some ⟨g, 0, none⟩) ((n + 63) / 64) ((n + 63) / 64)]
  data : Row w g 90 ((wordsB b ((n + 63) / 64)).map (Value.int .u64))
  out : ∀ i, n ≤ i → b i = false
  small : n ≤ 65536
  ne : m ≠ g

theorem MapAt.keep {w w' : World} {m g n : Nat} {b : Nat → Bool} (h : MapAt w m g n b) {l : List Nat} (u : Upd l w w') (h1 : m ∉ l) (h2 : g ∉ l) : MapAt w' m g n b :=
  ⟨h.head.keep u h1, h.data.keep u h2, h.out, h.small, h.ne⟩

theorem u64_and (x m : Nat) (hx : x < 18446744073709551616) (hm : m < 18446744073709551616) : bits .and .u64 (x : Int) (m : Int) = ((x &&& m : Nat) : Int) := by
  have ha : (BitVec.ofInt 64 (x : Int)).toNat = x := by rw [BitVec.toNat_ofInt]; omega
  have hb : (BitVec.ofInt 64 (m : Int)).toNat = m := by rw [BitVec.toNat_ofInt]; omega
  have key : (BitVec.ofInt 64 (x : Int) &&& BitVec.ofInt 64 (m : Int)).toNat = x &&& m := by rw [BitVec.toNat_and, ha, hb]
  have hl : x &&& m ≤ x := Nat.and_le_left
  show IntKind.u64.wrap ((BitVec.ofInt 64 (x : Int) &&& BitVec.ofInt 64 (m : Int)).toNat : Nat) = ((x &&& m : Nat) : Int)
  rw [key, IntKind.wrap_u64]
  omega
theorem i64_and127 (x : Nat) (hx : x < 9223372036854775808) : bits .and .i64 (x : Int) 127 = ((x % 128 : Nat) : Int) := by
  have h1 : (BitVec.ofInt 64 127).toNat = 2 ^ 7 - 1 := by decide
  have ha : (BitVec.ofInt 64 (x : Int)).toNat = x := by rw [BitVec.toNat_ofInt]; omega
  have key : (BitVec.ofInt 64 (x : Int) &&& BitVec.ofInt 64 127).toNat = x % 2 ^ 7 := by
    rw [BitVec.toNat_and, ha, h1, Nat.and_two_pow_sub_one_eq_mod]
  show IntKind.i64.wrap ((BitVec.ofInt 64 (x : Int) &&& BitVec.ofInt 64 127).toNat : Nat) = ((x % 128 : Nat) : Int)
  rw [key, IntKind.wrap_i64]
  omega

theorem c_Ones (x : Nat) (hx : x < 18446744073709551616) (w : World) : Calls Try.prog 45 #[.int .u64 x] w fun e w' => e = .returned (.int .i64 (swar x)) ∧ w = w' := by
  obtain ⟨A1, hA1⟩ : ∃ z, z = (x / 2) &&& 0x5555555555555555 := ⟨_, rfl⟩
  obtain ⟨A2, hA2⟩ : ∃ z, z = x &&& 0x5555555555555555 := ⟨_, rfl⟩
  obtain ⟨Y1, hY1⟩ : ∃ z, z = A1 + A2 := ⟨_, rfl⟩
  obtain ⟨B1, hB1⟩ : ∃ z, z = (Y1 / 4) &&& 0x3333333333333333 := ⟨_, rfl⟩
  obtain ⟨B2, hB2⟩ : ∃ z, z = Y1 &&& 0x3333333333333333 := ⟨_, rfl⟩
  obtain ⟨Y2, hY2⟩ : ∃ z, z = B1 + B2 := ⟨_, rfl⟩
  obtain ⟨Z3, hZ3⟩ : ∃ z, z = Y2 / 16 + Y2 := ⟨_, rfl⟩
  obtain ⟨Y3, hY3⟩ : ∃ z, z = Z3 &&& 0x0f0f0f0f0f0f0f0f := ⟨_, rfl⟩
  obtain ⟨Y4, hY4⟩ : ∃ z, z = Y3 + Y3 / 256 := ⟨_, rfl⟩
  obtain ⟨Y5, hY5⟩ : ∃ z, z = Y4 + Y4 / 65536 := ⟨_, rfl⟩
  obtain ⟨Y6, hY6⟩ : ∃ z, z = Y5 + Y5 / 4294967296 := ⟨_, rfl⟩
  have hS : swar x = Y6 % 128 := by
    unfold swar
    dsimp only
    rw [← hA1, ← hA2, ← hY1, ← hB1, ← hB2, ← hY2, ← hZ3, ← hY3, ← hY4, ← hY5, ← hY6]
  have a1 : A1 ≤ 0x5555555555555555 := by rw [hA1]; exact Nat.and_le_right
  have a2 : A2 ≤ 0x5555555555555555 := by rw [hA2]; exact Nat.and_le_right
  have c1 : B1 ≤ 0x3333333333333333 := by rw [hB1]; exact Nat.and_le_right
  have c2 : B2 ≤ 0x3333333333333333 := by rw [hB2]; exact Nat.and_le_right
  have c3 : Y3 ≤ 0x0f0f0f0f0f0f0f0f := by rw [hY3]; exact Nat.and_le_right
  have e1 : bits .and .u64 ((x : Int) / 2) 6148914691236517205 = (A1 : Int) := by
    have := u64_and (x / 2) 6148914691236517205 (by omega) (by omega)
    rw [← hA1] at this; exact this
  have e2 : bits .and .u64 (x : Int) 6148914691236517205 = (A2 : Int) := by
    have := u64_and x 6148914691236517205 (by omega) (by omega)
    rw [← hA2] at this; exact this
  have e3 : IntKind.u64.wrap ((A1 : Int) + (A2 : Int)) = (Y1 : Int) := by rw [IntKind.wrap_u64]; omega
  have e4 : bits .and .u64 ((Y1 : Int) / 4) 3689348814741910323 = (B1 : Int) := by
    have := u64_and (Y1 / 4) 3689348814741910323 (by omega) (by omega)
    rw [← hB1] at this; exact this
  have e5 : bits .and .u64 (Y1 : Int) 3689348814741910323 = (B2 : Int) := by
    have := u64_and Y1 3689348814741910323 (by omega) (by omega)
    rw [← hB2] at this; exact this
  have e6 : IntKind.u64.wrap ((B1 : Int) + (B2 : Int)) = (Y2 : Int) := by rw [IntKind.wrap_u64]; omega
  have e7 : IntKind.u64.wrap ((Y2 : Int) / 16 + (Y2 : Int)) = (Z3 : Int) := by rw [IntKind.wrap_u64]; omega
  have e8 : bits .and .u64 (Z3 : Int) 1085102592571150095 = (Y3 : Int) := by
    have := u64_and Z3 1085102592571150095 (by omega) (by omega)
    rw [← hY3] at this; exact this
  have e9 : IntKind.u64.wrap ((Y3 : Int) + (Y3 : Int) / 256) = (Y4 : Int) := by rw [IntKind.wrap_u64]; omega
  have e10 : IntKind.u64.wrap ((Y4 : Int) + (Y4 : Int) / 65536) = (Y5 : Int) := by rw [IntKind.wrap_u64]; omega
  have e11 : IntKind.u64.wrap ((Y5 : Int) + (Y5 : Int) / 4294967296) = (Y6 : Int) := by rw [IntKind.wrap_u64]; omega
  have e12 : bits .and .i64 (Y6 : Int) 127 = ((Y6 % 128 : Nat) : Int) := i64_and127 Y6 (by omega)
  have y6 : Y6 ≤ 9223372036854775807 := by omega
  have y1 : Y1 ≤ 18446744073709551615 := by omega
  have y2 : Y2 ≤ 18446744073709551615 := by omega
  have y5 : Y5 ≤ 18446744073709551615 := by omega
  have y4 : Y4 ≤ 18446744073709551615 := by omega
  rw [hS]
  clear hA1 hA2 hY1 hB1 hB2 hY2 hZ3 hY3 hY4 hY5 hY6 hS
  obtain ⟨R, hR⟩ : ∃ R, R = Y6 % 128 := ⟨_, rfl⟩
  rw [← hR] at e12 ⊢
  clear hR
  go_enter Try.func45, Try.ntmps45
  go_wp2
  go_ret
  exact ⟨rfl, rfl⟩

theorem bit_int (x i : Nat) (hx : x < 18446744073709551616) : bits .and .u64 ((x : Int) / 2 ^ i) 1 = if x.testBit i then 1 else 0 := by
  have h1 : (x : Int) / 2 ^ i = ((x / 2 ^ i : Nat) : Int) := by simp
  have h2 : x / 2 ^ i ≤ x := Nat.div_le_self _ _
  have := u64_and (x / 2 ^ i) 1 (by omega) (by omega)
  rw [h1]
  rw [show ((1 : Nat) : Int) = 1 from rfl] at this
  rw [this, Nat.and_one_is_mod, Nat.testBit_eq_decide_div_mod_eq]
  by_cases h : x / 2 ^ i % 2 = 1
  · simp [h]
  · have h0 : x / 2 ^ i % 2 = 0 := by omega
    simp [h0]

/-- Whether one is taken, of whatever number. -/
def hasB (b : Nat → Bool) (p : Int) : Bool := decide (0 ≤ p) && b p.toNat

theorem c_HasN (m g n : Nat) (b : Nat → Bool) (w : World) (h : MapAt w m g n b) (p : Nat) (hp : p < n) :
    Calls Try.prog 40 #[.pointer (some ⟨m, 0, none⟩), .int .i64 p] w fun e w' => e = .returned (.bool (b p)) ∧ w = w' := by
  have k0 := h.head.cell (i := 0) rfl
  have k1 := h.head.cell (i := 1) rfl
  have hsm := h.small
  have hj : p / 64 < (n + 63) / 64 := by omega
  have kc := h.data.cell (getD_map8 (k := .u64) (show p / 64 < (wordsB b ((n + 63) / 64)).length from by rw [wordsB_len]; exact hj))
  rw [wordsB_get hj] at kc
  have hb := bit_int (wd b (p / 64)) (p % 64) (wd_lt _ _)
  rw [wd_bit] at hb
  clear h
  obtain ⟨W, hW⟩ : ∃ W, W = (n + 63) / 64 := ⟨_, rfl⟩
  rw [← hW] at k1 hj
  clear hW
  cases hbp : b p
  all_goals
    rw [hbp] at hb
    clear hbp
    go_enter Try.func40, Try.ntmps40
    go_wp2
    go_ret
    exact ⟨rfl, rfl⟩

theorem c_Has (m g n : Nat) (b : Nat → Bool) (w : World) (h : MapAt w m g n b) (p : Int) :
    Calls Try.prog 40 #[.pointer (some ⟨m, 0, none⟩), .int .i64 p] w fun e w' => e = .returned (.bool (hasB b p)) ∧ w = w' := by
  by_cases h0 : p < 0
  · have hf : hasB b p = false := by unfold hasB; simp; omega
    rw [hf]
    clear h
    go_enter Try.func40, Try.ntmps40
    go_wp2
    go_ret
    exact ⟨rfl, rfl⟩
  · obtain ⟨q, rfl⟩ := Int.eq_ofNat_of_zero_le (show 0 ≤ p from by omega)
    have hf : hasB b (q : Int) = b q := by unfold hasB; simp
    rw [hf]
    by_cases hq : q < n
    · exact c_HasN m g n b w h q hq
    · have hb := h.out q (by omega)
      have k0 := h.head.cell (i := 0) rfl
      rw [hb]
      clear h hb hf
      go_enter Try.func40, Try.ntmps40
      go_wp2
      go_ret
      exact ⟨rfl, rfl⟩

end Go.Proofs.Ytpbokmmobepolaa
