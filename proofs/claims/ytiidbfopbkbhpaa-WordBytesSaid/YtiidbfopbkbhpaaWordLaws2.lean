/-
  The walks of the laws of chapter 01, those over bytes and narrow words.
-/
import Derived.Test.YtiidbfopbkbhpaaWordLaws
namespace Go.Proofs.Ytiidbfopbkbhpaa
open Go.RowKit Go.ChangeShapes Go.ChangeAt
set_option linter.unusedVariables false

set_option maxHeartbeats 400000

theorem law_WordNarrow (n : Int) (w : World) (w0 : (Lit.int .u16 n).wf = true) : Calls Try.prog 8 #[.int .u16 n] w fun e w' => e = .returned (.bool true) ∧ Below w.heap.size w w' := by
  obtain ⟨b0, b1⟩ := bounds_u16 w0
  clear w0
  by_cases hp : n % 2 = 1
  · have hv : widV n = wid16 n := widV_yes (by omega)
    have hi : widIs n = true := widIs_yes (by omega)
    have hr : -32768 ≤ wid16 n ∧ wid16 n ≤ 32767 ∧ wid16 n % 2 = 1 ∧ wid16 n % 65536 = n := by unfold wid16; split <;> omega
    have hc := fun w => c_Wide n w
    simp only [hv, hi] at hc
    have hn := fun w => c_Narrow (wid16 n) w (by omega) (by omega)
    simp only [narV_yes (show wid16 n % 2 = 1 ∧ -32767 ≤ wid16 n ∧ wid16 n ≤ 32767 from by omega), narIs_yes (show wid16 n % 2 = 1 ∧ -32767 ≤ wid16 n ∧ wid16 n ≤ 32767 from by omega), show wid16 n / 2 * 2 % 65536 + 1 = n from by omega] at hn
    have hm := fun w => c_Number (wid16 n) w (by omega) (by omega)
    simp only [numV_yes (show wid16 n % 2 = 1 ∧ -2147483647 ≤ wid16 n ∧ wid16 n ≤ 2147483647 from by omega), numIs_yes (show wid16 n % 2 = 1 ∧ -2147483647 ≤ wid16 n ∧ wid16 n ≤ 2147483647 from by omega)] at hm
    have h1 : -16384 ≤ wid16 n / 2 := by omega
    have h2 : wid16 n / 2 ≤ 16383 := by omega
    have HC := Lib.hid hc
    have HN := Lib.hid hn
    have HM := Lib.hid hm
    clear hc hn hm hr hp hv hi
    go_enter Try.func8, Try.ntmps8
    go_wp2_with (first
      | (go_at_call 25; refine (HC.out _).mono ?_; rintro e w' ⟨rfl, rfl⟩)
      | (go_at_call 23; refine (HN.out _).mono ?_; rintro e w' ⟨rfl, rfl⟩)
      | (go_at_call 17; refine (HM.out _).mono ?_; rintro e w' ⟨rfl, rfl⟩)
      | (go_at_call 16; refine (c_known _).mono ?_; rintro e w' ⟨rfl, hbel⟩))
    go_ret
    exact ⟨rfl, hbel⟩
  · have hv : widV n = 0 := widV_no (by omega)
    have hi : widIs n = false := widIs_no (by omega)
    have hc := fun w => c_Wide n w
    simp only [hv, hi] at hc
    have hn := fun w => c_Narrow 0 w (by omega) (by omega)
    simp only [show narV 0 = 0 from by decide, show narIs 0 = false from by decide] at hn
    have hm := fun w => c_Number 0 w (by omega) (by omega)
    simp only [show numV 0 = 0 from by decide, show numIs 0 = false from by decide] at hm
    have h1 : (n % 2 == 0) = true := by simp; omega
    have HC := Lib.hid hc
    have HN := Lib.hid hn
    have HM := Lib.hid hm
    clear hc hn hm hp hv hi
    go_enter Try.func8, Try.ntmps8
    go_wp2_with (first
      | (go_at_call 25; refine (HC.out _).mono ?_; rintro e w' ⟨rfl, rfl⟩)
      | (go_at_call 23; refine (HN.out _).mono ?_; rintro e w' ⟨rfl, rfl⟩)
      | (go_at_call 17; refine (HM.out _).mono ?_; rintro e w' ⟨rfl, rfl⟩)
      | (go_at_call 16; refine (c_known _).mono ?_; rintro e w' ⟨rfl, hbel⟩))
    go_ret
    exact ⟨rfl, hbel⟩

theorem getV_put4 (o : Int) : getV (put4 o) 0 = wrap32 o := by
  unfold getV put4
  rw [if_pos (by simp)]
  show be4 (o / 16777216 % 256) (o / 65536 % 256) (o / 256 % 256) (o % 256) = wrap32 o
  unfold be4 wrap32
  omega

theorem getE_put4 (o : Int) : getE (put4 o).length 0 = 0 := by
  unfold getE
  rw [if_pos (by simp [put4])]

/-- The four bytes of a number are read as that number's lowest 32 bits. -/
theorem c_GetPut (b n c : Nat) (o v : Int) (w : World) (e0 : n = 4) (hc : 4 ≤ c) (hv : wrap32 o = v) (h : Reads w (some ⟨b, 0, none⟩) c ((put4 o).map (Value.int .u8))) :
    Calls Try.prog 27 #[.slice (some ⟨b, 0, none⟩) n c, .int .i64 0] w fun e w' => e = .returned (.tuple #[.int .i64 v, .int .i64 0]) ∧ w = w' := by
  subst e0; subst hv
  have k := c_Get (some ⟨b, 0, none⟩) 4 c (put4 o) 0 w rfl hc (by omega) h (put4_byt o) (by omega) (by omega)
  rwa [getV_put4, getE_put4] at k

theorem law_WordGet (a : Option Addr) (n c : Nat) (z : List Int) (p : Int) (w : World) (w0 : Came .u8 w a n c z) (w1 : (Lit.int .i64 p).wf = true) :
    Calls Try.prog 10 #[.slice a n c, .int .i64 p] w fun e w' => e = .returned (.bool true) ∧ Below w.heap.size w w' := by
  obtain ⟨b0, b1⟩ := bounds_i64 w1
  obtain ⟨l, hn, hc, hm, hr, hw⟩ := w0.reads
  have hb : Byt l := fun x hx => bounds_u8 (hw x hx)
  unfold maxLen at hm
  clear w0 w1 hw
  by_cases hl : 4000 < n
  · clear hn hr hb
    go_enter Try.func10, Try.ntmps10
    go_wp2_with (go_at_call 16; refine (c_known _).mono ?_; rintro e w' ⟨rfl, hbel⟩)
    go_ret
    exact ⟨rfl, hbel⟩
  · have hg := fun w hr => c_Get a n c l p w hn hc (by omega) hr hb b0 b1
    have hg2 := fun w hr => r_Get a n c l p w hn (by omega) hr hb b0 b1
    have HR := Lib.hid hr
    have HE := Lib.hid (show getE l.length p = 0 ∨ getV l p = 0 from by
      unfold getE getV
      by_cases h : 0 ≤ p ∧ p + 4 ≤ l.length
      · exact .inl (by rw [if_pos h])
      · exact .inr (by rw [if_neg h]))
    have HG := Lib.hid hg
    have HG2 := Lib.hid hg2
    clear hg hg2 hr hn hb
    rcases HE.out with he | he
    · have hq : (getE l.length p == 0) = true := by simp [he]
      clear he HE
      go_enter Try.func10, Try.ntmps10
      go_wp2_with (first
        | (go_at_call 27; refine (HG.out _ HR.out).mono ?_; rintro e w' ⟨rfl, rfl⟩)
        | (go_at_call 29; refine (HG2.out _ HR.out).mono ?_; rintro e w' ⟨rfl, rfl⟩)
        | (go_at_call 16; refine (c_known _).mono ?_; rintro e w' ⟨rfl, hbel⟩))
      go_ret
      exact ⟨rfl, hbel⟩
    · have hq : (getV l p == 0) = true := by simp [he]
      clear he HE
      cases hq2 : (getE l.length p == 0)
      all_goals
        go_enter Try.func10, Try.ntmps10
        go_wp2_with (first
          | (go_at_call 27; refine (HG.out _ HR.out).mono ?_; rintro e w' ⟨rfl, rfl⟩)
          | (go_at_call 29; refine (HG2.out _ HR.out).mono ?_; rintro e w' ⟨rfl, rfl⟩)
          | (go_at_call 16; refine (c_known _).mono ?_; rintro e w' ⟨rfl, hbel⟩))
        go_ret
        exact ⟨rfl, hbel⟩

theorem law_WordNames (a b : Int) (w : World) (w0 : (Lit.int .i64 a).wf = true) (w1 : (Lit.int .i64 b).wf = true) :
    Calls Try.prog 9 #[.int .i64 a, .int .i64 b] w fun e w' => e = .returned (.bool true) ∧ Below w.heap.size w w' := by
  obtain ⟨b0, b1⟩ := bounds_i64 w0
  obtain ⟨b2, b3⟩ := bounds_i64 w1
  clear w0 w1
  by_cases ha : 1 ≤ a ∧ a ≤ 1073741823
  · by_cases hb : 1 ≤ b ∧ b ≤ 1073741823
    · have hA := fun w => c_Oop a w
      have hB := fun w => c_Oop b w
      simp only [oopV_yes ha] at hA
      simp only [oopV_yes hb] at hB
      have hD := fun w => c_Named (2 * a) w (by omega) (by omega)
      simp only [namV_yes (show 2 * a % 2 = 0 ∧ 2 ≤ 2 * a ∧ 2 * a ≤ 2147483646 from by omega), namIs_yes (show 2 * a % 2 = 0 ∧ 2 ≤ 2 * a ∧ 2 * a ≤ 2147483646 from by omega), show 2 * a / 2 = a from by omega] at hD
      have hM := fun w => c_Number (2 * a) w (by omega) (by omega)
      simp only [numV_no (show ¬ (2 * a % 2 = 1 ∧ -2147483647 ≤ 2 * a ∧ 2 * a ≤ 2147483647) from by omega), numIs_no (show ¬ (2 * a % 2 = 1 ∧ -2147483647 ≤ 2 * a ∧ 2 * a ≤ 2147483647) from by omega)] at hM
      have hN := fun w => c_Narrow (2 * a) w (by omega) (by omega)
      simp only [narV_no (show ¬ (2 * a % 2 = 1 ∧ -32767 ≤ 2 * a ∧ 2 * a ≤ 32767) from by omega), narIs_no (show ¬ (2 * a % 2 = 1 ∧ -32767 ≤ 2 * a ∧ 2 * a ≤ 32767) from by omega)] at hN
      obtain ⟨h1, h2⟩ := ha
      obtain ⟨h3, h4⟩ := hb
      have q1 : (2 * a == 0) = false := by simp; omega
      have q2 : (2 * b == 0) = false := by simp; omega
      have q3 : ((2 * a == 2 * b) == (a == b)) = true := by
        rw [beq_iff_eq, Bool.eq_iff_iff, beq_iff_eq, beq_iff_eq]; omega
      have HA := Lib.hid hA
      have HB := Lib.hid hB
      have HD := Lib.hid hD
      have HM := Lib.hid hM
      have HN := Lib.hid hN
      clear hA hB hD hM hN
      go_enter Try.func9, Try.ntmps9
      go_wp2_with fail
      refine (HA.out _).mono ?_; rintro e w' ⟨rfl, rfl⟩
      go_wp2_with fail
      refine (HB.out _).mono ?_; rintro e w' ⟨rfl, rfl⟩
      go_wp2_with (first
        | (go_at_call 19; refine (HD.out _).mono ?_; rintro e w' ⟨rfl, rfl⟩)
        | (go_at_call 17; refine (HM.out _).mono ?_; rintro e w' ⟨rfl, rfl⟩)
        | (go_at_call 23; refine (HN.out _).mono ?_; rintro e w' ⟨rfl, rfl⟩)
        | (go_at_call 28; refine (c_Put (2 * a) _ (by omega) (by omega)).mono ?_; rintro e w' ⟨rfl, rfl⟩)
        | (go_at_call 27; refine (c_GetPut _ _ _ (2 * a) (2 * a) _ rfl (by omega) (IntWalk.wrap32_in (2 * a) (by omega)) (put_reads _ _ _ _)).mono ?_; rintro e w' ⟨rfl, rfl⟩)
        | (go_at_call 16; refine (c_known _).mono ?_; rintro e w' ⟨rfl, hbel⟩))
      go_ret
      exact ⟨rfl, ((Below.refl _ _).alloc (Nat.le_refl _) _).trans (hbel.mono (by simp))⟩
    · have hA := fun w => c_Oop a w
      have hB := fun w => c_Oop b w
      simp only [oopV_yes ha] at hA
      simp only [oopV_no hb] at hB
      have q1 : (2 * a == 0) = false := by simp; omega
      have HA := Lib.hid hA
      have HB := Lib.hid hB
      clear hA hB
      obtain ⟨h1, h2⟩ := ha
      have d1 : (decide (a < 1) || decide (1073741824 ≤ a) || decide (b < 1) || decide (1073741824 ≤ b)) = true := by simp; omega
      go_enter Try.func9, Try.ntmps9
      go_wp2_with fail
      refine (HA.out _).mono ?_; rintro e w' ⟨rfl, rfl⟩
      go_wp2_with fail
      refine (HB.out _).mono ?_; rintro e w' ⟨rfl, rfl⟩
      go_wp2_with (go_at_call 16; refine (c_known _).mono ?_; rintro e w' ⟨rfl, hbel⟩)
      all_goals (go_ret; exact ⟨rfl, hbel⟩)
  · have hA := fun w => c_Oop a w
    simp only [oopV_no ha] at hA
    have HA := Lib.hid hA
    clear hA
    have d1 : (decide (a < 1) || decide (1073741824 ≤ a) || decide (b < 1) || decide (1073741824 ≤ b)) = true := by simp; omega
    go_enter Try.func9, Try.ntmps9
    go_wp2_with fail
    refine (HA.out _).mono ?_; rintro e w' ⟨rfl, rfl⟩
    go_wp2_with fail
    refine (c_Oop b _).mono ?_; rintro e w' ⟨rfl, rfl⟩
    go_wp2_with (go_at_call 16; refine (c_known _).mono ?_; rintro e w' ⟨rfl, hbel⟩)
    all_goals (go_ret; exact ⟨rfl, hbel⟩)

end Go.Proofs.Ytiidbfopbkbhpaa
