/-
  The walks of the laws of chapter 01.
-/
import Derived.Test.YtiidbfopbkbhpaaWord3
import Derived.OpenShut
namespace Go.Proofs.Ytiidbfopbkbhpaa
open Go.RowKit Go.ChangeShapes Go.ChangeAt
set_option linter.unusedVariables false

set_option maxHeartbeats 400000

theorem k_Small1 (w : World) : Calls Try.prog 14 #[.int .i64 (-1)] w fun e w' => e = .returned (.tuple #[.int .i64 (-1), .int .i64 0]) ∧ w = w' := by
  have h := c_Small (-1) w
  rwa [show smallV (-1) = -1 from by decide, show smallE (-1) = 0 from by decide] at h
theorem k_Small2 (w : World) : Calls Try.prog 14 #[.int .i64 1073741824] w fun e w' => e = .returned (.tuple #[.int .i64 0, .int .i64 2]) ∧ w = w' := by
  have h := c_Small 1073741824 w
  rwa [show smallV 1073741824 = 0 from by decide, show smallE 1073741824 = 2 from by decide] at h
theorem k_Named (w : World) : Calls Try.prog 19 #[.int .i64 6] w fun e w' => e = .returned (.tuple #[.int .i64 3, .bool true]) ∧ w = w' := by
  have h := c_Named 6 w (by omega) (by omega)
  rwa [show namV 6 = 3 from by decide, show namIs 6 = true from by decide] at h
theorem k_Narrow (w : World) : Calls Try.prog 23 #[.int .i64 (-1)] w fun e w' => e = .returned (.tuple #[.int .i64 65535, .bool true]) ∧ w = w' := by
  have h := c_Narrow (-1) w (by omega) (by omega)
  rwa [show narV (-1) = 65535 from by decide, show narIs (-1) = true from by decide] at h
theorem k_Oop (w : World) : Calls Try.prog 21 #[.int .i64 3] w fun e w' => e = .returned (.int .i64 6) ∧ w = w' := by
  have h := c_Oop 3 w
  rwa [show oopV 3 = 6 from by decide] at h
theorem k_Put (w : World) : Calls Try.prog 28 #[.int .i64 258] w fun e w' => e = .returned (.slice (some ⟨w.heap.size, 0, none⟩) 4 4) ∧ w.alloc (.cells #[.int .u8 0, .int .u8 0, .int .u8 1, .int .u8 2] 5) = w' := by
  exact c_Put 258 w (by omega) (by omega)

theorem c_known (w : World) : Calls Try.prog 16 #[] w fun e w' => e = .returned (.bool true) ∧ Below w.heap.size w w' := by
  go_enter Try.func16, Try.ntmps16
  go_wp2_with (first
    | (go_at_call 14; first | ((with_reducible refine (k_Small1 _).mono ?_); rintro e w' ⟨rfl, rfl⟩) | ((with_reducible refine (k_Small2 _).mono ?_); rintro e w' ⟨rfl, rfl⟩))
    | (go_at_call 19; refine (k_Named _).mono ?_; rintro e w' ⟨rfl, rfl⟩)
    | (go_at_call 23; refine (k_Narrow _).mono ?_; rintro e w' ⟨rfl, rfl⟩)
    | (go_at_call 21; refine (k_Oop _).mono ?_; rintro e w' ⟨rfl, rfl⟩)
    | (go_at_call 28; refine (k_Put _).mono ?_; rintro e w' ⟨rfl, rfl⟩)
    | (go_at_call 30; refine (c_Same _ _ _ _ _ _ [0, 0, 1, 2] [0, 0, 1, 2] _ rfl rfl ((Reads.made _ [.int .u8 0, .int .u8 0, .int .u8 1, .int .u8 2] _ _).alloc _) (Reads.madeAt (xs := [.int .u8 0, .int .u8 0, .int .u8 1, .int .u8 2]) (by simp)) (by unfold Byt; decide) (by unfold Byt; decide)).mono ?_; rintro e w' ⟨rfl, rfl⟩))
  go_ret
  refine ⟨rfl, ?_⟩
  go_grown


theorem law_WordSmall (n : Int) (w : World) (w0 : (Lit.int .i64 n).wf = true) : Calls Try.prog 3 #[.int .i64 n] w fun e w' => e = .returned (.bool true) ∧ Below w.heap.size w w' := by
  obtain ⟨b0, b1⟩ := bounds_i64 w0
  clear w0
  go_enter Try.func3, Try.ntmps3
  go_wp2_with (first
    | (go_at_call 14; refine (c_Small n _).mono ?_; rintro e w' ⟨rfl, rfl⟩)
    | (go_at_call 15; refine (r_Small n _).mono ?_; rintro e w' ⟨rfl, rfl⟩)
    | (go_at_call 16; refine (c_known _).mono ?_; rintro e w' ⟨rfl, hbel⟩))
  go_ret
  exact ⟨rfl, hbel⟩

theorem law_WordNumber (n : Int) (w : World) (w0 : (Lit.int .i64 n).wf = true) : Calls Try.prog 4 #[.int .i64 n] w fun e w' => e = .returned (.bool true) ∧ Below w.heap.size w w' := by
  obtain ⟨b0, b1⟩ := bounds_i64 w0
  clear w0
  go_enter Try.func4, Try.ntmps4
  go_wp2_with (first
    | (go_at_call 17; refine (c_Number n _ b0 b1).mono ?_; rintro e w' ⟨rfl, rfl⟩)
    | (go_at_call 18; refine (r_Number n _ b0 b1).mono ?_; rintro e w' ⟨rfl, rfl⟩)
    | (go_at_call 16; refine (c_known _).mono ?_; rintro e w' ⟨rfl, hbel⟩))
  go_ret
  exact ⟨rfl, hbel⟩

theorem nam_num (n : Int) : (namIs n && numIs n) = false := by
  unfold namIs numIs
  rw [Bool.and_eq_false_iff]
  by_cases h : n % 2 = 0
  · exact .inr (decide_eq_false (by omega))
  · exact .inl (decide_eq_false (by omega))

theorem law_WordNamed (n : Int) (w : World) (w0 : (Lit.int .i64 n).wf = true) : Calls Try.prog 5 #[.int .i64 n] w fun e w' => e = .returned (.bool true) ∧ Below w.heap.size w w' := by
  obtain ⟨b0, b1⟩ := bounds_i64 w0
  clear w0
  have hn := nam_num n
  cases h1 : namIs n
  all_goals
    simp only [h1, Bool.true_and, Bool.false_and] at hn
    go_enter Try.func5, Try.ntmps5
    go_wp2_with (first
      | (go_at_call 19; refine (c_Named n _ b0 b1).mono ?_; rintro e w' ⟨rfl, rfl⟩)
      | (go_at_call 20; refine (r_Named n _ b0 b1).mono ?_; rintro e w' ⟨rfl, rfl⟩)
      | (go_at_call 17; refine (c_Number n _ b0 b1).mono ?_; rintro e w' ⟨rfl, rfl⟩)
      | (go_at_call 16; refine (c_known _).mono ?_; rintro e w' ⟨rfl, hbel⟩))
    go_ret
    exact ⟨rfl, hbel⟩

theorem law_WordOop (n : Int) (w : World) (w0 : (Lit.int .i64 n).wf = true) : Calls Try.prog 6 #[.int .i64 n] w fun e w' => e = .returned (.bool true) ∧ Below w.heap.size w w' := by
  obtain ⟨b0, b1⟩ := bounds_i64 w0
  clear w0
  by_cases h : 1 ≤ n ∧ n ≤ 1073741823
  · have hc := fun w => c_Oop n w
    have hr := fun w => r_Oop n w
    have hd := fun w => c_Named (2 * n) w (by omega) (by omega)
    simp only [oopV_yes h] at hc hr
    simp only [namV_yes (show 2 * n % 2 = 0 ∧ 2 ≤ 2 * n ∧ 2 * n ≤ 2147483646 from by omega), namIs_yes (show 2 * n % 2 = 0 ∧ 2 ≤ 2 * n ∧ 2 * n ≤ 2147483646 from by omega), show 2 * n / 2 = n from by omega] at hd
    have HC := Lib.hid hc
    have HR := Lib.hid hr
    have HD := Lib.hid hd
    clear hc hr hd
    obtain ⟨h1, h2⟩ := h
    have h3 : (2 * n != 0) = true := by simp; omega
    go_enter Try.func6, Try.ntmps6
    go_wp2_with (first
      | (go_at_call 21; refine (HC.out _).mono ?_; rintro e w' ⟨rfl, rfl⟩)
      | (go_at_call 22; refine (HR.out _).mono ?_; rintro e w' ⟨rfl, rfl⟩)
      | (go_at_call 19; refine (HD.out _).mono ?_; rintro e w' ⟨rfl, rfl⟩)
      | (go_at_call 16; refine (c_known _).mono ?_; rintro e w' ⟨rfl, hbel⟩))
    go_ret
    exact ⟨rfl, hbel⟩
  · have hc := fun w => c_Oop n w
    have hr := fun w => r_Oop n w
    have hd := fun w => c_Named 0 w (by omega) (by omega)
    simp only [oopV_no h] at hc hr
    simp only [show namV 0 = 0 from by decide, show namIs 0 = false from by decide] at hd
    have HC := Lib.hid hc
    have HR := Lib.hid hr
    have HD := Lib.hid hd
    clear hc hr hd
    go_enter Try.func6, Try.ntmps6
    go_wp2_with (first
      | (go_at_call 21; refine (HC.out _).mono ?_; rintro e w' ⟨rfl, rfl⟩)
      | (go_at_call 22; refine (HR.out _).mono ?_; rintro e w' ⟨rfl, rfl⟩)
      | (go_at_call 19; refine (HD.out _).mono ?_; rintro e w' ⟨rfl, rfl⟩)
      | (go_at_call 16; refine (c_known _).mono ?_; rintro e w' ⟨rfl, hbel⟩))
    go_ret
    exact ⟨rfl, hbel⟩

theorem law_WordNumbers (n : Int) (w : World) (w0 : (Lit.int .i64 n).wf = true) : Calls Try.prog 7 #[.int .i64 n] w fun e w' => e = .returned (.bool true) ∧ Below w.heap.size w w' := by
  obtain ⟨b0, b1⟩ := bounds_i64 w0
  clear w0
  go_enter Try.func7, Try.ntmps7
  go_wp2_with (first
    | (go_at_call 14; refine (c_Small n _).mono ?_; rintro e w' ⟨rfl, rfl⟩)
    | (go_at_call 15; refine (r_Small n _).mono ?_; rintro e w' ⟨rfl, rfl⟩)
    | (go_at_call 17; refine (c_Number n _ b0 b1).mono ?_; rintro e w' ⟨rfl, rfl⟩)
    | (go_at_call 18; refine (r_Number n _ b0 b1).mono ?_; rintro e w' ⟨rfl, rfl⟩)
    | (go_at_call 19; refine (c_Named n _ b0 b1).mono ?_; rintro e w' ⟨rfl, rfl⟩)
    | (go_at_call 20; refine (r_Named n _ b0 b1).mono ?_; rintro e w' ⟨rfl, rfl⟩)
    | (go_at_call 23; refine (c_Narrow n _ b0 b1).mono ?_; rintro e w' ⟨rfl, rfl⟩)
    | (go_at_call 24; refine (r_Narrow n _ b0 b1).mono ?_; rintro e w' ⟨rfl, rfl⟩)
    | (go_at_call 25; refine (c_Wide n _).mono ?_; rintro e w' ⟨rfl, rfl⟩)
    | (go_at_call 26; refine (r_Wide n _).mono ?_; rintro e w' ⟨rfl, rfl⟩)
    | (go_at_call 21; refine (c_Oop n _).mono ?_; rintro e w' ⟨rfl, rfl⟩)
    | (go_at_call 22; refine (r_Oop n _).mono ?_; rintro e w' ⟨rfl, rfl⟩)
    | (go_at_call 16; refine (c_known _).mono ?_; rintro e w' ⟨rfl, hbel⟩))
  go_ret
  exact ⟨rfl, hbel⟩

end Go.Proofs.Ytiidbfopbkbhpaa
