/-
  The walks of the laws of chapter 03.
-/
import Derived.Test.YtbmenldopeplcaaDisk3
import Derived.Test.YtbmenldopeplcaaSame
import Derived.OpenShut
namespace Go.Proofs.Ytbmenldopeplcaa
open Go.RowKit Go.ChangeShapes Go.ChangeAt
set_option linter.unusedVariables false

set_option maxHeartbeats 1000000

theorem zeros_byt (n : Nat) : Byt (List.replicate n 0) := fun x hx => by rw [List.eq_of_mem_replicate hx]; omega

theorem sector_zeros {n i : Nat} (hi : i < n) : sector (List.replicate (64 * n) 0) i = List.replicate 64 0 := by
  unfold sector
  rw [List.drop_replicate, List.take_replicate, Nat.min_eq_left (by omega)]

theorem used_zeros (n k : Nat) (h : k ≤ n) : usedN (List.replicate (64 * n) 0) k = 0 := by
  induction k with
  | zero => rfl
  | succ k ih =>
    rw [usedN_succ, ih (by omega), sector_zeros (by omega)]
    decide

theorem law_DiskNew (n at_ : Int) (w : World) (w0 : (Lit.int .i64 n).wf = true) (w1 : (Lit.int .i64 at_).wf = true) :
    Calls Try.prog 4 #[.int .i64 n, .int .i64 at_] w fun e w' => e = .returned (.bool true) ∧ Below w.heap.size w w' := by
  obtain ⟨b0, b1⟩ := bounds_i64 w0
  obtain ⟨b2, b3⟩ := bounds_i64 w1
  clear w0 w1
  by_cases hn : n < 0 ∨ 20000 < n
  · by_cases hn0 : n < 0
    all_goals
      (try have hn1 : 20000 < n := by omega)
      have HN := Lib.hid (c_NewNo n w b0 b1 hn)
      clear hn
      go_enter Try.func4, Try.ntmps4
      go_wp2_with (first
        | (go_at_call 14; refine HN.out.mono ?_; rintro e w' ⟨rfl, rfl⟩)
        | (go_at_call 13; refine (c_known03 _).mono ?_; rintro e w' ⟨rfl, hbel⟩))
      go_ret
      exact ⟨rfl, hbel⟩
  · obtain ⟨k, rfl⟩ := Int.eq_ofNat_of_zero_le (show 0 ≤ n from by omega)
    have hk : k ≤ 20000 := by omega
    clear hn
    by_cases hin : 0 ≤ at_ ∧ at_ < k
    · obtain ⟨i, rfl⟩ := Int.eq_ofNat_of_zero_le hin.1
      have hi : i < k := by omega
      clear hin
      go_enter Try.func4, Try.ntmps4
      go_wp2_with fail
      refine (c_NewYes k _ hk).mono ?_
      rintro e w1 ⟨d, g, rfl, hd, hg, D1, U1⟩
      have HD1 := Lib.hid D1
      have HU1 := Lib.hid (U1.mono (m := [d, g]) (by simp))
      clear D1 U1
      go_wp2_with fail
      refine (c_Read d g k 0 0 _ _ HD1.out (by omega) i hi).mono ?_
      rintro e w2 ⟨v, rfl, own, D2, U2⟩
      rw [sector_zeros hi] at own
      obtain ⟨gv, cv, rfl, hgv, hgl, hcv, hcell⟩ := owns_at own (by omega)
      have HR := Lib.hid (show Reads w2 (some ⟨gv, 0, none⟩) cv ((List.replicate 64 0).map (Value.int .u8)) from .inr ⟨_, rfl, fun i u hu => by rw [add_flat, Nat.zero_add]; exact hcell i u hu⟩)
      have HD2 := Lib.hid D2
      have HU2 := Lib.hid (HU1.out.trans (U2.mono (m := [d, g]) (by simp)))
      have HUsed := Lib.hid (fun w h => c_Used _ _ _ _ _ _ w h : ∀ w, DiskAt w d g k 1 0 (List.replicate (64 * k) 0) → _)
      rw [used_zeros k k (Nat.le_refl _)] at HUsed
      clear D2 U2 hcell own
      go_wp2_with fail
      refine (c_Calls _ _ _ _ _ _ _ HD2.out).mono ?_
      rintro e w3 ⟨rfl, U3⟩
      have HD3 := Lib.hid (HD2.out.keep U3 (by simp) (by simp))
      have HU3 := Lib.hid (HU2.out.trans (U3.mono (m := [d, g]) (by simp)))
      have HR3 := Lib.hid (U3.reads HR.out (by simp))
      clear U3
      go_wp2_with (first
        | (go_at_call 22; refine (HUsed.out _ HD3.out).mono ?_; rintro e w' ⟨rfl, rfl⟩)
        | (go_at_call 21; refine (c_Len d g k 1 0 _ _ HD3.out).mono ?_; rintro e w' ⟨rfl, rfl⟩)
        | (at_make; (refine wpList_mk rfl _ _ 22 rfl 5 (.int .u8 0) 1 Try.underlying22 inf_u8 rfl .i64 .i64 _ _ 64 rfl rfl rfl rfl (by omega) (by unfold maxLen; omega) ?_)))
      intro w4 row4 U4
      have HR4 := Lib.hid (U4.reads HR3.out (by simp))
      have HX := Lib.hid (show Reads w4 (some ⟨w3.heap.size, 0, none⟩) 64 ((List.replicate 64 0).map (Value.int .u8)) from row4.reads (fun i u hu => by rw [Nat.zero_add]; rwa [List.map_replicate] at hu))
      have HU4 := Lib.hid (HU3.out.trans (U4.mono (m := [d, g]) (by simp)))
      clear row4 U4
      go_wp2_with (first
        | (go_at_call 19; refine (c_Same _ _ _ _ _ _ (List.replicate 64 0) (List.replicate 64 0) _ (by simp) (by simp) HR4.out HX.out (zeros_byt _) (zeros_byt _)).mono ?_; rintro e w' ⟨rfl, rfl⟩)
        | (go_at_call 13; refine (c_known03 _).mono ?_; rintro e w' ⟨rfl, hbel⟩))
      go_ret
      refine ⟨rfl, bNext (HU4.out.below (Nat.le_refl _) ?_) hbel⟩
      intro x hx
      simp at hx
      rcases hx with rfl | rfl <;> assumption
    · by_cases hneg : at_ < 0
      all_goals
        (try have hge : (k : Int) ≤ at_ := by omega)
        have hio : at_ < 0 ∨ (k : Int) ≤ at_ := by omega
        have HIO := Lib.hid hio
        clear hin hio
        go_enter Try.func4, Try.ntmps4
        go_wp2_with fail
        refine (c_NewYes k _ hk).mono ?_
        rintro e w1 ⟨d, g, rfl, hd, hg, D1, U1⟩
        have HD1 := Lib.hid D1
        have HU1 := Lib.hid (U1.mono (m := [d, g]) (by simp))
        clear D1 U1
        go_wp2_with fail
        refine (c_ReadNo d g k 0 0 _ _ HD1.out at_ HIO.out).mono ?_
        rintro e w2 ⟨rfl, rfl⟩
        have HUsed := Lib.hid (fun w h => c_Used _ _ _ _ _ _ w h : ∀ w, DiskAt w d g k 0 0 (List.replicate (64 * k) 0) → _)
        rw [used_zeros k k (Nat.le_refl _)] at HUsed
        go_wp2_with fail
        refine (c_Calls _ _ _ _ _ _ _ HD1.out).mono ?_
        rintro e w3 ⟨rfl, U3⟩
        have HD3 := Lib.hid (HD1.out.keep U3 (by simp) (by simp))
        have HU3 := Lib.hid (HU1.out.trans (U3.mono (m := [d, g]) (by simp)))
        clear U3
        go_wp2_with (first
          | (go_at_call 22; refine (HUsed.out _ HD3.out).mono ?_; rintro e w' ⟨rfl, rfl⟩)
          | (go_at_call 21; refine (c_Len d g k 0 0 _ _ HD3.out).mono ?_; rintro e w' ⟨rfl, rfl⟩)
          | (go_at_call 13; refine (c_known03 _).mono ?_; rintro e w' ⟨rfl, hbel⟩))
        go_ret
        refine ⟨rfl, bNext (HU3.out.below (Nat.le_refl _) ?_) hbel⟩
        intro x hx
        simp at hx
        rcases hx with rfl | rfl <;> assumption

end Go.Proofs.Ytbmenldopeplcaa
