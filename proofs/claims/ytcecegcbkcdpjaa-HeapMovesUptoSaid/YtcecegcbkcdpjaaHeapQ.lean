/-
  The law HeapNew.
-/
import Derived.Test.YtcecegcbkcdpjaaHeapP
namespace Go.Proofs.Ytcecegcbkcdpjaa
open Go.RowKit
set_option linter.unusedVariables false
set_option maxHeartbeats 4000000

theorem good_new (N : Nat) : Good (newH N) := ⟨⟨by simp [usedL, newH, usedN], by simp [usedL, newH, usedN], by simp [usedL, newH, usedN]⟩, by simp [usedL, newH, usedN], by simp [usedL, newH, usedN]⟩
theorem gaps_new (N : Nat) : gapsOf (newH N) (usedL (newH N)) = if 0 < N then [(0, N)] else [] := by
  unfold gapsOf; rfl
theorem law_HeapNew (n : Int) (w : World) (w0 : (Lit.int .i64 n).wf = true) : Calls Try.prog 9 #[.int .i64 n] w fun e w' => e = .returned (.bool true) ∧ Below w.heap.size w w' := by
  obtain ⟨b0, b1⟩ := bounds_i64 w0
  clear w0
  by_cases hn : n < 0
  · go_enter Try.func9, Try.ntmps9
    go_wp2_with (first | (go_at_call 25; refine (c_HNewNo n _ (.inl hn)).mono ?_; rintro e w' ⟨rfl, rfl⟩) | (go_at_call 31; refine (c_known07 _).mono ?_; rintro e w' ⟨rfl, hbel⟩))
    go_ret
    exact ⟨rfl, hbel⟩
  · by_cases hn2 : 32768 < n
    · go_enter Try.func9, Try.ntmps9
      go_wp2_with (first | (go_at_call 25; refine (c_HNewNo n _ (.inr hn2)).mono ?_; rintro e w' ⟨rfl, rfl⟩) | (go_at_call 31; refine (c_known07 _).mono ?_; rintro e w' ⟨rfl, hbel⟩))
      go_ret
      exact ⟨rfl, hbel⟩
    · obtain ⟨N, rfl⟩ := Int.eq_ofNat_of_zero_le (show 0 ≤ n from by omega)
      have hN : N ≤ 32768 := by omega
      go_enter Try.func9, Try.ntmps9
      go_wp2_with fail
      refine (x_New N _ hN).mono ?_
      rintro e w1 ⟨h, g, rfl, h1, u1⟩
      have H1 := Lib.hid h1
      have U1 := Lib.hid u1
      have hrm := x_HRoom h1 (good_new N)
      rw [gaps_new] at hrm
      have h2 : allOf (if 0 < N then [(0, N)] else []) = N ∧ mostOf (if 0 < N then [(0, N)] else []) = N := by
        split
        · exact ⟨by simp [allOf], by simp [mostOf]⟩
        · have : N = 0 := by omega
          subst this; exact ⟨rfl, rfl⟩
      rw [h2.1, h2.2] at hrm
      have HR := Lib.hid hrm
      clear h1 u1 hrm h2
      go_wp2_with fail
      refine HR.out.mono ?_
      rintro e w2 ⟨rfl, hb2⟩
      have H2 := Lib.hid (H1.out.below hb2)
      have U2 := Lib.hid (U1.out.trans (.of_below hb2))
      clear hb2 HR H1 U1
      obtain ⟨vb, hx⟩ := H2.out
      have HBL := Lib.hid (c_HBlocks hx)
      clear hx
      go_wp2_with fail
      refine HBL.out.mono ?_
      rintro e w3 ⟨v, rfl, ho, hb3⟩
      have H3 := Lib.hid (H2.out.below hb3)
      have U3 := Lib.hid (U2.out.trans (.of_below hb3))
      obtain ⟨va, vc, rfl, -, -, -⟩ := owns_reads ho
      clear hb3 ho HBL H2 U2
      have e0 : (usedTo (newH N).bl (newH N).bl.length).length = 0 := rfl
      rw [e0]
      obtain ⟨vb3, hx3⟩ := H3.out
      have HS := Lib.hid (c_SizeNo hx3 0 rfl)
      have HA := Lib.hid (c_AtNo hx3 0 rfl)
      have HC := Lib.hid (x_Compact H3.out (good_new N) (fun j hj => absurd hj (Nat.not_lt_zero _)) 0 rfl)
      clear hx3
      go_wp2_with fail
      refine HS.out.mono ?_
      rintro e w' ⟨rfl, rfl⟩
      go_wp2_with fail
      refine HA.out.mono ?_
      rintro e w' ⟨rfl, rfl⟩
      go_wp2_with fail
      refine HC.out.mono ?_
      rintro e w4 ⟨rfl, hx4, hu4⟩
      have U4 := Lib.hid (U3.out.trans hu4)
      clear hx4 hu4
      go_wp2_with fail
      refine (c_known07 _).mono ?_
      rintro e w5 ⟨rfl, hb5⟩
      have U5 := Lib.hid (U4.out.trans (.of_below hb5))
      clear hb5
      go_wp2
      go_ret
      exact ⟨rfl, U5.out.belowB (Nat.le_refl _)⟩

end Go.Proofs.Ytcecegcbkcdpjaa
