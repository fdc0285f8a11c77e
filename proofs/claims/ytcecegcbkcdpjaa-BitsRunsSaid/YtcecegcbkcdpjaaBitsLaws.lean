/-
  The walks of the laws BitsNew, BitsApart, BitsFull.
-/
import Derived.Test.YtcecegcbkcdpjaaBits5
namespace Go.Proofs.Ytcecegcbkcdpjaa
open Go.RowKit
set_option linter.unusedVariables false
set_option maxHeartbeats 2000000
set_option maxRecDepth 100000

theorem runsR_none : ∀ n, runsR (fun _ => false) n = []
  | 0 => rfl
  | n + 1 => by rw [runsR, runsR_none n]; rfl
theorem cntF_none (n : Nat) : cntF (fun _ => false) n = 0 := by rw [cntF_const]; rfl

theorem law_BitsNew (n : Int) (w : World) (w0 : (Lit.int .i64 n).wf = true) : Calls Try.prog 3 #[.int .i64 n] w fun e w' => e = .returned (.bool true) ∧ Below w.heap.size w w' := by
  obtain ⟨b0, b1⟩ := bounds_i64 w0
  clear w0
  by_cases hn : n < 0
  · go_enter Try.func3, Try.ntmps3
    go_wp2_with (first | (go_at_call 13; refine (c_BNewNo n _ b0 b1 (.inl hn)).mono ?_; rintro e w' ⟨rfl, rfl⟩) | (go_at_call 14; refine (c_known02 _).mono ?_; rintro e w' ⟨rfl, hbel⟩))
    go_ret
    exact ⟨rfl, hbel⟩
  · by_cases hn2 : 65536 < n
    · go_enter Try.func3, Try.ntmps3
      go_wp2_with (first | (go_at_call 13; refine (c_BNewNo n _ b0 b1 (.inr hn2)).mono ?_; rintro e w' ⟨rfl, rfl⟩) | (go_at_call 14; refine (c_known02 _).mono ?_; rintro e w' ⟨rfl, hbel⟩))
      go_ret
      exact ⟨rfl, hbel⟩
    · obtain ⟨N, rfl⟩ := Int.eq_ofNat_of_zero_le (show 0 ≤ n from by omega)
      have hN : N ≤ 65536 := by omega
      obtain ⟨ok, hok⟩ : ∃ ok : Bool, ok = decide (0 < N) := ⟨_, rfl⟩
      go_enter Try.func3, Try.ntmps3
      go_wp2_with fail
      refine (c_BNewYes N _ hN).mono ?_
      rintro e w1 ⟨m, g, rfl, h1, h2, T1, U1⟩
      have HF : Hid (Calls Try.prog 15 #[.pointer (some ⟨m, 0, none⟩), .int .i64 N] w1 fun e w' => e = .returned (.tuple #[.int .i64 0, .bool ok]) ∧ w1 = w') := by
        by_cases h0 : N = 0
        · subst h0
          refine (c_First m g 0 _ w1 T1 _ (by decide)).mono ?_
          rintro e w' ⟨⟨o, ho, rfl⟩, rfl⟩
          rcases ho with ⟨_, rfl⟩ | ⟨h, _⟩
          · rw [hok]; exact ⟨rfl, rfl⟩
          · exact absurd h (by decide)
        · rw [hok, decide_eq_true (show 0 < N by omega)]
          exact c_FirstTo m g N _ w1 T1 N 0 (by omega) hN ⟨by omega, fun i _ => rfl, fun a h => by omega⟩
      have HL := Lib.hid (c_BLen m g N _ w1 T1)
      have HK := Lib.hid (c_Taken m g N _ w1 T1)
      rw [cntF_none] at HK
      have HT1 := Lib.hid T1
      have HU1 := Lib.hid U1
      clear T1 U1
      have HOK := Lib.hid hok
      clear hok
      go_wp2_with (first
        | (go_at_call 15; refine HF.out.mono ?_; rintro e w' ⟨rfl, rfl⟩)
        | (go_at_call 16; refine HL.out.mono ?_; rintro e w' ⟨rfl, rfl⟩)
        | (go_at_call 17; refine HK.out.mono ?_; rintro e w' ⟨rfl, rfl⟩))
      refine (c_Runs m g N _ _ HT1.out).mono ?_
      rintro e w2 ⟨v, rfl, own, bel⟩
      rw [runsR_none] at own
      obtain ⟨a, c, rfl, -, -, -⟩ := owns_reads own
      have HT2 := Lib.hid (HT1.out.keep (l := []) (.of_below bel) (by simp) (by simp))
      have HB2 := Lib.hid (bNext (HU1.out.below (Nat.le_refl _) (by simp)) bel)
      clear own bel
      by_cases h0 : N = 0
      · subst h0
        have hokf : ok = false := by rw [HOK.out]; rfl
        subst hokf
        go_wp2_with (first
          | (go_at_call 19; refine (c_Has m g 0 _ _ HT2.out 0).mono ?_; rintro e w' ⟨rfl, rfl⟩)
          | (go_at_call 14; refine (c_known02 _).mono ?_; rintro e w' ⟨rfl, hbel⟩))
        go_ret
        exact ⟨rfl, bNext HB2.out hbel⟩
      · have hN0 : 0 < N := by omega
        have hokt : ok = true := by rw [HOK.out]; simpa using hN0
        subst hokt
        go_wp2_with (first
          | (go_at_call 19; refine (c_Has m g N _ _ HT2.out 0).mono ?_; rintro e w' ⟨rfl, rfl⟩)
          | (go_at_call 14; refine (c_known02 _).mono ?_; rintro e w' ⟨rfl, hbel⟩))
        go_ret
        exact ⟨rfl, bNext HB2.out hbel⟩

end Go.Proofs.Ytcecegcbkcdpjaa
