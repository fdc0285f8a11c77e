/-
  The walk of the law BitsFull.
-/
import Derived.Test.YtcecegcbkcdpjaaBitsLaws2
namespace Go.Proofs.Ytcecegcbkcdpjaa
open Go.RowKit
set_option linter.unusedVariables false
set_option maxHeartbeats 2000000
set_option maxRecDepth 100000

theorem law_BitsFull (n a : Int) (w : World) (w0 : (Lit.int .u8 n).wf = true) (w1 : (Lit.int .u8 a).wf = true) :
    Calls Try.prog 7 #[.int .u8 n, .int .u8 a] w fun e w' => e = .returned (.bool true) ∧ Below w.heap.size w w' := by
  obtain ⟨n0, n1⟩ := bounds_u8 w0
  obtain ⟨a0, a1⟩ := bounds_u8 w1
  clear w0 w1
  obtain ⟨K, hK⟩ : ∃ K : Nat, (K : Int) = 1 + n := ⟨(1 + n).toNat, by omega⟩
  have hK2 : 1 + n = (K : Int) := hK.symm
  have K1 : 1 ≤ K := by omega
  have K2 : K ≤ 256 := by omega
  obtain ⟨i, hi⟩ : ∃ i : Nat, i = a.toNat % K := ⟨_, rfl⟩
  have hiK : i < K := by rw [hi]; exact Nat.mod_lt _ K1
  have hrem : a % (K : Int) = (i : Int) := by
    rw [hi]
    obtain ⟨A, rfl⟩ := Int.eq_ofNat_of_zero_le a0
    simp
  have K0 : ((K : Int) == 0) = false := by simp; omega
  clear hK hi
  obtain ⟨f1, hf1⟩ : ∃ f1, f1 = fill (fun _ => false) 0 K true := ⟨_, rfl⟩
  obtain ⟨f2, hf2⟩ : ∃ f2, f2 = fill f1 i 1 false := ⟨_, rfl⟩
  have x1 := chg_yes (no := 3) (n := K) K1 (show 0 + K ≤ K by omega) (run_none 0 K)
  rw [Bool.not_false, ← hf1] at x1
  have hin : ∀ j, j < K → f1 j = true := fun j hj => by rw [hf1]; unfold fill; rw [if_pos (by omega)]
  have hin2 : ∀ j, j < K → f2 j = !decide (j = i) := fun j hj => by
    rw [hf2]; unfold fill
    by_cases h : j = i
    · rw [if_pos (by omega)]; simp [h]
    · rw [if_neg (by omega), hin j hj]; simp [h]
  have x2 := chg_yes (no := 4) (n := K) (was := true) (Nat.le_refl 1) (show i + 1 ≤ K by omega) (fun j hj => hin (i + j) (by omega))
  rw [Bool.not_true, ← hf2] at x2
  have hc1 : cntF f1 K = K := by
    have := cntF_fill (v := true) (n := K) (run_none 0 K) (by omega)
    rw [cntF_none, ← hf1] at this
    simpa using this
  have hc2 : cntF f2 K + 1 = K := by
    have := cntF_fill (b := f1) (f := i) (k := 1) (v := false) (n := K) (fun j hj => by simpa using hin (i + j) (by omega)) (by omega)
    rw [← hf2, hc1] at this
    simpa using this
  have y1 : FirstIs f1 K 1 none := fun j hj h => by
    have := h 0 (by omega)
    rw [hin (j + 0) (by omega)] at this; cases this
  have y2 : FirstIs f2 K 1 (some i) := by
    refine ⟨by omega, fun j hj => ?_, fun j hj h => ?_⟩
    · rw [hin2 (i + j) (by omega)]; simp; omega
    · have := h 0 (by omega)
      rw [hin2 (j + 0) (by omega)] at this
      simp at this; omega
  have y3 : FirstIs f2 K 2 none := fun j hj h => by
    have h1 := h 0 (by omega)
    have h2 := h 1 (by omega)
    rw [hin2 (j + 0) (by omega)] at h1
    rw [hin2 (j + 1) (by omega)] at h2
    simp at h1 h2; omega
  clear hf1 hf2 hin hin2
  have X1 := Lib.hid x1
  have X2 := Lib.hid x2
  have Y1 := Lib.hid y1
  have Y2 := Lib.hid y2
  have Y3 := Lib.hid y3
  have HC1 := Lib.hid hc1
  obtain ⟨L, hL⟩ : ∃ L, L = cntF f2 K := ⟨_, rfl⟩
  rw [← hL] at hc2
  have HL := Lib.hid hL
  have hKL : (K : Int) - 1 = (L : Int) := by omega
  clear x1 x2 y1 y2 y3 hc1 hL hc2
  go_enter Try.func7, Try.ntmps7
  go_wp2_with fail
  refine (c_BNewYes K _ (by omega)).mono ?_
  rintro e w1 ⟨m, g, rfl, h1, h2, T1, U1⟩
  have HW := Lib.hid (show ∀ q ∈ [g], w.heap.size ≤ q from fun q hq => by simp at hq; omega)
  have HT1 := Lib.hid T1
  have HB1 := Lib.hid (U1.below (Nat.le_refl w.heap.size) (by simp))
  clear T1 U1 h1 h2
  have T2' := Lib.hid (c_TakeTo m g K _ w1 HT1.out 0 K (by omega) (by omega) (by omega) 0 f1 X1.out.1 X1.out.2)
  go_wp2_with fail
  refine T2'.out.mono ?_
  rintro e w2 ⟨rfl, T2, U2⟩
  have HB2 := Lib.hid (HB1.out.trans (U2.below HB1.out.size HW.out))
  have HK2 := Lib.hid (c_Taken m g K _ w2 T2)
  rw [HC1.out] at HK2
  have HF2 := Lib.hid (c_FirstNone m g K _ w2 T2 1 (by omega) (by omega) Y1.out)
  have HR2 := Lib.hid (c_FreeTo m g K _ w2 T2 i 1 (by omega) (by omega) (by omega) 0 f2 X2.out.1 X2.out.2)
  clear T2 U2 T2'
  go_wp2_with (first
    | (go_at_call 17; refine HK2.out.mono ?_; rintro e w' ⟨rfl, rfl⟩)
    | (go_at_call 15; refine HF2.out.mono ?_; rintro e w' ⟨rfl, rfl⟩))
  refine HR2.out.mono ?_
  rintro e w3 ⟨rfl, T3, U3⟩
  have HB3 := Lib.hid (HB2.out.trans (U3.below HB2.out.size HW.out))
  have HK3 := Lib.hid (c_Taken m g K _ w3 T3)
  rw [← HL.out] at HK3
  have HF3 := Lib.hid (c_FirstTo m g K _ w3 T3 1 i (by omega) (by omega) Y2.out)
  have HG3 := Lib.hid (c_FirstNone m g K _ w3 T3 2 (by omega) (by omega) Y3.out)
  clear T3 U3 HK2 HF2 HR2
  go_wp2_with fail
  refine HF3.out.mono ?_
  rintro e w' ⟨rfl, rfl⟩
  go_wp2_with fail
  refine HG3.out.mono ?_
  rintro e w' ⟨rfl, rfl⟩
  go_wp2_with (first
    | (go_at_call 17; refine HK3.out.mono ?_; rintro e w' ⟨rfl, rfl⟩)
    | (go_at_call 14; refine (c_known02 _).mono ?_; rintro e w' ⟨rfl, hbel⟩))
  go_ret
  exact ⟨rfl, bNext HB3.out hbel⟩

end Go.Proofs.Ytcecegcbkcdpjaa
