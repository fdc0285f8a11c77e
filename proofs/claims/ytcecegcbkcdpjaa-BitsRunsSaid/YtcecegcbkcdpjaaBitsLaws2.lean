/-
  The walks of the laws BitsApart, BitsFull.
-/
import Derived.Test.YtcecegcbkcdpjaaBitsLaws
namespace Go.Proofs.Ytcecegcbkcdpjaa
open Go.RowKit
set_option linter.unusedVariables false
set_option maxHeartbeats 2000000
set_option maxRecDepth 100000

theorem chg_yes {b : Nat → Bool} {n F Q : Nat} {was : Bool} {no : Int} (h1 : 1 ≤ Q) (h2 : F + Q ≤ n) (h : runIs b F Q was) : chgE b n F Q was no = 0 ∧ chgB b n F Q was = fill b F Q (!was) := by
  have hok : okRun n F Q := by unfold okRun; omega
  unfold chgE chgB
  rw [if_pos hok, Int.toNat_natCast, Int.toNat_natCast, if_pos h, if_pos ⟨hok, h⟩]
  exact ⟨rfl, rfl⟩
theorem chg_no {b : Nat → Bool} {n F Q : Nat} {was : Bool} {no : Int} (h1 : 1 ≤ Q) (h2 : F + Q ≤ n) (h : ¬ runIs b F Q was) : chgE b n F Q was no = no ∧ chgB b n F Q was = b := by
  have hok : okRun n F Q := by unfold okRun; omega
  unfold chgE chgB
  rw [if_pos hok, Int.toNat_natCast, Int.toNat_natCast, if_neg h, if_neg (fun h' => h h'.2)]
  exact ⟨rfl, rfl⟩

theorem c_FreeTo (m g n : Nat) (b : Nat → Bool) (w : World) (h : MapAt w m g n b) (f q : Int) (hf0 : -9223372036854775808 ≤ f) (hf1 : f ≤ 9223372036854775807) (hq1 : q ≤ 9223372036854775807) (x : Int) (b' : Nat → Bool) (hx : chgE b n f q true 4 = x) (hb : chgB b n f q true = b') :
    Calls Try.prog 23 #[.pointer (some ⟨m, 0, none⟩), .int .i64 f, .int .i64 q] w fun e w' => e = .returned (.int .i64 x) ∧ MapAt w' m g n b' ∧ Upd [g] w w' := by
  subst hx; subst hb
  exact c_BFree m g n b w h f q hf0 hf1 hq1

theorem run_none (F Q : Nat) : runIs (fun _ => false) F Q false := fun _ _ => rfl
theorem run_apart {A I B J : Nat} (h : A + I ≤ B ∨ B + J ≤ A) : runIs (fill (fun _ => false) A I true) B J false := fun i hi => by
  unfold fill; rw [if_neg (by omega)]
theorem run_not_apart {A I B J : Nat} (hI : 1 ≤ I) (hJ : 1 ≤ J) (h : ¬ (A + I ≤ B ∨ B + J ≤ A)) : ¬ runIs (fill (fun _ => false) A I true) B J false := fun hr => by
  by_cases hab : A ≤ B
  · have := hr 0 (by omega)
    unfold fill at this
    rw [if_pos (by omega)] at this
    cases this
  · have := hr (A - B) (by omega)
    unfold fill at this
    rw [if_pos (by omega)] at this
    cases this
theorem cnt_two {A I B J : Nat} (h : A + I ≤ B ∨ B + J ≤ A) (h1 : A + I ≤ 600) (h2 : B + J ≤ 600) : cntF (fill (fill (fun _ => false) A I true) B J true) 600 = I + J := by
  have e1 := cntF_fill (v := true) (run_none A I) h1
  have e2 := cntF_fill (v := true) (run_apart h) h2
  rw [cntF_none] at e1
  simp at e1 e2
  omega

theorem law_BitsApart (a n b k : Int) (w : World) (w0 : (Lit.int .u8 a).wf = true) (w1 : (Lit.int .u8 n).wf = true) (w2 : (Lit.int .u8 b).wf = true) (w3 : (Lit.int .u8 k).wf = true) :
    Calls Try.prog 4 #[.int .u8 a, .int .u8 n, .int .u8 b, .int .u8 k] w fun e w' => e = .returned (.bool true) ∧ Below w.heap.size w w' := by
  obtain ⟨a0, a1⟩ := bounds_u8 w0
  obtain ⟨n0, n1⟩ := bounds_u8 w1
  obtain ⟨b0, b1⟩ := bounds_u8 w2
  obtain ⟨k0, k1⟩ := bounds_u8 w3
  clear w0 w1 w2 w3
  obtain ⟨A, rfl⟩ := Int.eq_ofNat_of_zero_le a0
  obtain ⟨B, rfl⟩ := Int.eq_ofNat_of_zero_le b0
  obtain ⟨I, hI⟩ : ∃ I : Nat, (I : Int) = 1 + n := ⟨(1 + n).toNat, by omega⟩
  obtain ⟨J, hJ⟩ : ∃ J : Nat, (J : Int) = 1 + k := ⟨(1 + k).toNat, by omega⟩
  have hI2 : 1 + n = (I : Int) := hI.symm
  have hJ2 : 1 + k = (J : Int) := hJ.symm
  have I1 : 1 ≤ I := by omega
  have J1 : 1 ≤ J := by omega
  have I2 : I ≤ 256 := by omega
  have J2 : J ≤ 256 := by omega
  have A2 : A ≤ 255 := by omega
  have B2 : B ≤ 255 := by omega
  clear hI hJ
  go_enter Try.func4, Try.ntmps4
  go_wp2_with fail
  refine (c_BNewYes 600 _ (by decide)).mono ?_
  rintro e w1 ⟨m, g, rfl, h1, h2, T1, U1⟩
  have l1 := T1.head.lt
  have l2 := T1.data.lt
  have HT1 := Lib.hid T1
  have HU1 := Lib.hid U1
  clear T1 U1
  go_wp2_with fail
  refine (c_BNewYes 600 _ (by decide)).mono ?_
  rintro e w2 ⟨m', g', rfl, h3, h4, T2, U2⟩
  have HY2 := Lib.hid T2
  have HX2 := Lib.hid (HT1.out.keep U2 (by simp) (by simp))
  have HB2 := Lib.hid ((HU1.out.trans U2).below (Nat.le_refl _) (by simp))
  have ng : m ∉ [g'] := by simp; omega
  have ng2 : g ∉ [g'] := by simp; omega
  have ng3 : m' ∉ [g] := by simp; omega
  have ng4 : g' ∉ [g] := by simp; omega
  have hgw := HU1.out.size
  have hw1 : ∀ q ∈ [g], w.heap.size ≤ q := fun q hq => by simp at hq; omega
  have hw2 : ∀ q ∈ [g'], w.heap.size ≤ q := fun q hq => by simp at hq; omega
  have NG := Lib.hid (And.intro ng (And.intro ng2 (And.intro ng3 ng4)))
  have HW := Lib.hid (And.intro hw1 hw2)
  clear T2 U2 ng ng2 ng3 ng4 hw1 hw2 h1 h2 h3 h4 l1 l2 hgw HT1 HU1
  obtain ⟨e1, c1⟩ := chg_yes (no := 3) I1 (show A + I ≤ 600 by omega) (run_none A I)
  obtain ⟨e2, c2⟩ := chg_yes (no := 3) J1 (show B + J ≤ 600 by omega) (run_none B J)
  have T3' := Lib.hid (c_TakeTo m g 600 _ w2 HX2.out A I (by omega) (by omega) (by omega) 0 _ e1 c1)
  go_wp2_with fail
  refine T3'.out.mono ?_
  rintro e w3 ⟨rfl, T3, U3⟩
  have HX3 := Lib.hid T3
  have HY3 := Lib.hid (HY2.out.keep U3 NG.out.2.2.1 NG.out.2.2.2)
  have HB3 := Lib.hid (HB2.out.trans (U3.below HB2.out.size HW.out.1))
  clear T3 U3 T3'
  obtain ⟨f, bx, hf, hfx, hap⟩ : ∃ f bx, chgE (fill (fun _ => false) A I true) 600 B J false 3 = f ∧ chgB (fill (fun _ => false) A I true) 600 B J false = bx ∧ ((A + I ≤ B ∨ B + J ≤ A) ∧ f = 0 ∧ cntF bx 600 = I + J ∨ ¬ (A + I ≤ B ∨ B + J ≤ A) ∧ f = 3) := by
    by_cases h : A + I ≤ B ∨ B + J ≤ A
    · obtain ⟨x1, x2⟩ := chg_yes (no := 3) J1 (show B + J ≤ 600 by omega) (run_apart h)
      exact ⟨_, _, x1, x2, .inl ⟨h, rfl, cnt_two h (by omega) (by omega)⟩⟩
    · obtain ⟨x1, x2⟩ := chg_no (no := 3) J1 (show B + J ≤ 600 by omega) (run_not_apart I1 J1 h)
      exact ⟨_, _, x1, x2, .inr ⟨h, rfl⟩⟩
  obtain ⟨f', by', hf', hfy, hap'⟩ : ∃ f bx, chgE (fill (fun _ => false) B J true) 600 A I false 3 = f ∧ chgB (fill (fun _ => false) B J true) 600 A I false = bx ∧ ((A + I ≤ B ∨ B + J ≤ A) ∧ f = 0 ∧ cntF bx 600 = I + J ∨ ¬ (A + I ≤ B ∨ B + J ≤ A) ∧ f = 3) := by
    by_cases h : A + I ≤ B ∨ B + J ≤ A
    · obtain ⟨x1, x2⟩ := chg_yes (no := 3) I1 (show A + I ≤ 600 by omega) (run_apart h.symm)
      refine ⟨_, _, x1, x2, .inl ⟨h, rfl, ?_⟩⟩
      rw [Nat.add_comm I J]
      exact cnt_two h.symm (by omega) (by omega)
    · obtain ⟨x1, x2⟩ := chg_no (no := 3) I1 (show A + I ≤ 600 by omega) (run_not_apart J1 I1 (fun h' => h h'.symm))
      exact ⟨_, _, x1, x2, .inr ⟨h, rfl⟩⟩
  have T4' := Lib.hid (c_TakeTo m g 600 _ w3 HX3.out B J (by omega) (by omega) (by omega) f bx hf hfx)
  go_wp2_with fail
  refine T4'.out.mono ?_
  rintro e w4 ⟨rfl, T4, U4⟩
  have HX4 := Lib.hid T4
  have HY4 := Lib.hid (HY3.out.keep U4 NG.out.2.2.1 NG.out.2.2.2)
  have HB4 := Lib.hid (HB3.out.trans (U4.below HB3.out.size HW.out.1))
  clear T4 U4 T4'
  have T5' := Lib.hid (c_TakeTo m' g' 600 _ w4 HY4.out B J (by omega) (by omega) (by omega) 0 _ e2 c2)
  go_wp2_with fail
  refine T5'.out.mono ?_
  rintro e w5 ⟨rfl, T5, U5⟩
  have HY5 := Lib.hid T5
  have HX5 := Lib.hid (HX4.out.keep U5 NG.out.1 NG.out.2.1)
  have HB5 := Lib.hid (HB4.out.trans (U5.below HB4.out.size HW.out.2))
  clear T5 U5 T5'
  have T6' := Lib.hid (c_TakeTo m' g' 600 _ w5 HY5.out A I (by omega) (by omega) (by omega) f' by' hf' hfy)
  go_wp2_with fail
  refine T6'.out.mono ?_
  rintro e w6 ⟨rfl, T6, U6⟩
  have HX6 := Lib.hid (HX5.out.keep U6 NG.out.1 NG.out.2.1)
  have HB6 := Lib.hid (HB5.out.trans (U6.below HB5.out.size HW.out.2))
  have HK := Lib.hid (c_Taken m g 600 _ w6 HX6.out)
  have HK' := Lib.hid (c_Taken m' g' 600 _ w6 T6)
  clear T6 U6 T6' e1 e2 c1 c2 hf hfx hf' hfy
  rcases hap with ⟨hap, rfl, hc⟩ | ⟨hap, rfl⟩
  · rcases hap' with ⟨-, rfl, hc'⟩ | ⟨h, -⟩
    · rw [hc] at HK
      rw [hc'] at HK'
      clear hc hc'
      by_cases h1 : A + I ≤ B
      · have h1' : (A : Int) + (I : Int) ≤ (B : Int) := by omega
        clear hap
        go_wp2_with fail
        refine HK.out.mono ?_
        rintro e w' ⟨rfl, rfl⟩
        go_wp2_with fail
        refine HK'.out.mono ?_
        rintro e w' ⟨rfl, rfl⟩
        go_wp2_with (go_at_call 14; refine (c_known02 _).mono ?_; rintro e w' ⟨rfl, hbel⟩)
        go_ret
        exact ⟨rfl, bNext HB6.out hbel⟩
      · have h1' : ¬ (A : Int) + (I : Int) ≤ (B : Int) := by omega
        have h2' : (B : Int) + (J : Int) ≤ (A : Int) := by omega
        clear hap
        go_wp2_with fail
        refine HK.out.mono ?_
        rintro e w' ⟨rfl, rfl⟩
        go_wp2_with fail
        refine HK'.out.mono ?_
        rintro e w' ⟨rfl, rfl⟩
        go_wp2_with (go_at_call 14; refine (c_known02 _).mono ?_; rintro e w' ⟨rfl, hbel⟩)
        go_ret
        exact ⟨rfl, bNext HB6.out hbel⟩
    · exact absurd hap h
  · rcases hap' with ⟨h, -, -⟩ | ⟨-, rfl⟩
    · exact absurd h hap
    · have h1' : ¬ (A : Int) + (I : Int) ≤ (B : Int) := by omega
      have h2' : ¬ (B : Int) + (J : Int) ≤ (A : Int) := by omega
      clear hap
      go_wp2_with (go_at_call 14; refine (c_known02 _).mono ?_; rintro e w' ⟨rfl, hbel⟩)
      go_ret
      exact ⟨rfl, bNext HB6.out hbel⟩

end Go.Proofs.Ytcecegcbkcdpjaa
