/-
  The law LargeReckons. (Written by lreckgen.py.)
-/
import Derived.Test.YtdafncaehjipbaaLargeAA
namespace Go.Proofs.Ytdafncaehjipbaa
open Go.RowKit
set_option linter.unusedVariables false
set_option maxHeartbeats 2000000
set_option maxRecDepth 20000

theorem c_long13w (a0 a1 : Option Addr) (n0 n1 c0 c1 : Nat) (w : World) (hm0 : n0 ≤ 9223372036854775807) (hm1 : n1 ≤ 9223372036854775807) :
    Calls Try.prog 23 #[.slice a0 n0 c0, .slice a1 n1 c1] w fun e w' => e = .returned (.bool (decide (n0 > 420 ∨ n1 > 420 ∨ n0 * n1 > 40000))) ∧ w = w' := by
  by_cases h1 : n0 > 420
  · rw [decide_eq_true (.inl h1)]
    have q1 : ((n0 : Int) > 420) = True := eq_true (by omega)
    have q2 : ((420 : Int) < n0) = True := eq_true (by omega)
    go_enter Try.func23, Try.ntmps23
    go_wp2
    go_ret
    exact ⟨rfl, rfl⟩
  · have q1 : ((n0 : Int) > 420) = False := eq_false (by omega)
    have q2 : ((420 : Int) < n0) = False := eq_false (by omega)
    by_cases h2 : n1 > 420
    · rw [decide_eq_true (.inr (.inl h2))]
      have q3 : ((n1 : Int) > 420) = True := eq_true (by omega)
      have q4 : ((420 : Int) < n1) = True := eq_true (by omega)
      go_enter Try.func23, Try.ntmps23
      go_wp2
      go_ret
      exact ⟨rfl, rfl⟩
    · have q3 : ((n1 : Int) > 420) = False := eq_false (by omega)
      have q4 : ((420 : Int) < n1) = False := eq_false (by omega)
      have hmul : n0 * n1 ≤ 176400 := Nat.mul_le_mul (show n0 ≤ 420 by omega) (show n1 ≤ 420 by omega)
      obtain ⟨p, hp⟩ : ∃ p, p = n0 * n1 := ⟨_, rfl⟩
      have hpi : (n0 : Int) * (n1 : Int) = (p : Int) := by rw [hp]; simp
      rw [← hp] at hmul ⊢
      have hd : decide (n0 > 420 ∨ n1 > 420 ∨ p > 40000) = decide ((40000 : Int) < p) := by
        rw [decide_eq_decide]
        constructor
        · rintro (h | h | h) <;> omega
        · intro h; exact .inr (.inr (by omega))
      rw [hd]
      clear hd hp
      go_enter Try.func23, Try.ntmps23
      go_wp2
      go_ret
      exact ⟨rfl, rfl⟩

theorem law_LargeReckons (a0 : Option Addr) (len0 cap0 : Nat) (z0 : List Int) (a1 : Option Addr) (len1 cap1 : Nat) (z1 : List Int) (w : World) (w0 : Came .u8 w a0 len0 cap0 z0) (w1 : Came .u8 w a1 len1 cap1 z1) :
    Calls Try.prog 6 #[.slice a0 len0 cap0, .slice a1 len1 cap1] w fun e w' => e = .returned (.bool true) ∧ Below w.heap.size w w' := by
  obtain ⟨l, hl⟩ := w0.sl
  obtain ⟨m, hm⟩ := w1.sl
  clear w0 w1
  have HLG := Lib.hid (c_long13w a0 a1 len0 len1 cap0 cap1 w (Nat.le_trans hl.cap hl.max) (Nat.le_trans hm.cap hm.max))
  by_cases hg : len0 > 420 ∨ len1 > 420 ∨ len0 * len1 > 40000
  · rw [decide_eq_true hg] at HLG
    clear hl hm hg
    go_enter Try.func6, Try.ntmps6
    go_wp2_with fail
    refine HLG.out.mono ?_
    rintro e w1 ⟨rfl, rfl⟩
    go_wp2_with fail
    refine (c_known13 _).mono ?_
    rintro e w2 ⟨rfl, b2⟩
    have HB2 := Lib.hid b2
    clear b2
    go_wp2
    go_ret
    exact ⟨rfl, HB2.out⟩
  · rw [decide_eq_false hg] at HLG
    have h0 : len0 ≤ 420 := by omega
    have h1 : len1 ≤ 420 := by omega
    have HL := Lib.hid hl
    have HM := Lib.hid hm
    obtain ⟨EA, hEA⟩ : ∃ E, E = add2E l m := ⟨_, rfl⟩
    obtain ⟨ES, hES⟩ : ∃ E, E = subE l m := ⟨_, rfl⟩
    obtain ⟨EM, hEM⟩ : ∃ E, E = mulE l m := ⟨_, rfl⟩
    obtain ⟨ED, hED⟩ : ∃ E, E = divE l m := ⟨_, rfl⟩
    obtain ⟨C, hC⟩ : ∃ E, E = cmpI (valI l) (valI m) := ⟨_, rfl⟩
    obtain ⟨R, hR⟩ : ∃ E, E = rightB l := ⟨_, rfl⟩
    have HEA := Lib.hid hEA
    have HES := Lib.hid hES
    have HEM := Lib.hid hEM
    have HED := Lib.hid hED
    have HCC := Lib.hid hC
    have HRR := Lib.hid hR
    have g0 : (EA != EA) = false := by simp
    have g1 : (ES != ES) = false := by simp
    have g2 : (EM != EM) = false := by simp
    have g3 : (ED != ED) = false := by simp
    have g4 : (C == C) = true := by simp
    have g5 : (R == R) = true := by simp
    clear hl hm hg hEA hES hEM hED hC hR
    by_cases h60 : len0 < 60
    · have g6 : ((len0 : Int) < 60) = True := eq_true (by omega)
      go_enter Try.func6, Try.ntmps6
      have HB0 := Lib.hid (Below.refl w.heap.size w)
      go_wp2_with fail
      refine (HLG.out).mono ?_
      rintro e wz1 ⟨rfl, rfl⟩
      go_wp2_with fail
      refine (s_Add1 (HL.out.alloc _) (by omega) (HM.out.alloc _) (by omega) (Reads.madeAt rfl)).mono ?_
      rw [← HEA.out]
      rintro e wy2 ⟨a2, k2, c2, rfl, hn2, b2⟩
      have hb2 : Below w.heap.size w wy2 := ((Below.refl _ w).alloc (Nat.le_refl _) _).trans (b2.mono (by simp))
      have HL := Lib.hid (HL.out.below hb2)
      have HM := Lib.hid (HM.out.below hb2)
      have HB2 := Lib.hid (bNext HB0.out hb2)
      have HX2 := Lib.hid hn2.sl
      clear b2 hb2 hn2
      go_wp2_with fail
      refine (r_Add1 (HL.out.alloc _) (by omega) (HM.out.alloc _) (by omega) (Reads.madeAt rfl)).mono ?_
      rw [← HEA.out]
      rintro e wy3 ⟨a3, k3, c3, rfl, hn3, b3⟩
      have hb3 : Below wy2.heap.size wy2 wy3 := ((Below.refl _ wy2).alloc (Nat.le_refl _) _).trans (b3.mono (by simp))
      have HL := Lib.hid (HL.out.below hb3)
      have HM := Lib.hid (HM.out.below hb3)
      have HX2 := Lib.hid (HX2.out.below hb3)
      have HB3 := Lib.hid (bNext HB2.out hb3)
      have HX3 := Lib.hid hn3.sl
      clear b3 hb3 hn3
      go_wp2_with fail
      refine (s_Sub HL.out HM.out (by omega) (by omega)).mono ?_
      rw [← HES.out]
      rintro e wy4 ⟨a4, k4, c4, rfl, hn4, b4⟩
      have hb4 : Below wy3.heap.size wy3 wy4 := b4
      have HL := Lib.hid (HL.out.below hb4)
      have HM := Lib.hid (HM.out.below hb4)
      have HX2 := Lib.hid (HX2.out.below hb4)
      have HX3 := Lib.hid (HX3.out.below hb4)
      have HB4 := Lib.hid (bNext HB3.out hb4)
      have HX4 := Lib.hid hn4.sl
      clear b4 hb4 hn4
      go_wp2_with fail
      refine (r_Sub HL.out HM.out (by omega) (by omega)).mono ?_
      rw [← HES.out]
      rintro e wy5 ⟨a5, k5, c5, rfl, hn5, b5⟩
      have hb5 : Below wy4.heap.size wy4 wy5 := b5
      have HL := Lib.hid (HL.out.below hb5)
      have HM := Lib.hid (HM.out.below hb5)
      have HX2 := Lib.hid (HX2.out.below hb5)
      have HX3 := Lib.hid (HX3.out.below hb5)
      have HX4 := Lib.hid (HX4.out.below hb5)
      have HB5 := Lib.hid (bNext HB4.out hb5)
      have HX5 := Lib.hid hn5.sl
      clear b5 hb5 hn5
      go_wp2_with fail
      refine (s_Mul HL.out HM.out (by omega) (by omega)).mono ?_
      rw [← HEM.out]
      rintro e wy6 ⟨a6, k6, c6, rfl, hn6, b6⟩
      have hb6 : Below wy5.heap.size wy5 wy6 := b6
      have HL := Lib.hid (HL.out.below hb6)
      have HM := Lib.hid (HM.out.below hb6)
      have HX2 := Lib.hid (HX2.out.below hb6)
      have HX3 := Lib.hid (HX3.out.below hb6)
      have HX4 := Lib.hid (HX4.out.below hb6)
      have HX5 := Lib.hid (HX5.out.below hb6)
      have HB6 := Lib.hid (bNext HB5.out hb6)
      have HX6 := Lib.hid hn6.sl
      clear b6 hb6 hn6
      go_wp2_with fail
      refine (r_Mul HL.out HM.out (by omega) (by omega)).mono ?_
      rw [← HEM.out]
      rintro e wy7 ⟨a7, k7, c7, rfl, hn7, b7⟩
      have hb7 : Below wy6.heap.size wy6 wy7 := b7
      have HL := Lib.hid (HL.out.below hb7)
      have HM := Lib.hid (HM.out.below hb7)
      have HX2 := Lib.hid (HX2.out.below hb7)
      have HX3 := Lib.hid (HX3.out.below hb7)
      have HX4 := Lib.hid (HX4.out.below hb7)
      have HX5 := Lib.hid (HX5.out.below hb7)
      have HX6 := Lib.hid (HX6.out.below hb7)
      have HB7 := Lib.hid (bNext HB6.out hb7)
      have HX7 := Lib.hid hn7.sl
      clear b7 hb7 hn7
      go_wp2_with fail
      refine (s_Same HX2.out HX3.out).mono ?_
      rintro e wz8 ⟨rfl, rfl⟩
      rw [decide_eq_true rfl]
      go_wp2_with fail
      refine (s_Same HX4.out HX5.out).mono ?_
      rintro e wz9 ⟨rfl, rfl⟩
      rw [decide_eq_true rfl]
      go_wp2_with fail
      refine (s_Same HX6.out HX7.out).mono ?_
      rintro e wz10 ⟨rfl, rfl⟩
      rw [decide_eq_true rfl]
      go_wp2_with fail
      refine (s_Div HL.out HM.out (by omega) (by omega)).mono ?_
      rw [← HED.out]
      rintro e wy11 ⟨a11, k11, c11, p11, j11, d11, rfl, hn11, ho11, b11⟩
      have hb11 : Below wy7.heap.size wy7 wy11 := b11
      have HL := Lib.hid (HL.out.below hb11)
      have HM := Lib.hid (HM.out.below hb11)
      have HX2 := Lib.hid (HX2.out.below hb11)
      have HX3 := Lib.hid (HX3.out.below hb11)
      have HX4 := Lib.hid (HX4.out.below hb11)
      have HX5 := Lib.hid (HX5.out.below hb11)
      have HX6 := Lib.hid (HX6.out.below hb11)
      have HX7 := Lib.hid (HX7.out.below hb11)
      have HB11 := Lib.hid (bNext HB7.out hb11)
      have HX11 := Lib.hid hn11.sl
      have HY11 := Lib.hid ho11.sl
      clear b11 hb11 hn11 ho11
      go_wp2_with fail
      refine (r_Div HL.out HM.out (by omega) (by omega)).mono ?_
      rw [← HED.out]
      rintro e wy12 ⟨a12, k12, c12, p12, j12, d12, rfl, hn12, ho12, b12⟩
      have hb12 : Below wy11.heap.size wy11 wy12 := b12
      have HL := Lib.hid (HL.out.below hb12)
      have HM := Lib.hid (HM.out.below hb12)
      have HX2 := Lib.hid (HX2.out.below hb12)
      have HX3 := Lib.hid (HX3.out.below hb12)
      have HX4 := Lib.hid (HX4.out.below hb12)
      have HX5 := Lib.hid (HX5.out.below hb12)
      have HX6 := Lib.hid (HX6.out.below hb12)
      have HX7 := Lib.hid (HX7.out.below hb12)
      have HX11 := Lib.hid (HX11.out.below hb12)
      have HY11 := Lib.hid (HY11.out.below hb12)
      have HB12 := Lib.hid (bNext HB11.out hb12)
      have HX12 := Lib.hid hn12.sl
      have HY12 := Lib.hid ho12.sl
      clear b12 hb12 hn12 ho12
      go_wp2_with fail
      refine (s_Same HX11.out HX12.out).mono ?_
      rintro e wz13 ⟨rfl, rfl⟩
      rw [decide_eq_true rfl]
      go_wp2_with fail
      refine (s_Same HY11.out HY12.out).mono ?_
      rintro e wz14 ⟨rfl, rfl⟩
      rw [decide_eq_true rfl]
      go_wp2_with fail
      refine (s_Cmp HL.out HM.out (by omega) (by omega)).mono ?_
      rw [← HCC.out]
      rintro e wy15 ⟨rfl, b15⟩
      have hb15 : Below wy12.heap.size wy12 wy15 := b15
      have HL := Lib.hid (HL.out.below hb15)
      have HM := Lib.hid (HM.out.below hb15)
      have HX2 := Lib.hid (HX2.out.below hb15)
      have HX3 := Lib.hid (HX3.out.below hb15)
      have HX4 := Lib.hid (HX4.out.below hb15)
      have HX5 := Lib.hid (HX5.out.below hb15)
      have HX6 := Lib.hid (HX6.out.below hb15)
      have HX7 := Lib.hid (HX7.out.below hb15)
      have HX11 := Lib.hid (HX11.out.below hb15)
      have HY11 := Lib.hid (HY11.out.below hb15)
      have HX12 := Lib.hid (HX12.out.below hb15)
      have HY12 := Lib.hid (HY12.out.below hb15)
      have HB15 := Lib.hid (bNext HB12.out hb15)
      clear b15 hb15 
      go_wp2_with fail
      refine (r_Cmp HL.out HM.out (by omega) (by omega)).mono ?_
      rw [← HCC.out]
      rintro e wq ⟨rfl, rfl⟩
      go_wp2_with fail
      refine (s_Right HL.out (by omega)).mono ?_
      rw [← HRR.out]
      rintro e wq ⟨rfl, rfl⟩
      go_wp2_with fail
      refine (r_Right _ _ _ l _ HL.out.len HL.out.rd (by omega)).mono ?_
      rw [← HRR.out]
      rintro e wq ⟨rfl, rfl⟩
      go_wp2_with fail
      refine (c_known13 _).mono ?_
      rintro e wy16 ⟨rfl, b16⟩
      have hb16 : Below wy15.heap.size wy15 wy16 := b16
      have HL := Lib.hid (HL.out.below hb16)
      have HM := Lib.hid (HM.out.below hb16)
      have HX2 := Lib.hid (HX2.out.below hb16)
      have HX3 := Lib.hid (HX3.out.below hb16)
      have HX4 := Lib.hid (HX4.out.below hb16)
      have HX5 := Lib.hid (HX5.out.below hb16)
      have HX6 := Lib.hid (HX6.out.below hb16)
      have HX7 := Lib.hid (HX7.out.below hb16)
      have HX11 := Lib.hid (HX11.out.below hb16)
      have HY11 := Lib.hid (HY11.out.below hb16)
      have HX12 := Lib.hid (HX12.out.below hb16)
      have HY12 := Lib.hid (HY12.out.below hb16)
      have HB16 := Lib.hid (bNext HB15.out hb16)
      clear b16 hb16 
      go_wp2
      go_ret
      exact ⟨rfl, HB16.out⟩
    · have g6 : ((len0 : Int) < 60) = False := eq_false (by omega)
      go_enter Try.func6, Try.ntmps6
      have HB0 := Lib.hid (Below.refl w.heap.size w)
      go_wp2_with fail
      refine (HLG.out).mono ?_
      rintro e wz1 ⟨rfl, rfl⟩
      go_wp2_with fail
      refine (s_Add1 (HL.out.alloc _) (by omega) (HM.out.alloc _) (by omega) (Reads.madeAt rfl)).mono ?_
      rw [← HEA.out]
      rintro e wy2 ⟨a2, k2, c2, rfl, hn2, b2⟩
      have hb2 : Below w.heap.size w wy2 := ((Below.refl _ w).alloc (Nat.le_refl _) _).trans (b2.mono (by simp))
      have HL := Lib.hid (HL.out.below hb2)
      have HM := Lib.hid (HM.out.below hb2)
      have HB2 := Lib.hid (bNext HB0.out hb2)
      have HX2 := Lib.hid hn2.sl
      clear b2 hb2 hn2
      go_wp2_with fail
      refine (r_Add1 (HL.out.alloc _) (by omega) (HM.out.alloc _) (by omega) (Reads.madeAt rfl)).mono ?_
      rw [← HEA.out]
      rintro e wy3 ⟨a3, k3, c3, rfl, hn3, b3⟩
      have hb3 : Below wy2.heap.size wy2 wy3 := ((Below.refl _ wy2).alloc (Nat.le_refl _) _).trans (b3.mono (by simp))
      have HL := Lib.hid (HL.out.below hb3)
      have HM := Lib.hid (HM.out.below hb3)
      have HX2 := Lib.hid (HX2.out.below hb3)
      have HB3 := Lib.hid (bNext HB2.out hb3)
      have HX3 := Lib.hid hn3.sl
      clear b3 hb3 hn3
      go_wp2_with fail
      refine (s_Sub HL.out HM.out (by omega) (by omega)).mono ?_
      rw [← HES.out]
      rintro e wy4 ⟨a4, k4, c4, rfl, hn4, b4⟩
      have hb4 : Below wy3.heap.size wy3 wy4 := b4
      have HL := Lib.hid (HL.out.below hb4)
      have HM := Lib.hid (HM.out.below hb4)
      have HX2 := Lib.hid (HX2.out.below hb4)
      have HX3 := Lib.hid (HX3.out.below hb4)
      have HB4 := Lib.hid (bNext HB3.out hb4)
      have HX4 := Lib.hid hn4.sl
      clear b4 hb4 hn4
      go_wp2_with fail
      refine (r_Sub HL.out HM.out (by omega) (by omega)).mono ?_
      rw [← HES.out]
      rintro e wy5 ⟨a5, k5, c5, rfl, hn5, b5⟩
      have hb5 : Below wy4.heap.size wy4 wy5 := b5
      have HL := Lib.hid (HL.out.below hb5)
      have HM := Lib.hid (HM.out.below hb5)
      have HX2 := Lib.hid (HX2.out.below hb5)
      have HX3 := Lib.hid (HX3.out.below hb5)
      have HX4 := Lib.hid (HX4.out.below hb5)
      have HB5 := Lib.hid (bNext HB4.out hb5)
      have HX5 := Lib.hid hn5.sl
      clear b5 hb5 hn5
      go_wp2_with fail
      refine (s_Mul HL.out HM.out (by omega) (by omega)).mono ?_
      rw [← HEM.out]
      rintro e wy6 ⟨a6, k6, c6, rfl, hn6, b6⟩
      have hb6 : Below wy5.heap.size wy5 wy6 := b6
      have HL := Lib.hid (HL.out.below hb6)
      have HM := Lib.hid (HM.out.below hb6)
      have HX2 := Lib.hid (HX2.out.below hb6)
      have HX3 := Lib.hid (HX3.out.below hb6)
      have HX4 := Lib.hid (HX4.out.below hb6)
      have HX5 := Lib.hid (HX5.out.below hb6)
      have HB6 := Lib.hid (bNext HB5.out hb6)
      have HX6 := Lib.hid hn6.sl
      clear b6 hb6 hn6
      go_wp2_with fail
      refine (r_Mul HL.out HM.out (by omega) (by omega)).mono ?_
      rw [← HEM.out]
      rintro e wy7 ⟨a7, k7, c7, rfl, hn7, b7⟩
      have hb7 : Below wy6.heap.size wy6 wy7 := b7
      have HL := Lib.hid (HL.out.below hb7)
      have HM := Lib.hid (HM.out.below hb7)
      have HX2 := Lib.hid (HX2.out.below hb7)
      have HX3 := Lib.hid (HX3.out.below hb7)
      have HX4 := Lib.hid (HX4.out.below hb7)
      have HX5 := Lib.hid (HX5.out.below hb7)
      have HX6 := Lib.hid (HX6.out.below hb7)
      have HB7 := Lib.hid (bNext HB6.out hb7)
      have HX7 := Lib.hid hn7.sl
      clear b7 hb7 hn7
      go_wp2_with fail
      refine (s_Same HX2.out HX3.out).mono ?_
      rintro e wz8 ⟨rfl, rfl⟩
      rw [decide_eq_true rfl]
      go_wp2_with fail
      refine (s_Same HX4.out HX5.out).mono ?_
      rintro e wz9 ⟨rfl, rfl⟩
      rw [decide_eq_true rfl]
      go_wp2_with fail
      refine (s_Same HX6.out HX7.out).mono ?_
      rintro e wz10 ⟨rfl, rfl⟩
      rw [decide_eq_true rfl]
      go_wp2_with fail
      refine (s_Cmp HL.out HM.out (by omega) (by omega)).mono ?_
      rw [← HCC.out]
      rintro e wy11 ⟨rfl, b11⟩
      have hb11 : Below wy7.heap.size wy7 wy11 := b11
      have HL := Lib.hid (HL.out.below hb11)
      have HM := Lib.hid (HM.out.below hb11)
      have HX2 := Lib.hid (HX2.out.below hb11)
      have HX3 := Lib.hid (HX3.out.below hb11)
      have HX4 := Lib.hid (HX4.out.below hb11)
      have HX5 := Lib.hid (HX5.out.below hb11)
      have HX6 := Lib.hid (HX6.out.below hb11)
      have HX7 := Lib.hid (HX7.out.below hb11)
      have HB11 := Lib.hid (bNext HB7.out hb11)
      clear b11 hb11 
      go_wp2_with fail
      refine (r_Cmp HL.out HM.out (by omega) (by omega)).mono ?_
      rw [← HCC.out]
      rintro e wq ⟨rfl, rfl⟩
      go_wp2_with fail
      refine (s_Right HL.out (by omega)).mono ?_
      rw [← HRR.out]
      rintro e wq ⟨rfl, rfl⟩
      go_wp2_with fail
      refine (r_Right _ _ _ l _ HL.out.len HL.out.rd (by omega)).mono ?_
      rw [← HRR.out]
      rintro e wq ⟨rfl, rfl⟩
      go_wp2_with fail
      refine (c_known13 _).mono ?_
      rintro e wy12 ⟨rfl, b12⟩
      have hb12 : Below wy11.heap.size wy11 wy12 := b12
      have HL := Lib.hid (HL.out.below hb12)
      have HM := Lib.hid (HM.out.below hb12)
      have HX2 := Lib.hid (HX2.out.below hb12)
      have HX3 := Lib.hid (HX3.out.below hb12)
      have HX4 := Lib.hid (HX4.out.below hb12)
      have HX5 := Lib.hid (HX5.out.below hb12)
      have HX6 := Lib.hid (HX6.out.below hb12)
      have HX7 := Lib.hid (HX7.out.below hb12)
      have HB12 := Lib.hid (bNext HB11.out hb12)
      clear b12 hb12 
      go_wp2
      go_ret
      exact ⟨rfl, HB12.out⟩

end Go.Proofs.Ytdafncaehjipbaa
