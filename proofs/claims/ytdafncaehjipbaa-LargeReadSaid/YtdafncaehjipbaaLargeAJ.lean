/-
  The law LargeRead. (Written by llastgen.py.)
-/
import Derived.Test.YtdafncaehjipbaaLargeAI
namespace Go.Proofs.Ytdafncaehjipbaa
open Go.RowKit
set_option linter.unusedVariables false
set_option maxHeartbeats 4000000
set_option maxRecDepth 20000

theorem law_LargeRead (a0 : ByteArray) (a1 : Option Addr) (len1 cap1 : Nat) (z1 : List Int) (w : World) (w0 : a0.size ≤ maxLen) (w1 : Came .u8 w a1 len1 cap1 z1) :
    Calls Try.prog 10 #[.string a0, .slice a1 len1 cap1] w fun e w' => e = .returned (.bool true) ∧ Below w.heap.size w w' := by
  obtain ⟨l, hl⟩ := w1.sl
  clear w1
  unfold maxLen at w0
  by_cases hbs0 : a0.size > 300
  · have qls0 : ((300 : Int) < a0.size) = True := eq_true (by omega)
    have qgs0 : ((a0.size : Int) > 300) = True := eq_true (by omega)
    clear hl
    go_enter Try.func10, Try.ntmps10
    go_wp2_with fail
    refine (c_known13 _).mono ?_
    rintro e w2 ⟨rfl, b2⟩
    have HB2 := Lib.hid b2
    clear b2
    go_wp2
    go_ret
    exact ⟨rfl, HB2.out⟩
  · have qls0 : ((300 : Int) < a0.size) = False := eq_false (by omega)
    have qgs0 : ((a0.size : Int) > 300) = False := eq_false (by omega)
    by_cases hblen1 : len1 > 60
    · have qllen1 : ((60 : Int) < len1) = True := eq_true (by omega)
      have qglen1 : ((len1 : Int) > 60) = True := eq_true (by omega)
      clear hl
      go_enter Try.func10, Try.ntmps10
      go_wp2_with fail
      refine (c_known13 _).mono ?_
      rintro e w2 ⟨rfl, b2⟩
      have HB2 := Lib.hid b2
      clear b2
      go_wp2
      go_ret
      exact ⟨rfl, HB2.out⟩
    · have qllen1 : ((60 : Int) < len1) = False := eq_false (by omega)
      have qglen1 : ((len1 : Int) > 60) = False := eq_false (by omega)
      have HL := Lib.hid hl
      obtain ⟨RE, hRE⟩ : ∃ E, E = readE a0 := ⟨_, rfl⟩
      have HRE := Lib.hid hRE
      obtain ⟨TT, hTT⟩ : ∃ E, E = str (textL l) := ⟨_, rfl⟩
      have HTT := Lib.hid hTT
      have g0 : (RE == RE) = true := by simp
      have g1 : (TT.toList == TT.toList) = true := by simp
      clear hl hRE hTT
      go_enter Try.func10, Try.ntmps10
      have HB0 := Lib.hid (Below.refl w.heap.size w)
      go_wp2_with fail
      refine (c_Read a0 w (by omega)).mono ?_
      rw [← HRE.out]
      rintro e wy1 ⟨a1, k1, c1, rfl, hn1, b1⟩
      have hb1 : Below w.heap.size w wy1 := b1
      have HL := Lib.hid (HL.out.below hb1)
      have HB1 := Lib.hid (bNext HB0.out hb1)
      have HX1 := Lib.hid hn1.sl
      clear b1 hb1 hn1
      go_wp2_with fail
      refine (r_Read a0 wy1 (by omega)).mono ?_
      rw [← HRE.out]
      rintro e wy2 ⟨a2, k2, c2, rfl, hn2, b2⟩
      have hb2 : Below wy1.heap.size wy1 wy2 := b2
      have HL := Lib.hid (HL.out.below hb2)
      have HX1 := Lib.hid (HX1.out.below hb2)
      have HB2 := Lib.hid (bNext HB1.out hb2)
      have HX2 := Lib.hid hn2.sl
      clear b2 hb2 hn2
      go_wp2_with fail
      refine (s_Same HX1.out HX2.out).mono ?_
      rintro e wz3 ⟨rfl, rfl⟩
      rw [decide_eq_true rfl]
      go_wp2_with fail
      refine (s_Text HL.out (by omega)).mono ?_
      rw [← HTT.out]
      rintro e wy4 ⟨rfl, b4⟩
      have hb4 : Below wy2.heap.size wy2 wy4 := b4
      have HL := Lib.hid (HL.out.below hb4)
      have HX1 := Lib.hid (HX1.out.below hb4)
      have HX2 := Lib.hid (HX2.out.below hb4)
      have HB4 := Lib.hid (bNext HB2.out hb4)
      clear b4 hb4 
      go_wp2_with fail
      refine (r_Text HL.out (by omega)).mono ?_
      rw [← HTT.out]
      rintro e wy5 ⟨rfl, b5⟩
      have hb5 : Below wy4.heap.size wy4 wy5 := b5
      have HL := Lib.hid (HL.out.below hb5)
      have HX1 := Lib.hid (HX1.out.below hb5)
      have HX2 := Lib.hid (HX2.out.below hb5)
      have HB5 := Lib.hid (bNext HB4.out hb5)
      clear b5 hb5 
      go_wp2_with fail
      refine (c_known13 _).mono ?_
      rintro e wy6 ⟨rfl, b6⟩
      have hb6 : Below wy5.heap.size wy5 wy6 := b6
      have HL := Lib.hid (HL.out.below hb6)
      have HX1 := Lib.hid (HX1.out.below hb6)
      have HX2 := Lib.hid (HX2.out.below hb6)
      have HB6 := Lib.hid (bNext HB5.out hb6)
      clear b6 hb6 
      go_wp2
      go_ret
      exact ⟨rfl, HB6.out⟩

end Go.Proofs.Ytdafncaehjipbaa
