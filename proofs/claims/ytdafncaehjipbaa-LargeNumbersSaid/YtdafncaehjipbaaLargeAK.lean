/-
  The law LargeNumbers. (Written by llastgen.py.)
-/
import Derived.Test.YtdafncaehjipbaaLargeAI
namespace Go.Proofs.Ytdafncaehjipbaa
open Go.RowKit
set_option linter.unusedVariables false
set_option maxHeartbeats 4000000
set_option maxRecDepth 20000

theorem law_LargeNumbers (n : Int) (a1 : Option Addr) (len1 cap1 : Nat) (z1 : List Int) (st : ByteArray) (w : World) (w0 : (Lit.int .i64 n).wf = true) (w1 : Came .u8 w a1 len1 cap1 z1) (w2 : st.size ≤ maxLen) :
    Calls Try.prog 11 #[.int .i64 n, .slice a1 len1 cap1, .string st] w fun e w' => e = .returned (.bool true) ∧ Below w.heap.size w w' := by
  obtain ⟨l, hl⟩ := w1.sl
  have hb := bounds_i64 w0
  clear w0 w1
  unfold maxLen at w2
  by_cases hblen1 : len1 > 60
  · have qllen1 : ((60 : Int) < len1) = True := eq_true (by omega)
    have qglen1 : ((len1 : Int) > 60) = True := eq_true (by omega)
    clear hl
    go_enter Try.func11, Try.ntmps11
    go_wp2_with fail
    refine (c_known13 _).mono ?_
    rintro e w2 ⟨rfl, b2⟩
    have HB2 := Lib.hid b2
    clear b2
    go_wp2
    go_ret
    exact ⟨rfl, HB2.out⟩
  · have qllen1 : ((60 : Int) < len1) = False := eq_false (by omega)
    have qglen1 : ((len1 : Int) > 60) = False := eq_false (by omega)
    by_cases hbs2 : st.size > 200
    · have qls2 : ((200 : Int) < st.size) = True := eq_true (by omega)
      have qgs2 : ((st.size : Int) > 200) = True := eq_true (by omega)
      clear hl
      go_enter Try.func11, Try.ntmps11
      go_wp2_with fail
      refine (c_known13 _).mono ?_
      rintro e w2 ⟨rfl, b2⟩
      have HB2 := Lib.hid b2
      clear b2
      go_wp2
      go_ret
      exact ⟨rfl, HB2.out⟩
    · have qls2 : ((200 : Int) < st.size) = False := eq_false (by omega)
      have qgs2 : ((st.size : Int) > 200) = False := eq_false (by omega)
      have HL := Lib.hid hl
      obtain ⟨RE, hRE⟩ : ∃ E, E = readE st := ⟨_, rfl⟩
      have HRE := Lib.hid hRE
      obtain ⟨TT, hTT⟩ : ∃ E, E = str (textL l) := ⟨_, rfl⟩
      have HTT := Lib.hid hTT
      obtain ⟨IV, hIV⟩ : ∃ E, E = (if intO l = true then valI l else 0) := ⟨_, rfl⟩
      have HIV := Lib.hid hIV
      obtain ⟨IB, hIB⟩ : ∃ E, E = intO l := ⟨_, rfl⟩
      have HIB := Lib.hid hIB
      have g0 : (RE == RE) = true := by simp
      have g1 : (TT.toList == TT.toList) = true := by simp
      have g2 : ((IV : Int) == (IV : Int)) = true := by simp
      have g3 : (IB == IB) = true := by simp
      clear hl hRE hTT hIV hIB
      by_cases hn : n < 0
      · have q1 : ((n : Int) < 0) = True := eq_true hn
        go_enter Try.func11, Try.ntmps11
        have HB0 := Lib.hid (Below.refl w.heap.size w)
        go_wp2_with fail
        refine (c_OfNeg n _ hn).mono ?_
        rintro e wz1 ⟨rfl, rfl⟩
        go_wp2_with fail
        refine (r_OfNeg n _ hn).mono ?_
        rintro e wz2 ⟨rfl, rfl⟩
        go_wp2_with fail
        refine (c_Int _ _ _ l w HL.out (by omega)).mono ?_
        rw [← HIV.out, ← HIB.out]
        rintro e wy3 ⟨rfl, b3⟩
        have hb3 : Below w.heap.size w wy3 := b3
        have HL := Lib.hid (HL.out.below hb3)
        have HB3 := Lib.hid (bNext HB0.out hb3)
        clear b3 hb3 
        go_wp2_with fail
        refine ((r_Int HL.out (by omega))).mono ?_
        rw [← HIV.out, ← HIB.out]
        rintro e wz4 ⟨rfl, rfl⟩
        go_wp2_with fail
        refine (c_Read st wy3 (by omega)).mono ?_
        rw [← HRE.out]
        rintro e wy5 ⟨a5, k5, c5, rfl, hn5, b5⟩
        have hb5 : Below wy3.heap.size wy3 wy5 := b5
        have HL := Lib.hid (HL.out.below hb5)
        have HB5 := Lib.hid (bNext HB3.out hb5)
        have HX5 := Lib.hid hn5.sl
        clear b5 hb5 hn5
        go_wp2_with fail
        refine (r_Read st wy5 (by omega)).mono ?_
        rw [← HRE.out]
        rintro e wy6 ⟨a6, k6, c6, rfl, hn6, b6⟩
        have hb6 : Below wy5.heap.size wy5 wy6 := b6
        have HL := Lib.hid (HL.out.below hb6)
        have HX5 := Lib.hid (HX5.out.below hb6)
        have HB6 := Lib.hid (bNext HB5.out hb6)
        have HX6 := Lib.hid hn6.sl
        clear b6 hb6 hn6
        go_wp2_with fail
        refine (s_Same (SlAt.nil _) (SlAt.nil _)).mono ?_
        rintro e wz7 ⟨rfl, rfl⟩
        rw [decide_eq_true rfl]
        go_wp2_with fail
        refine (s_Same HX5.out HX6.out).mono ?_
        rintro e wz8 ⟨rfl, rfl⟩
        rw [decide_eq_true rfl]
        go_wp2_with fail
        refine (s_Text HL.out (by omega)).mono ?_
        rw [← HTT.out]
        rintro e wy9 ⟨rfl, b9⟩
        have hb9 : Below wy6.heap.size wy6 wy9 := b9
        have HL := Lib.hid (HL.out.below hb9)
        have HX5 := Lib.hid (HX5.out.below hb9)
        have HX6 := Lib.hid (HX6.out.below hb9)
        have HB9 := Lib.hid (bNext HB6.out hb9)
        clear b9 hb9 
        go_wp2_with fail
        refine (r_Text HL.out (by omega)).mono ?_
        rw [← HTT.out]
        rintro e wy10 ⟨rfl, b10⟩
        have hb10 : Below wy9.heap.size wy9 wy10 := b10
        have HL := Lib.hid (HL.out.below hb10)
        have HX5 := Lib.hid (HX5.out.below hb10)
        have HX6 := Lib.hid (HX6.out.below hb10)
        have HB10 := Lib.hid (bNext HB9.out hb10)
        clear b10 hb10 
        go_wp2_with fail
        refine (c_known13 _).mono ?_
        rintro e wy11 ⟨rfl, b11⟩
        have hb11 : Below wy10.heap.size wy10 wy11 := b11
        have HL := Lib.hid (HL.out.below hb11)
        have HX5 := Lib.hid (HX5.out.below hb11)
        have HX6 := Lib.hid (HX6.out.below hb11)
        have HB11 := Lib.hid (bNext HB10.out hb11)
        clear b11 hb11 
        go_wp2
        go_ret
        exact ⟨rfl, HB11.out⟩
      · obtain ⟨N, rfl⟩ := Int.eq_ofNat_of_zero_le (show 0 ≤ n by omega)
        have q1 : ((N : Int) < 0) = False := eq_false hn
        clear hn
        go_enter Try.func11, Try.ntmps11
        have HB0 := Lib.hid (Below.refl w.heap.size w)
        go_wp2_with fail
        refine (c_Of N w (by omega)).mono ?_
        rintro e wy1 ⟨a1, k1, c1, rfl, hn1, b1⟩
        have hb1 : Below w.heap.size w wy1 := b1
        have HL := Lib.hid (HL.out.below hb1)
        have HB1 := Lib.hid (bNext HB0.out hb1)
        have HX1 := Lib.hid hn1.sl
        clear b1 hb1 hn1
        go_wp2_with fail
        refine (r_Of N wy1 (by omega)).mono ?_
        rintro e wy2 ⟨a2, k2, c2, rfl, hn2, b2⟩
        have hb2 : Below wy1.heap.size wy1 wy2 := b2
        have HL := Lib.hid (HL.out.below hb2)
        have HX1 := Lib.hid (HX1.out.below hb2)
        have HB2 := Lib.hid (bNext HB1.out hb2)
        have HX2 := Lib.hid hn2.sl
        clear b2 hb2 hn2
        go_wp2_with fail
        refine (c_Int _ _ _ l wy2 HL.out (by omega)).mono ?_
        rw [← HIV.out, ← HIB.out]
        rintro e wy3 ⟨rfl, b3⟩
        have hb3 : Below wy2.heap.size wy2 wy3 := b3
        have HL := Lib.hid (HL.out.below hb3)
        have HX1 := Lib.hid (HX1.out.below hb3)
        have HX2 := Lib.hid (HX2.out.below hb3)
        have HB3 := Lib.hid (bNext HB2.out hb3)
        clear b3 hb3 
        go_wp2_with fail
        refine ((r_Int HL.out (by omega))).mono ?_
        rw [← HIV.out, ← HIB.out]
        rintro e wz4 ⟨rfl, rfl⟩
        go_wp2_with fail
        refine (c_Read st wy3 (by omega)).mono ?_
        rw [← HRE.out]
        rintro e wy5 ⟨a5, k5, c5, rfl, hn5, b5⟩
        have hb5 : Below wy3.heap.size wy3 wy5 := b5
        have HL := Lib.hid (HL.out.below hb5)
        have HX1 := Lib.hid (HX1.out.below hb5)
        have HX2 := Lib.hid (HX2.out.below hb5)
        have HB5 := Lib.hid (bNext HB3.out hb5)
        have HX5 := Lib.hid hn5.sl
        clear b5 hb5 hn5
        go_wp2_with fail
        refine (r_Read st wy5 (by omega)).mono ?_
        rw [← HRE.out]
        rintro e wy6 ⟨a6, k6, c6, rfl, hn6, b6⟩
        have hb6 : Below wy5.heap.size wy5 wy6 := b6
        have HL := Lib.hid (HL.out.below hb6)
        have HX1 := Lib.hid (HX1.out.below hb6)
        have HX2 := Lib.hid (HX2.out.below hb6)
        have HX5 := Lib.hid (HX5.out.below hb6)
        have HB6 := Lib.hid (bNext HB5.out hb6)
        have HX6 := Lib.hid hn6.sl
        clear b6 hb6 hn6
        go_wp2_with fail
        refine (s_Same HX1.out HX2.out).mono ?_
        rintro e wz7 ⟨rfl, rfl⟩
        rw [decide_eq_true rfl]
        go_wp2_with fail
        refine (s_Same HX5.out HX6.out).mono ?_
        rintro e wz8 ⟨rfl, rfl⟩
        rw [decide_eq_true rfl]
        go_wp2_with fail
        refine (s_Text HL.out (by omega)).mono ?_
        rw [← HTT.out]
        rintro e wy9 ⟨rfl, b9⟩
        have hb9 : Below wy6.heap.size wy6 wy9 := b9
        have HL := Lib.hid (HL.out.below hb9)
        have HX1 := Lib.hid (HX1.out.below hb9)
        have HX2 := Lib.hid (HX2.out.below hb9)
        have HX5 := Lib.hid (HX5.out.below hb9)
        have HX6 := Lib.hid (HX6.out.below hb9)
        have HB9 := Lib.hid (bNext HB6.out hb9)
        clear b9 hb9 
        go_wp2_with fail
        refine (r_Text HL.out (by omega)).mono ?_
        rw [← HTT.out]
        rintro e wy10 ⟨rfl, b10⟩
        have hb10 : Below wy9.heap.size wy9 wy10 := b10
        have HL := Lib.hid (HL.out.below hb10)
        have HX1 := Lib.hid (HX1.out.below hb10)
        have HX2 := Lib.hid (HX2.out.below hb10)
        have HX5 := Lib.hid (HX5.out.below hb10)
        have HX6 := Lib.hid (HX6.out.below hb10)
        have HB10 := Lib.hid (bNext HB9.out hb10)
        clear b10 hb10 
        go_wp2_with fail
        refine (c_known13 _).mono ?_
        rintro e wy11 ⟨rfl, b11⟩
        have hb11 : Below wy10.heap.size wy10 wy11 := b11
        have HL := Lib.hid (HL.out.below hb11)
        have HX1 := Lib.hid (HX1.out.below hb11)
        have HX2 := Lib.hid (HX2.out.below hb11)
        have HX5 := Lib.hid (HX5.out.below hb11)
        have HX6 := Lib.hid (HX6.out.below hb11)
        have HB11 := Lib.hid (bNext HB10.out hb11)
        clear b11 hb11 
        go_wp2
        go_ret
        exact ⟨rfl, HB11.out⟩

end Go.Proofs.Ytdafncaehjipbaa
