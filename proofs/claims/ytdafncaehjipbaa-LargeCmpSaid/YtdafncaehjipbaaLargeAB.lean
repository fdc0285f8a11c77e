/-
  The law LargeCmp. (Written by lcmpgen.py.)
-/
import Derived.Test.YtdafncaehjipbaaLargeAA
namespace Go.Proofs.Ytdafncaehjipbaa
open Go.RowKit
set_option linter.unusedVariables false
set_option maxHeartbeats 2000000
set_option maxRecDepth 20000

theorem law_LargeCmp (a0 : Option Addr) (len0 cap0 : Nat) (z0 : List Int) (a1 : Option Addr) (len1 cap1 : Nat) (z1 : List Int) (a2 : Option Addr) (len2 cap2 : Nat) (z2 : List Int) (w : World) (w0 : Came .u8 w a0 len0 cap0 z0) (w1 : Came .u8 w a1 len1 cap1 z1) (w2 : Came .u8 w a2 len2 cap2 z2) :
    Calls Try.prog 9 #[.slice a0 len0 cap0, .slice a1 len1 cap1, .slice a2 len2 cap2] w fun e w' => e = .returned (.bool true) ∧ Below w.heap.size w w' := by
  obtain ⟨l, hl⟩ := w0.sl
  obtain ⟨m, hm⟩ := w1.sl
  obtain ⟨n, hn⟩ := w2.sl
  clear w0 w1 w2
  by_cases hblen0 : len0 > 100
  · have qllen0 : ((100 : Int) < len0) = True := eq_true (by omega)
    have qglen0 : ((len0 : Int) > 100) = True := eq_true (by omega)
    clear hl hm hn
    go_enter Try.func9, Try.ntmps9
    go_wp2_with fail
    refine (c_known13 _).mono ?_
    rintro e w2 ⟨rfl, b2⟩
    have HB2 := Lib.hid b2
    clear b2
    go_wp2
    go_ret
    exact ⟨rfl, HB2.out⟩
  · have qllen0 : ((100 : Int) < len0) = False := eq_false (by omega)
    have qglen0 : ((len0 : Int) > 100) = False := eq_false (by omega)
    by_cases hblen1 : len1 > 100
    · have qllen1 : ((100 : Int) < len1) = True := eq_true (by omega)
      have qglen1 : ((len1 : Int) > 100) = True := eq_true (by omega)
      clear hl hm hn
      go_enter Try.func9, Try.ntmps9
      go_wp2_with fail
      refine (c_known13 _).mono ?_
      rintro e w2 ⟨rfl, b2⟩
      have HB2 := Lib.hid b2
      clear b2
      go_wp2
      go_ret
      exact ⟨rfl, HB2.out⟩
    · have qllen1 : ((100 : Int) < len1) = False := eq_false (by omega)
      have qglen1 : ((len1 : Int) > 100) = False := eq_false (by omega)
      by_cases hblen2 : len2 > 100
      · have qllen2 : ((100 : Int) < len2) = True := eq_true (by omega)
        have qglen2 : ((len2 : Int) > 100) = True := eq_true (by omega)
        clear hl hm hn
        go_enter Try.func9, Try.ntmps9
        go_wp2_with fail
        refine (c_known13 _).mono ?_
        rintro e w2 ⟨rfl, b2⟩
        have HB2 := Lib.hid b2
        clear b2
        go_wp2
        go_ret
        exact ⟨rfl, HB2.out⟩
      · have qllen2 : ((100 : Int) < len2) = False := eq_false (by omega)
        have qglen2 : ((len2 : Int) > 100) = False := eq_false (by omega)
        have HL := Lib.hid hl
        have HM := Lib.hid hm
        have HN := Lib.hid hn
        have HR0 := Lib.hid (s_Right hl (by omega))
        have HR1 := Lib.hid (s_Right hm (by omega))
        have HR2 := Lib.hid (s_Right hn (by omega))
        clear hl hm hn
        cases hr0 : rightB l with
        | false =>
          rw [hr0] at HR0
          clear hr0
          go_enter Try.func9, Try.ntmps9
          have HB0 := Lib.hid (Below.refl w.heap.size w)
          go_wp2_with fail
          refine (HR0.out).mono ?_
          rintro e wz1 ⟨rfl, rfl⟩
          go_wp2_with fail
          refine (c_known13 _).mono ?_
          rintro e wy2 ⟨rfl, b2⟩
          have hb2 : Below w.heap.size w wy2 := b2
          have HB2 := Lib.hid (bNext HB0.out hb2)
          clear b2 hb2 
          go_wp2
          go_ret
          exact ⟨rfl, HB2.out⟩
        | true =>
          rw [hr0] at HR0
          cases hr1 : rightB m with
          | false =>
            rw [hr1] at HR1
            clear hr1
            go_enter Try.func9, Try.ntmps9
            have HB0 := Lib.hid (Below.refl w.heap.size w)
            go_wp2_with fail
            refine (HR0.out).mono ?_
            rintro e wz1 ⟨rfl, rfl⟩
            go_wp2_with fail
            refine (HR1.out).mono ?_
            rintro e wz2 ⟨rfl, rfl⟩
            go_wp2_with fail
            refine (c_known13 _).mono ?_
            rintro e wy3 ⟨rfl, b3⟩
            have hb3 : Below w.heap.size w wy3 := b3
            have HB3 := Lib.hid (bNext HB0.out hb3)
            clear b3 hb3 
            go_wp2
            go_ret
            exact ⟨rfl, HB3.out⟩
          | true =>
            rw [hr1] at HR1
            cases hr2 : rightB n with
            | false =>
              rw [hr2] at HR2
              clear hr2
              go_enter Try.func9, Try.ntmps9
              have HB0 := Lib.hid (Below.refl w.heap.size w)
              go_wp2_with fail
              refine (HR0.out).mono ?_
              rintro e wz1 ⟨rfl, rfl⟩
              go_wp2_with fail
              refine (HR1.out).mono ?_
              rintro e wz2 ⟨rfl, rfl⟩
              go_wp2_with fail
              refine (HR2.out).mono ?_
              rintro e wz3 ⟨rfl, rfl⟩
              go_wp2_with fail
              refine (c_known13 _).mono ?_
              rintro e wy4 ⟨rfl, b4⟩
              have hb4 : Below w.heap.size w wy4 := b4
              have HB4 := Lib.hid (bNext HB0.out hb4)
              clear b4 hb4 
              go_wp2
              go_ret
              exact ⟨rfl, HB4.out⟩
            | true =>
              rw [hr2] at HR2
              have HD0 := Lib.hid (right_digs HL.out.byt hr0)
              have HD1 := Lib.hid (right_digs HM.out.byt hr1)
              have HD2 := Lib.hid (right_digs HN.out.byt hr2)
              have HLN := Lib.hid (show (digs (valI l + valI n)).length ≤ 100 + 1 ∧ (digs (valI m + valI n)).length ≤ 100 + 1 from by
                have h0 := HL.out.len
                have h1 := HM.out.len
                have h2 := HN.out.len
                obtain ⟨F, hF⟩ : ∃ F, F = 100 := ⟨_, rfl⟩
                have hv : valI n < 256 ^ F := Nat.lt_of_lt_of_le (valI_lt HN.out.byt) (Nat.pow_le_pow_right (by omega) (by omega))
                have a := sum_len (S := valI l) (v := valI n) (n := F) (k := 0) (by rw [HD0.out.1]; omega) hv
                have b := sum_len (S := valI m) (v := valI n) (n := F) (k := 0) (by rw [HD1.out.1]; omega) hv
                rw [hF] at a b
                exact ⟨a, b⟩)
              have HE1 := Lib.hid (show add2E l n = 0 from by unfold add2E fullE; rw [hr0, hr2, if_neg (by simp), if_pos (by have := HLN.out.1; omega)])
              have HE2 := Lib.hid (show add2E m n = 0 from by unfold add2E fullE; rw [hr1, hr2, if_neg (by simp), if_pos (by have := HLN.out.2; omega)])
              clear hr0 hr1 hr2
              rcases Nat.lt_trichotomy (valI l) (valI m) with hlt | hlt | hlt
              · have HC1 := Lib.hid (show cmpI (valI l) (valI m) = -1 from by unfold cmpI; rw [if_pos hlt])
                have HC2 := Lib.hid (show cmpI (valI m) (valI l) = 1 from by unfold cmpI; rw [if_neg (by omega), if_pos hlt])
                have HC3 := Lib.hid (show cmpI (valI l + valI n) (valI m + valI n) = -1 from by unfold cmpI; rw [if_pos (by omega)])
                have HSM := Lib.hid (show decide (l = m) = false from decide_eq_false (fun h => by rw [h] at hlt; omega))
                clear hlt
                go_enter Try.func9, Try.ntmps9
                have HB0 := Lib.hid (Below.refl w.heap.size w)
                go_wp2_with fail
                refine (HR0.out).mono ?_
                rintro e wz1 ⟨rfl, rfl⟩
                go_wp2_with fail
                refine (HR1.out).mono ?_
                rintro e wz2 ⟨rfl, rfl⟩
                go_wp2_with fail
                refine (HR2.out).mono ?_
                rintro e wz3 ⟨rfl, rfl⟩
                go_wp2_with fail
                refine (s_Cmp HL.out HM.out (by omega) (by omega)).mono ?_
                rw [HC1.out]
                rintro e wy4 ⟨rfl, b4⟩
                have hb4 : Below w.heap.size w wy4 := b4
                have HL := Lib.hid (HL.out.below hb4)
                have HM := Lib.hid (HM.out.below hb4)
                have HN := Lib.hid (HN.out.below hb4)
                have HB4 := Lib.hid (bNext HB0.out hb4)
                clear b4 hb4 
                go_wp2_with fail
                refine (s_Add1 (HL.out.alloc _) (by omega) (HN.out.alloc _) (by omega) (Reads.madeAt rfl)).mono ?_
                rw [HE1.out]
                rintro e wy5 ⟨a5, k5, c5, rfl, hn5, b5⟩
                have hb5 : Below wy4.heap.size wy4 wy5 := ((Below.refl _ wy4).alloc (Nat.le_refl _) _).trans (b5.mono (by simp))
                have HL := Lib.hid (HL.out.below hb5)
                have HM := Lib.hid (HM.out.below hb5)
                have HN := Lib.hid (HN.out.below hb5)
                have HB5 := Lib.hid (bNext HB4.out hb5)
                rw [if_pos rfl] at hn5
                have HX5 := Lib.hid hn5.sl
                have hk5 : k5 ≤ 1000 := by rw [hn5.1]; exact Nat.le_trans HLN.out.1 (by omega)
                clear b5 hb5 hn5
                go_wp2_with fail
                refine (s_Add1 (HM.out.alloc _) (by omega) (HN.out.alloc _) (by omega) (Reads.madeAt rfl)).mono ?_
                rw [HE2.out]
                rintro e wy6 ⟨a6, k6, c6, rfl, hn6, b6⟩
                have hb6 : Below wy5.heap.size wy5 wy6 := ((Below.refl _ wy5).alloc (Nat.le_refl _) _).trans (b6.mono (by simp))
                have HL := Lib.hid (HL.out.below hb6)
                have HM := Lib.hid (HM.out.below hb6)
                have HN := Lib.hid (HN.out.below hb6)
                have HX5 := Lib.hid (HX5.out.below hb6)
                have HB6 := Lib.hid (bNext HB5.out hb6)
                rw [if_pos rfl] at hn6
                have HX6 := Lib.hid hn6.sl
                have hk6 : k6 ≤ 1000 := by rw [hn6.1]; exact Nat.le_trans HLN.out.2 (by omega)
                clear b6 hb6 hn6
                go_wp2_with fail
                refine (s_Cmp HM.out HL.out (by omega) (by omega)).mono ?_
                rw [HC2.out]
                rintro e wy7 ⟨rfl, b7⟩
                have hb7 : Below wy6.heap.size wy6 wy7 := b7
                have HL := Lib.hid (HL.out.below hb7)
                have HM := Lib.hid (HM.out.below hb7)
                have HN := Lib.hid (HN.out.below hb7)
                have HX5 := Lib.hid (HX5.out.below hb7)
                have HX6 := Lib.hid (HX6.out.below hb7)
                have HB7 := Lib.hid (bNext HB6.out hb7)
                clear b7 hb7 
                go_wp2_with fail
                refine (s_Same HL.out HM.out).mono ?_
                rintro e wz8 ⟨rfl, rfl⟩
                rw [HSM.out]
                go_wp2_with fail
                refine (s_Cmp HX5.out HX6.out (by omega) (by omega)).mono ?_
                rw [valI_digs, valI_digs, HC3.out]
                rintro e wy9 ⟨rfl, b9⟩
                have hb9 : Below wy7.heap.size wy7 wy9 := b9
                have HL := Lib.hid (HL.out.below hb9)
                have HM := Lib.hid (HM.out.below hb9)
                have HN := Lib.hid (HN.out.below hb9)
                have HX5 := Lib.hid (HX5.out.below hb9)
                have HX6 := Lib.hid (HX6.out.below hb9)
                have HB9 := Lib.hid (bNext HB7.out hb9)
                clear b9 hb9 
                go_wp2_with fail
                refine (r_Cmp HL.out HM.out (by omega) (by omega)).mono ?_
                rw [HC1.out]
                rintro e wq ⟨rfl, rfl⟩
                go_wp2_with fail
                refine (c_known13 _).mono ?_
                rintro e wy10 ⟨rfl, b10⟩
                have hb10 : Below wy9.heap.size wy9 wy10 := b10
                have HL := Lib.hid (HL.out.below hb10)
                have HM := Lib.hid (HM.out.below hb10)
                have HN := Lib.hid (HN.out.below hb10)
                have HX5 := Lib.hid (HX5.out.below hb10)
                have HX6 := Lib.hid (HX6.out.below hb10)
                have HB10 := Lib.hid (bNext HB9.out hb10)
                clear b10 hb10 
                go_wp2
                go_ret
                exact ⟨rfl, HB10.out⟩
              · have HC1 := Lib.hid (show cmpI (valI l) (valI m) = 0 from by rw [hlt]; exact cmpI_self _)
                have HC2 := Lib.hid (show cmpI (valI m) (valI l) = 0 from by rw [hlt]; exact cmpI_self _)
                have HC3 := Lib.hid (show cmpI (valI l + valI n) (valI m + valI n) = 0 from by rw [hlt]; exact cmpI_self _)
                have HSM := Lib.hid (show decide (l = m) = true from decide_eq_true (by rw [← HD0.out.1, ← HD1.out.1, hlt]))
                clear hlt
                go_enter Try.func9, Try.ntmps9
                have HB0 := Lib.hid (Below.refl w.heap.size w)
                go_wp2_with fail
                refine (HR0.out).mono ?_
                rintro e wz1 ⟨rfl, rfl⟩
                go_wp2_with fail
                refine (HR1.out).mono ?_
                rintro e wz2 ⟨rfl, rfl⟩
                go_wp2_with fail
                refine (HR2.out).mono ?_
                rintro e wz3 ⟨rfl, rfl⟩
                go_wp2_with fail
                refine (s_Cmp HL.out HM.out (by omega) (by omega)).mono ?_
                rw [HC1.out]
                rintro e wy4 ⟨rfl, b4⟩
                have hb4 : Below w.heap.size w wy4 := b4
                have HL := Lib.hid (HL.out.below hb4)
                have HM := Lib.hid (HM.out.below hb4)
                have HN := Lib.hid (HN.out.below hb4)
                have HB4 := Lib.hid (bNext HB0.out hb4)
                clear b4 hb4 
                go_wp2_with fail
                refine (s_Add1 (HL.out.alloc _) (by omega) (HN.out.alloc _) (by omega) (Reads.madeAt rfl)).mono ?_
                rw [HE1.out]
                rintro e wy5 ⟨a5, k5, c5, rfl, hn5, b5⟩
                have hb5 : Below wy4.heap.size wy4 wy5 := ((Below.refl _ wy4).alloc (Nat.le_refl _) _).trans (b5.mono (by simp))
                have HL := Lib.hid (HL.out.below hb5)
                have HM := Lib.hid (HM.out.below hb5)
                have HN := Lib.hid (HN.out.below hb5)
                have HB5 := Lib.hid (bNext HB4.out hb5)
                rw [if_pos rfl] at hn5
                have HX5 := Lib.hid hn5.sl
                have hk5 : k5 ≤ 1000 := by rw [hn5.1]; exact Nat.le_trans HLN.out.1 (by omega)
                clear b5 hb5 hn5
                go_wp2_with fail
                refine (s_Add1 (HM.out.alloc _) (by omega) (HN.out.alloc _) (by omega) (Reads.madeAt rfl)).mono ?_
                rw [HE2.out]
                rintro e wy6 ⟨a6, k6, c6, rfl, hn6, b6⟩
                have hb6 : Below wy5.heap.size wy5 wy6 := ((Below.refl _ wy5).alloc (Nat.le_refl _) _).trans (b6.mono (by simp))
                have HL := Lib.hid (HL.out.below hb6)
                have HM := Lib.hid (HM.out.below hb6)
                have HN := Lib.hid (HN.out.below hb6)
                have HX5 := Lib.hid (HX5.out.below hb6)
                have HB6 := Lib.hid (bNext HB5.out hb6)
                rw [if_pos rfl] at hn6
                have HX6 := Lib.hid hn6.sl
                have hk6 : k6 ≤ 1000 := by rw [hn6.1]; exact Nat.le_trans HLN.out.2 (by omega)
                clear b6 hb6 hn6
                go_wp2_with fail
                refine (s_Cmp HM.out HL.out (by omega) (by omega)).mono ?_
                rw [HC2.out]
                rintro e wy7 ⟨rfl, b7⟩
                have hb7 : Below wy6.heap.size wy6 wy7 := b7
                have HL := Lib.hid (HL.out.below hb7)
                have HM := Lib.hid (HM.out.below hb7)
                have HN := Lib.hid (HN.out.below hb7)
                have HX5 := Lib.hid (HX5.out.below hb7)
                have HX6 := Lib.hid (HX6.out.below hb7)
                have HB7 := Lib.hid (bNext HB6.out hb7)
                clear b7 hb7 
                go_wp2_with fail
                refine (s_Same HL.out HM.out).mono ?_
                rintro e wz8 ⟨rfl, rfl⟩
                rw [HSM.out]
                go_wp2_with fail
                refine (s_Cmp HX5.out HX6.out (by omega) (by omega)).mono ?_
                rw [valI_digs, valI_digs, HC3.out]
                rintro e wy9 ⟨rfl, b9⟩
                have hb9 : Below wy7.heap.size wy7 wy9 := b9
                have HL := Lib.hid (HL.out.below hb9)
                have HM := Lib.hid (HM.out.below hb9)
                have HN := Lib.hid (HN.out.below hb9)
                have HX5 := Lib.hid (HX5.out.below hb9)
                have HX6 := Lib.hid (HX6.out.below hb9)
                have HB9 := Lib.hid (bNext HB7.out hb9)
                clear b9 hb9 
                go_wp2_with fail
                refine (r_Cmp HL.out HM.out (by omega) (by omega)).mono ?_
                rw [HC1.out]
                rintro e wq ⟨rfl, rfl⟩
                go_wp2_with fail
                refine (c_known13 _).mono ?_
                rintro e wy10 ⟨rfl, b10⟩
                have hb10 : Below wy9.heap.size wy9 wy10 := b10
                have HL := Lib.hid (HL.out.below hb10)
                have HM := Lib.hid (HM.out.below hb10)
                have HN := Lib.hid (HN.out.below hb10)
                have HX5 := Lib.hid (HX5.out.below hb10)
                have HX6 := Lib.hid (HX6.out.below hb10)
                have HB10 := Lib.hid (bNext HB9.out hb10)
                clear b10 hb10 
                go_wp2
                go_ret
                exact ⟨rfl, HB10.out⟩
              · have HC1 := Lib.hid (show cmpI (valI l) (valI m) = 1 from by unfold cmpI; rw [if_neg (by omega), if_pos hlt])
                have HC2 := Lib.hid (show cmpI (valI m) (valI l) = -1 from by unfold cmpI; rw [if_pos hlt])
                have HC3 := Lib.hid (show cmpI (valI l + valI n) (valI m + valI n) = 1 from by unfold cmpI; rw [if_neg (by omega), if_pos (by omega)])
                have HSM := Lib.hid (show decide (l = m) = false from decide_eq_false (fun h => by rw [h] at hlt; omega))
                clear hlt
                go_enter Try.func9, Try.ntmps9
                have HB0 := Lib.hid (Below.refl w.heap.size w)
                go_wp2_with fail
                refine (HR0.out).mono ?_
                rintro e wz1 ⟨rfl, rfl⟩
                go_wp2_with fail
                refine (HR1.out).mono ?_
                rintro e wz2 ⟨rfl, rfl⟩
                go_wp2_with fail
                refine (HR2.out).mono ?_
                rintro e wz3 ⟨rfl, rfl⟩
                go_wp2_with fail
                refine (s_Cmp HL.out HM.out (by omega) (by omega)).mono ?_
                rw [HC1.out]
                rintro e wy4 ⟨rfl, b4⟩
                have hb4 : Below w.heap.size w wy4 := b4
                have HL := Lib.hid (HL.out.below hb4)
                have HM := Lib.hid (HM.out.below hb4)
                have HN := Lib.hid (HN.out.below hb4)
                have HB4 := Lib.hid (bNext HB0.out hb4)
                clear b4 hb4 
                go_wp2_with fail
                refine (s_Add1 (HL.out.alloc _) (by omega) (HN.out.alloc _) (by omega) (Reads.madeAt rfl)).mono ?_
                rw [HE1.out]
                rintro e wy5 ⟨a5, k5, c5, rfl, hn5, b5⟩
                have hb5 : Below wy4.heap.size wy4 wy5 := ((Below.refl _ wy4).alloc (Nat.le_refl _) _).trans (b5.mono (by simp))
                have HL := Lib.hid (HL.out.below hb5)
                have HM := Lib.hid (HM.out.below hb5)
                have HN := Lib.hid (HN.out.below hb5)
                have HB5 := Lib.hid (bNext HB4.out hb5)
                rw [if_pos rfl] at hn5
                have HX5 := Lib.hid hn5.sl
                have hk5 : k5 ≤ 1000 := by rw [hn5.1]; exact Nat.le_trans HLN.out.1 (by omega)
                clear b5 hb5 hn5
                go_wp2_with fail
                refine (s_Add1 (HM.out.alloc _) (by omega) (HN.out.alloc _) (by omega) (Reads.madeAt rfl)).mono ?_
                rw [HE2.out]
                rintro e wy6 ⟨a6, k6, c6, rfl, hn6, b6⟩
                have hb6 : Below wy5.heap.size wy5 wy6 := ((Below.refl _ wy5).alloc (Nat.le_refl _) _).trans (b6.mono (by simp))
                have HL := Lib.hid (HL.out.below hb6)
                have HM := Lib.hid (HM.out.below hb6)
                have HN := Lib.hid (HN.out.below hb6)
                have HX5 := Lib.hid (HX5.out.below hb6)
                have HB6 := Lib.hid (bNext HB5.out hb6)
                rw [if_pos rfl] at hn6
                have HX6 := Lib.hid hn6.sl
                have hk6 : k6 ≤ 1000 := by rw [hn6.1]; exact Nat.le_trans HLN.out.2 (by omega)
                clear b6 hb6 hn6
                go_wp2_with fail
                refine (s_Cmp HM.out HL.out (by omega) (by omega)).mono ?_
                rw [HC2.out]
                rintro e wy7 ⟨rfl, b7⟩
                have hb7 : Below wy6.heap.size wy6 wy7 := b7
                have HL := Lib.hid (HL.out.below hb7)
                have HM := Lib.hid (HM.out.below hb7)
                have HN := Lib.hid (HN.out.below hb7)
                have HX5 := Lib.hid (HX5.out.below hb7)
                have HX6 := Lib.hid (HX6.out.below hb7)
                have HB7 := Lib.hid (bNext HB6.out hb7)
                clear b7 hb7 
                go_wp2_with fail
                refine (s_Same HL.out HM.out).mono ?_
                rintro e wz8 ⟨rfl, rfl⟩
                rw [HSM.out]
                go_wp2_with fail
                refine (s_Cmp HX5.out HX6.out (by omega) (by omega)).mono ?_
                rw [valI_digs, valI_digs, HC3.out]
                rintro e wy9 ⟨rfl, b9⟩
                have hb9 : Below wy7.heap.size wy7 wy9 := b9
                have HL := Lib.hid (HL.out.below hb9)
                have HM := Lib.hid (HM.out.below hb9)
                have HN := Lib.hid (HN.out.below hb9)
                have HX5 := Lib.hid (HX5.out.below hb9)
                have HX6 := Lib.hid (HX6.out.below hb9)
                have HB9 := Lib.hid (bNext HB7.out hb9)
                clear b9 hb9 
                go_wp2_with fail
                refine (r_Cmp HL.out HM.out (by omega) (by omega)).mono ?_
                rw [HC1.out]
                rintro e wq ⟨rfl, rfl⟩
                go_wp2_with fail
                refine (c_known13 _).mono ?_
                rintro e wy10 ⟨rfl, b10⟩
                have hb10 : Below wy9.heap.size wy9 wy10 := b10
                have HL := Lib.hid (HL.out.below hb10)
                have HM := Lib.hid (HM.out.below hb10)
                have HN := Lib.hid (HN.out.below hb10)
                have HX5 := Lib.hid (HX5.out.below hb10)
                have HX6 := Lib.hid (HX6.out.below hb10)
                have HB10 := Lib.hid (bNext HB9.out hb10)
                clear b10 hb10 
                go_wp2
                go_ret
                exact ⟨rfl, HB10.out⟩

end Go.Proofs.Ytdafncaehjipbaa
