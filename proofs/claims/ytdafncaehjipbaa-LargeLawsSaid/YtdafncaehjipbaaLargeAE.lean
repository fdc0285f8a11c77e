/-
  The law LargeLaws. (Written by llawsgen.py.)
-/
import Derived.Test.YtdafncaehjipbaaLargeAD
namespace Go.Proofs.Ytdafncaehjipbaa
open Go.RowKit
set_option linter.unusedVariables false
set_option maxHeartbeats 4000000
set_option maxRecDepth 20000

theorem law_LargeLaws (a0 : Option Addr) (len0 cap0 : Nat) (z0 : List Int) (a1 : Option Addr) (len1 cap1 : Nat) (z1 : List Int) (a2 : Option Addr) (len2 cap2 : Nat) (z2 : List Int) (w : World) (w0 : Came .u8 w a0 len0 cap0 z0) (w1 : Came .u8 w a1 len1 cap1 z1) (w2 : Came .u8 w a2 len2 cap2 z2) :
    Calls Try.prog 7 #[.slice a0 len0 cap0, .slice a1 len1 cap1, .slice a2 len2 cap2] w fun e w' => e = .returned (.bool true) ∧ Below w.heap.size w w' := by
  obtain ⟨l, hl⟩ := w0.sl
  obtain ⟨m, hm⟩ := w1.sl
  obtain ⟨n, hn⟩ := w2.sl
  clear w0 w1 w2
  by_cases hblen0 : len0 > 60
  · have qllen0 : ((60 : Int) < len0) = True := eq_true (by omega)
    have qglen0 : ((len0 : Int) > 60) = True := eq_true (by omega)
    clear hl hm hn
    go_enter Try.func7, Try.ntmps7
    go_wp2_with fail
    refine (c_known13 _).mono ?_
    rintro e w2 ⟨rfl, b2⟩
    have HB2 := Lib.hid b2
    clear b2
    go_wp2
    go_ret
    exact ⟨rfl, HB2.out⟩
  · have qllen0 : ((60 : Int) < len0) = False := eq_false (by omega)
    have qglen0 : ((len0 : Int) > 60) = False := eq_false (by omega)
    by_cases hblen1 : len1 > 60
    · have qllen1 : ((60 : Int) < len1) = True := eq_true (by omega)
      have qglen1 : ((len1 : Int) > 60) = True := eq_true (by omega)
      clear hl hm hn
      go_enter Try.func7, Try.ntmps7
      go_wp2_with fail
      refine (c_known13 _).mono ?_
      rintro e w2 ⟨rfl, b2⟩
      have HB2 := Lib.hid b2
      clear b2
      go_wp2
      go_ret
      exact ⟨rfl, HB2.out⟩
    · have qllen1 : ((60 : Int) < len1) = False := eq_false (by omega)
      have qglen1 : ((len1 : Int) > 60) = False := eq_false (by omega)
      by_cases hblen2 : len2 > 60
      · have qllen2 : ((60 : Int) < len2) = True := eq_true (by omega)
        have qglen2 : ((len2 : Int) > 60) = True := eq_true (by omega)
        clear hl hm hn
        go_enter Try.func7, Try.ntmps7
        go_wp2_with fail
        refine (c_known13 _).mono ?_
        rintro e w2 ⟨rfl, b2⟩
        have HB2 := Lib.hid b2
        clear b2
        go_wp2
        go_ret
        exact ⟨rfl, HB2.out⟩
      · have qllen2 : ((60 : Int) < len2) = False := eq_false (by omega)
        have qglen2 : ((len2 : Int) > 60) = False := eq_false (by omega)
        have HL := Lib.hid hl
        have HM := Lib.hid hm
        have HN := Lib.hid hn
        have HR0 := Lib.hid (s_Right hl (by omega))
        have HR1 := Lib.hid (s_Right hm (by omega))
        have HR2 := Lib.hid (s_Right hn (by omega))
        clear hl hm hn
        cases hr0 : rightB l with
        | false =>
          rw [hr0] at HR0
          clear hr0
          go_enter Try.func7, Try.ntmps7
          have HB0 := Lib.hid (Below.refl w.heap.size w)
          go_wp2_with fail
          refine (HR0.out).mono ?_
          rintro e wz1 ⟨rfl, rfl⟩
          go_wp2_with fail
          refine (c_known13 _).mono ?_
          rintro e wy2 ⟨rfl, b2⟩
          have hb2 : Below w.heap.size w wy2 := b2
          have HB2 := Lib.hid (bNext HB0.out hb2)
          clear b2 hb2 
          go_wp2
          go_ret
          exact ⟨rfl, HB2.out⟩
        | true =>
          rw [hr0] at HR0
          cases hr1 : rightB m with
          | false =>
            rw [hr1] at HR1
            clear hr1
            go_enter Try.func7, Try.ntmps7
            have HB0 := Lib.hid (Below.refl w.heap.size w)
            go_wp2_with fail
            refine (HR0.out).mono ?_
            rintro e wz1 ⟨rfl, rfl⟩
            go_wp2_with fail
            refine (HR1.out).mono ?_
            rintro e wz2 ⟨rfl, rfl⟩
            go_wp2_with fail
            refine (c_known13 _).mono ?_
            rintro e wy3 ⟨rfl, b3⟩
            have hb3 : Below w.heap.size w wy3 := b3
            have HB3 := Lib.hid (bNext HB0.out hb3)
            clear b3 hb3 
            go_wp2
            go_ret
            exact ⟨rfl, HB3.out⟩
          | true =>
            rw [hr1] at HR1
            cases hr2 : rightB n with
            | false =>
              rw [hr2] at HR2
              clear hr2
              go_enter Try.func7, Try.ntmps7
              have HB0 := Lib.hid (Below.refl w.heap.size w)
              go_wp2_with fail
              refine (HR0.out).mono ?_
              rintro e wz1 ⟨rfl, rfl⟩
              go_wp2_with fail
              refine (HR1.out).mono ?_
              rintro e wz2 ⟨rfl, rfl⟩
              go_wp2_with fail
              refine (HR2.out).mono ?_
              rintro e wz3 ⟨rfl, rfl⟩
              go_wp2_with fail
              refine (c_known13 _).mono ?_
              rintro e wy4 ⟨rfl, b4⟩
              have hb4 : Below w.heap.size w wy4 := b4
              have HB4 := Lib.hid (bNext HB0.out hb4)
              clear b4 hb4 
              go_wp2
              go_ret
              exact ⟨rfl, HB4.out⟩
            | true =>
              rw [hr2] at HR2
              have d0 := right_digs HL.out.byt hr0
              have d1 := right_digs HM.out.byt hr1
              have d2 := right_digs HN.out.byt hr2
              obtain ⟨A, hA⟩ : ∃ A, A = valI l := ⟨_, rfl⟩
              obtain ⟨B, hB⟩ : ∃ A, A = valI m := ⟨_, rfl⟩
              obtain ⟨C, hC⟩ : ∃ A, A = valI n := ⟨_, rfl⟩
              have eL : l = digs A := by rw [hA]; exact d0.1.symm
              have eM : m = digs B := by rw [hB]; exact d1.1.symm
              have eN : n = digs C := by rw [hC]; exact d2.1.symm
              rw [eL] at HL
              rw [eM] at HM
              rw [eN] at HN
              have HLA := Lib.hid (show LB A 60 from by have := HL.out.len; show (digs A).length ≤ 60; omega)
              have HLB := Lib.hid (show LB B 60 from by have := HM.out.len; show (digs B).length ≤ 60; omega)
              have HLC := Lib.hid (show LB C 60 from by have := HN.out.len; show (digs C).length ≤ 60; omega)
              clear hr0 hr1 hr2 d0 d1 d2 hA hB hC eL eM eN
              by_cases hz : B = 0
              · have hl1 : len1 = 0 := by rw [HM.out.len, hz, digs_0]; rfl
                have HZ := Lib.hid (show (if B = 0 then (4 : Int) else 0) = 4 from if_pos hz)
                subst hl1
                have HQ := Lib.hid (show digs (A + (B + C)) = digs (C + (A + B)) ∧ digs ((A + B) * C) = digs (C * A + B * C) ∧ digs (A + B - B) = digs A ∧ True from by
                  refine ⟨by rw [show A + (B + C) = C + (A + B) from by omega], by rw [Nat.add_mul, Nat.mul_comm A C], by rw [Nat.add_sub_cancel], trivial⟩)
                clear hz
                go_enter Try.func7, Try.ntmps7
                have HB0 := Lib.hid (Below.refl w.heap.size w)
                go_wp2_with fail
                refine (HR0.out).mono ?_
                rintro e wz1 ⟨rfl, rfl⟩
                go_wp2_with fail
                refine (HR1.out).mono ?_
                rintro e wz2 ⟨rfl, rfl⟩
                go_wp2_with fail
                refine (HR2.out).mono ?_
                rintro e wz3 ⟨rfl, rfl⟩
                go_wp2_with fail
                refine (n_Add2 (HL.out.alloc _) (HM.out.alloc _) (HN.out.alloc _) (Reads.madeAt rfl) (HLA.out.le (by omega)) (HLB.out.le (by omega)) (HLC.out.le (by omega))).mono ?_
                rintro e wy4 ⟨a4, k4, c4, rfl, hn4, b4⟩
                have hb4 : Below w.heap.size w wy4 := ((Below.refl _ w).alloc (Nat.le_refl _) _).trans (b4.mono (by simp))
                have HL := Lib.hid (HL.out.below hb4)
                have HM := Lib.hid (HM.out.below hb4)
                have HN := Lib.hid (HN.out.below hb4)
                have HB4 := Lib.hid (bNext HB0.out hb4)
                rw [if_pos rfl] at hn4
                have HX4 := Lib.hid hn4.sl
                clear b4 hb4 hn4
                go_wp2_with fail
                refine (n_Add2 (HN.out.alloc _) (HL.out.alloc _) (HM.out.alloc _) (Reads.madeAt rfl) (HLC.out.le (by omega)) (HLA.out.le (by omega)) (HLB.out.le (by omega))).mono ?_
                rintro e wy5 ⟨a5, k5, c5, rfl, hn5, b5⟩
                have hb5 : Below wy4.heap.size wy4 wy5 := ((Below.refl _ wy4).alloc (Nat.le_refl _) _).trans (b5.mono (by simp))
                have HL := Lib.hid (HL.out.below hb5)
                have HM := Lib.hid (HM.out.below hb5)
                have HN := Lib.hid (HN.out.below hb5)
                have HX4 := Lib.hid (HX4.out.below hb5)
                have HB5 := Lib.hid (bNext HB4.out hb5)
                rw [if_pos rfl] at hn5
                have HX5 := Lib.hid hn5.sl
                clear b5 hb5 hn5
                go_wp2_with fail
                refine (n_Add1 (HL.out.alloc _) (HM.out.alloc _) (Reads.madeAt rfl) (HLA.out.le (by omega)) (HLB.out.le (by omega))).mono ?_
                rintro e wy6 ⟨a6, k6, c6, rfl, hn6, b6⟩
                have hb6 : Below wy5.heap.size wy5 wy6 := ((Below.refl _ wy5).alloc (Nat.le_refl _) _).trans (b6.mono (by simp))
                have HL := Lib.hid (HL.out.below hb6)
                have HM := Lib.hid (HM.out.below hb6)
                have HN := Lib.hid (HN.out.below hb6)
                have HX4 := Lib.hid (HX4.out.below hb6)
                have HX5 := Lib.hid (HX5.out.below hb6)
                have HB6 := Lib.hid (bNext HB5.out hb6)
                rw [if_pos rfl] at hn6
                have HX6 := Lib.hid hn6.sl
                clear b6 hb6 hn6
                go_wp2_with fail
                refine (s_Same HX4.out HX5.out).mono ?_
                rintro e wz7 ⟨rfl, rfl⟩
                rw [decide_eq_true (HQ.out.1)]
                go_wp2_with fail
                refine (n_Mul HX6.out HN.out (HLA.out.add HLB.out) HLC.out (by omega)).mono ?_
                rintro e wy8 ⟨a8, k8, c8, rfl, hn8, b8⟩
                have hb8 : Below wy6.heap.size wy6 wy8 := b8
                have HL := Lib.hid (HL.out.below hb8)
                have HM := Lib.hid (HM.out.below hb8)
                have HN := Lib.hid (HN.out.below hb8)
                have HX4 := Lib.hid (HX4.out.below hb8)
                have HX5 := Lib.hid (HX5.out.below hb8)
                have HX6 := Lib.hid (HX6.out.below hb8)
                have HB8 := Lib.hid (bNext HB6.out hb8)
                rw [if_pos rfl] at hn8
                have HX8 := Lib.hid hn8.sl
                clear b8 hb8 hn8
                go_wp2_with fail
                refine (n_Mul HN.out HL.out HLC.out HLA.out (by omega)).mono ?_
                rintro e wy9 ⟨a9, k9, c9, rfl, hn9, b9⟩
                have hb9 : Below wy8.heap.size wy8 wy9 := b9
                have HL := Lib.hid (HL.out.below hb9)
                have HM := Lib.hid (HM.out.below hb9)
                have HN := Lib.hid (HN.out.below hb9)
                have HX4 := Lib.hid (HX4.out.below hb9)
                have HX5 := Lib.hid (HX5.out.below hb9)
                have HX6 := Lib.hid (HX6.out.below hb9)
                have HX8 := Lib.hid (HX8.out.below hb9)
                have HB9 := Lib.hid (bNext HB8.out hb9)
                rw [if_pos rfl] at hn9
                have HX9 := Lib.hid hn9.sl
                clear b9 hb9 hn9
                go_wp2_with fail
                refine (n_Mul HM.out HN.out HLB.out HLC.out (by omega)).mono ?_
                rintro e wy10 ⟨a10, k10, c10, rfl, hn10, b10⟩
                have hb10 : Below wy9.heap.size wy9 wy10 := b10
                have HL := Lib.hid (HL.out.below hb10)
                have HM := Lib.hid (HM.out.below hb10)
                have HN := Lib.hid (HN.out.below hb10)
                have HX4 := Lib.hid (HX4.out.below hb10)
                have HX5 := Lib.hid (HX5.out.below hb10)
                have HX6 := Lib.hid (HX6.out.below hb10)
                have HX8 := Lib.hid (HX8.out.below hb10)
                have HX9 := Lib.hid (HX9.out.below hb10)
                have HB10 := Lib.hid (bNext HB9.out hb10)
                rw [if_pos rfl] at hn10
                have HX10 := Lib.hid hn10.sl
                clear b10 hb10 hn10
                go_wp2_with fail
                refine (n_Add1 (HX9.out.alloc _) (HX10.out.alloc _) (Reads.madeAt rfl) ((HLC.out.mul HLA.out).le (by omega)) ((HLB.out.mul HLC.out).le (by omega))).mono ?_
                rintro e wy11 ⟨a11, k11, c11, rfl, hn11, b11⟩
                have hb11 : Below wy10.heap.size wy10 wy11 := ((Below.refl _ wy10).alloc (Nat.le_refl _) _).trans (b11.mono (by simp))
                have HL := Lib.hid (HL.out.below hb11)
                have HM := Lib.hid (HM.out.below hb11)
                have HN := Lib.hid (HN.out.below hb11)
                have HX4 := Lib.hid (HX4.out.below hb11)
                have HX5 := Lib.hid (HX5.out.below hb11)
                have HX6 := Lib.hid (HX6.out.below hb11)
                have HX8 := Lib.hid (HX8.out.below hb11)
                have HX9 := Lib.hid (HX9.out.below hb11)
                have HX10 := Lib.hid (HX10.out.below hb11)
                have HB11 := Lib.hid (bNext HB10.out hb11)
                rw [if_pos rfl] at hn11
                have HX11 := Lib.hid hn11.sl
                clear b11 hb11 hn11
                go_wp2_with fail
                refine (n_Sub HX6.out HM.out ((HLA.out.add HLB.out).le (by omega)) (Nat.le_add_left _ _)).mono ?_
                rintro e wy12 ⟨a12, k12, c12, rfl, hn12, b12⟩
                have hb12 : Below wy11.heap.size wy11 wy12 := b12
                have HL := Lib.hid (HL.out.below hb12)
                have HM := Lib.hid (HM.out.below hb12)
                have HN := Lib.hid (HN.out.below hb12)
                have HX4 := Lib.hid (HX4.out.below hb12)
                have HX5 := Lib.hid (HX5.out.below hb12)
                have HX6 := Lib.hid (HX6.out.below hb12)
                have HX8 := Lib.hid (HX8.out.below hb12)
                have HX9 := Lib.hid (HX9.out.below hb12)
                have HX10 := Lib.hid (HX10.out.below hb12)
                have HX11 := Lib.hid (HX11.out.below hb12)
                have HB12 := Lib.hid (bNext HB11.out hb12)
                rw [if_pos rfl] at hn12
                have HX12 := Lib.hid hn12.sl
                clear b12 hb12 hn12
                go_wp2_with fail
                refine (s_Same HX8.out HX11.out).mono ?_
                rintro e wz13 ⟨rfl, rfl⟩
                rw [decide_eq_true (HQ.out.2.1)]
                go_wp2_with fail
                refine (s_Same HX12.out HL.out).mono ?_
                rintro e wz14 ⟨rfl, rfl⟩
                rw [decide_eq_true (HQ.out.2.2.1)]
                go_wp2_with fail
                refine (n_Div HL.out HM.out (HLA.out.le (by omega)) (HLB.out.le (by omega))).mono ?_
                rw [HZ.out]
                rintro e wy15 ⟨a15, k15, c15, p15, j15, d15, rfl, hn15, ho15, b15⟩
                have hb15 : Below wy12.heap.size wy12 wy15 := b15
                have HL := Lib.hid (HL.out.below hb15)
                have HM := Lib.hid (HM.out.below hb15)
                have HN := Lib.hid (HN.out.below hb15)
                have HX4 := Lib.hid (HX4.out.below hb15)
                have HX5 := Lib.hid (HX5.out.below hb15)
                have HX6 := Lib.hid (HX6.out.below hb15)
                have HX8 := Lib.hid (HX8.out.below hb15)
                have HX9 := Lib.hid (HX9.out.below hb15)
                have HX10 := Lib.hid (HX10.out.below hb15)
                have HX11 := Lib.hid (HX11.out.below hb15)
                have HX12 := Lib.hid (HX12.out.below hb15)
                have HB15 := Lib.hid (bNext HB12.out hb15)
                clear b15 hb15 hn15 ho15
                go_wp2_with fail
                refine (c_known13 _).mono ?_
                rintro e wy16 ⟨rfl, b16⟩
                have hb16 : Below wy15.heap.size wy15 wy16 := b16
                have HL := Lib.hid (HL.out.below hb16)
                have HM := Lib.hid (HM.out.below hb16)
                have HN := Lib.hid (HN.out.below hb16)
                have HX4 := Lib.hid (HX4.out.below hb16)
                have HX5 := Lib.hid (HX5.out.below hb16)
                have HX6 := Lib.hid (HX6.out.below hb16)
                have HX8 := Lib.hid (HX8.out.below hb16)
                have HX9 := Lib.hid (HX9.out.below hb16)
                have HX10 := Lib.hid (HX10.out.below hb16)
                have HX11 := Lib.hid (HX11.out.below hb16)
                have HX12 := Lib.hid (HX12.out.below hb16)
                have HB16 := Lib.hid (bNext HB15.out hb16)
                clear b16 hb16 
                go_wp2
                go_ret
                exact ⟨rfl, HB16.out⟩
              · have hl1 : len1 ≠ 0 := by
                  intro h
                  exact hz (digs_nil.1 (List.eq_nil_of_length_eq_zero (by rw [← HM.out.len]; exact h)))
                have hz1 : ((len1 : Int) == 0) = false := by simp; omega
                have hz2 : (len1 == 0) = false := by simp; omega
                have HZ := Lib.hid (show (if B = 0 then (4 : Int) else 0) = 0 from if_neg hz)
                have HQ := Lib.hid (show digs (A + (B + C)) = digs (C + (A + B)) ∧ digs ((A + B) * C) = digs (C * A + B * C) ∧ digs (A + B - B) = digs A ∧ digs (A / B * B + A % B) = digs A ∧ cmpI (A % B) B = -1 from by
                  refine ⟨by rw [show A + (B + C) = C + (A + B) from by omega], by rw [Nat.add_mul, Nat.mul_comm A C], by rw [Nat.add_sub_cancel], by rw [Nat.mul_comm, Nat.div_add_mod], by unfold cmpI; rw [if_pos (Nat.mod_lt _ (by omega))]⟩)
                clear hz hl1
                go_enter Try.func7, Try.ntmps7
                have HB0 := Lib.hid (Below.refl w.heap.size w)
                go_wp2_with fail
                refine (HR0.out).mono ?_
                rintro e wz1 ⟨rfl, rfl⟩
                go_wp2_with fail
                refine (HR1.out).mono ?_
                rintro e wz2 ⟨rfl, rfl⟩
                go_wp2_with fail
                refine (HR2.out).mono ?_
                rintro e wz3 ⟨rfl, rfl⟩
                go_wp2_with fail
                refine (n_Add2 (HL.out.alloc _) (HM.out.alloc _) (HN.out.alloc _) (Reads.madeAt rfl) (HLA.out.le (by omega)) (HLB.out.le (by omega)) (HLC.out.le (by omega))).mono ?_
                rintro e wy4 ⟨a4, k4, c4, rfl, hn4, b4⟩
                have hb4 : Below w.heap.size w wy4 := ((Below.refl _ w).alloc (Nat.le_refl _) _).trans (b4.mono (by simp))
                have HL := Lib.hid (HL.out.below hb4)
                have HM := Lib.hid (HM.out.below hb4)
                have HN := Lib.hid (HN.out.below hb4)
                have HB4 := Lib.hid (bNext HB0.out hb4)
                rw [if_pos rfl] at hn4
                have HX4 := Lib.hid hn4.sl
                clear b4 hb4 hn4
                go_wp2_with fail
                refine (n_Add2 (HN.out.alloc _) (HL.out.alloc _) (HM.out.alloc _) (Reads.madeAt rfl) (HLC.out.le (by omega)) (HLA.out.le (by omega)) (HLB.out.le (by omega))).mono ?_
                rintro e wy5 ⟨a5, k5, c5, rfl, hn5, b5⟩
                have hb5 : Below wy4.heap.size wy4 wy5 := ((Below.refl _ wy4).alloc (Nat.le_refl _) _).trans (b5.mono (by simp))
                have HL := Lib.hid (HL.out.below hb5)
                have HM := Lib.hid (HM.out.below hb5)
                have HN := Lib.hid (HN.out.below hb5)
                have HX4 := Lib.hid (HX4.out.below hb5)
                have HB5 := Lib.hid (bNext HB4.out hb5)
                rw [if_pos rfl] at hn5
                have HX5 := Lib.hid hn5.sl
                clear b5 hb5 hn5
                go_wp2_with fail
                refine (n_Add1 (HL.out.alloc _) (HM.out.alloc _) (Reads.madeAt rfl) (HLA.out.le (by omega)) (HLB.out.le (by omega))).mono ?_
                rintro e wy6 ⟨a6, k6, c6, rfl, hn6, b6⟩
                have hb6 : Below wy5.heap.size wy5 wy6 := ((Below.refl _ wy5).alloc (Nat.le_refl _) _).trans (b6.mono (by simp))
                have HL := Lib.hid (HL.out.below hb6)
                have HM := Lib.hid (HM.out.below hb6)
                have HN := Lib.hid (HN.out.below hb6)
                have HX4 := Lib.hid (HX4.out.below hb6)
                have HX5 := Lib.hid (HX5.out.below hb6)
                have HB6 := Lib.hid (bNext HB5.out hb6)
                rw [if_pos rfl] at hn6
                have HX6 := Lib.hid hn6.sl
                clear b6 hb6 hn6
                go_wp2_with fail
                refine (s_Same HX4.out HX5.out).mono ?_
                rintro e wz7 ⟨rfl, rfl⟩
                rw [decide_eq_true (HQ.out.1)]
                go_wp2_with fail
                refine (n_Mul HX6.out HN.out (HLA.out.add HLB.out) HLC.out (by omega)).mono ?_
                rintro e wy8 ⟨a8, k8, c8, rfl, hn8, b8⟩
                have hb8 : Below wy6.heap.size wy6 wy8 := b8
                have HL := Lib.hid (HL.out.below hb8)
                have HM := Lib.hid (HM.out.below hb8)
                have HN := Lib.hid (HN.out.below hb8)
                have HX4 := Lib.hid (HX4.out.below hb8)
                have HX5 := Lib.hid (HX5.out.below hb8)
                have HX6 := Lib.hid (HX6.out.below hb8)
                have HB8 := Lib.hid (bNext HB6.out hb8)
                rw [if_pos rfl] at hn8
                have HX8 := Lib.hid hn8.sl
                clear b8 hb8 hn8
                go_wp2_with fail
                refine (n_Mul HN.out HL.out HLC.out HLA.out (by omega)).mono ?_
                rintro e wy9 ⟨a9, k9, c9, rfl, hn9, b9⟩
                have hb9 : Below wy8.heap.size wy8 wy9 := b9
                have HL := Lib.hid (HL.out.below hb9)
                have HM := Lib.hid (HM.out.below hb9)
                have HN := Lib.hid (HN.out.below hb9)
                have HX4 := Lib.hid (HX4.out.below hb9)
                have HX5 := Lib.hid (HX5.out.below hb9)
                have HX6 := Lib.hid (HX6.out.below hb9)
                have HX8 := Lib.hid (HX8.out.below hb9)
                have HB9 := Lib.hid (bNext HB8.out hb9)
                rw [if_pos rfl] at hn9
                have HX9 := Lib.hid hn9.sl
                clear b9 hb9 hn9
                go_wp2_with fail
                refine (n_Mul HM.out HN.out HLB.out HLC.out (by omega)).mono ?_
                rintro e wy10 ⟨a10, k10, c10, rfl, hn10, b10⟩
                have hb10 : Below wy9.heap.size wy9 wy10 := b10
                have HL := Lib.hid (HL.out.below hb10)
                have HM := Lib.hid (HM.out.below hb10)
                have HN := Lib.hid (HN.out.below hb10)
                have HX4 := Lib.hid (HX4.out.below hb10)
                have HX5 := Lib.hid (HX5.out.below hb10)
                have HX6 := Lib.hid (HX6.out.below hb10)
                have HX8 := Lib.hid (HX8.out.below hb10)
                have HX9 := Lib.hid (HX9.out.below hb10)
                have HB10 := Lib.hid (bNext HB9.out hb10)
                rw [if_pos rfl] at hn10
                have HX10 := Lib.hid hn10.sl
                clear b10 hb10 hn10
                go_wp2_with fail
                refine (n_Add1 (HX9.out.alloc _) (HX10.out.alloc _) (Reads.madeAt rfl) ((HLC.out.mul HLA.out).le (by omega)) ((HLB.out.mul HLC.out).le (by omega))).mono ?_
                rintro e wy11 ⟨a11, k11, c11, rfl, hn11, b11⟩
                have hb11 : Below wy10.heap.size wy10 wy11 := ((Below.refl _ wy10).alloc (Nat.le_refl _) _).trans (b11.mono (by simp))
                have HL := Lib.hid (HL.out.below hb11)
                have HM := Lib.hid (HM.out.below hb11)
                have HN := Lib.hid (HN.out.below hb11)
                have HX4 := Lib.hid (HX4.out.below hb11)
                have HX5 := Lib.hid (HX5.out.below hb11)
                have HX6 := Lib.hid (HX6.out.below hb11)
                have HX8 := Lib.hid (HX8.out.below hb11)
                have HX9 := Lib.hid (HX9.out.below hb11)
                have HX10 := Lib.hid (HX10.out.below hb11)
                have HB11 := Lib.hid (bNext HB10.out hb11)
                rw [if_pos rfl] at hn11
                have HX11 := Lib.hid hn11.sl
                clear b11 hb11 hn11
                go_wp2_with fail
                refine (n_Sub HX6.out HM.out ((HLA.out.add HLB.out).le (by omega)) (Nat.le_add_left _ _)).mono ?_
                rintro e wy12 ⟨a12, k12, c12, rfl, hn12, b12⟩
                have hb12 : Below wy11.heap.size wy11 wy12 := b12
                have HL := Lib.hid (HL.out.below hb12)
                have HM := Lib.hid (HM.out.below hb12)
                have HN := Lib.hid (HN.out.below hb12)
                have HX4 := Lib.hid (HX4.out.below hb12)
                have HX5 := Lib.hid (HX5.out.below hb12)
                have HX6 := Lib.hid (HX6.out.below hb12)
                have HX8 := Lib.hid (HX8.out.below hb12)
                have HX9 := Lib.hid (HX9.out.below hb12)
                have HX10 := Lib.hid (HX10.out.below hb12)
                have HX11 := Lib.hid (HX11.out.below hb12)
                have HB12 := Lib.hid (bNext HB11.out hb12)
                rw [if_pos rfl] at hn12
                have HX12 := Lib.hid hn12.sl
                clear b12 hb12 hn12
                go_wp2_with fail
                refine (s_Same HX8.out HX11.out).mono ?_
                rintro e wz13 ⟨rfl, rfl⟩
                rw [decide_eq_true (HQ.out.2.1)]
                go_wp2_with fail
                refine (s_Same HX12.out HL.out).mono ?_
                rintro e wz14 ⟨rfl, rfl⟩
                rw [decide_eq_true (HQ.out.2.2.1)]
                go_wp2_with fail
                refine (n_Div HL.out HM.out (HLA.out.le (by omega)) (HLB.out.le (by omega))).mono ?_
                rw [HZ.out]
                rintro e wy15 ⟨a15, k15, c15, p15, j15, d15, rfl, hn15, ho15, b15⟩
                have hb15 : Below wy12.heap.size wy12 wy15 := b15
                have HL := Lib.hid (HL.out.below hb15)
                have HM := Lib.hid (HM.out.below hb15)
                have HN := Lib.hid (HN.out.below hb15)
                have HX4 := Lib.hid (HX4.out.below hb15)
                have HX5 := Lib.hid (HX5.out.below hb15)
                have HX6 := Lib.hid (HX6.out.below hb15)
                have HX8 := Lib.hid (HX8.out.below hb15)
                have HX9 := Lib.hid (HX9.out.below hb15)
                have HX10 := Lib.hid (HX10.out.below hb15)
                have HX11 := Lib.hid (HX11.out.below hb15)
                have HX12 := Lib.hid (HX12.out.below hb15)
                have HB15 := Lib.hid (bNext HB12.out hb15)
                rw [if_pos rfl] at hn15 ho15
                have HX15 := Lib.hid hn15.sl
                have HY15 := Lib.hid ho15.sl
                clear b15 hb15 hn15 ho15
                go_wp2_with fail
                refine (n_Mul HX15.out HM.out (HLA.out.mono (Nat.div_le_self _ _)) HLB.out (by omega)).mono ?_
                rintro e wy16 ⟨a16, k16, c16, rfl, hn16, b16⟩
                have hb16 : Below wy15.heap.size wy15 wy16 := b16
                have HL := Lib.hid (HL.out.below hb16)
                have HM := Lib.hid (HM.out.below hb16)
                have HN := Lib.hid (HN.out.below hb16)
                have HX4 := Lib.hid (HX4.out.below hb16)
                have HX5 := Lib.hid (HX5.out.below hb16)
                have HX6 := Lib.hid (HX6.out.below hb16)
                have HX8 := Lib.hid (HX8.out.below hb16)
                have HX9 := Lib.hid (HX9.out.below hb16)
                have HX10 := Lib.hid (HX10.out.below hb16)
                have HX11 := Lib.hid (HX11.out.below hb16)
                have HX12 := Lib.hid (HX12.out.below hb16)
                have HX15 := Lib.hid (HX15.out.below hb16)
                have HY15 := Lib.hid (HY15.out.below hb16)
                have HB16 := Lib.hid (bNext HB15.out hb16)
                rw [if_pos rfl] at hn16
                have HX16 := Lib.hid hn16.sl
                clear b16 hb16 hn16
                go_wp2_with fail
                refine (n_Add1 (HX16.out.alloc _) (HY15.out.alloc _) (Reads.madeAt rfl) ((HLA.out.mono (Nat.div_mul_le_self _ _)).le (by omega)) ((HLA.out.mono (Nat.mod_le _ _)).le (by omega))).mono ?_
                rintro e wy17 ⟨a17, k17, c17, rfl, hn17, b17⟩
                have hb17 : Below wy16.heap.size wy16 wy17 := ((Below.refl _ wy16).alloc (Nat.le_refl _) _).trans (b17.mono (by simp))
                have HL := Lib.hid (HL.out.below hb17)
                have HM := Lib.hid (HM.out.below hb17)
                have HN := Lib.hid (HN.out.below hb17)
                have HX4 := Lib.hid (HX4.out.below hb17)
                have HX5 := Lib.hid (HX5.out.below hb17)
                have HX6 := Lib.hid (HX6.out.below hb17)
                have HX8 := Lib.hid (HX8.out.below hb17)
                have HX9 := Lib.hid (HX9.out.below hb17)
                have HX10 := Lib.hid (HX10.out.below hb17)
                have HX11 := Lib.hid (HX11.out.below hb17)
                have HX12 := Lib.hid (HX12.out.below hb17)
                have HX15 := Lib.hid (HX15.out.below hb17)
                have HY15 := Lib.hid (HY15.out.below hb17)
                have HX16 := Lib.hid (HX16.out.below hb17)
                have HB17 := Lib.hid (bNext HB16.out hb17)
                rw [if_pos rfl] at hn17
                have HX17 := Lib.hid hn17.sl
                clear b17 hb17 hn17
                go_wp2_with fail
                refine (s_Same HX17.out HL.out).mono ?_
                rintro e wz18 ⟨rfl, rfl⟩
                rw [decide_eq_true (HQ.out.2.2.2.1)]
                go_wp2_with fail
                refine (n_Cmp HY15.out HM.out ((HLA.out.mono (Nat.mod_le _ _)).le (by omega)) (HLB.out.le (by omega))).mono ?_
                rw [HQ.out.2.2.2.2]
                rintro e wy19 ⟨rfl, b19⟩
                have hb19 : Below wy17.heap.size wy17 wy19 := b19
                have HL := Lib.hid (HL.out.below hb19)
                have HM := Lib.hid (HM.out.below hb19)
                have HN := Lib.hid (HN.out.below hb19)
                have HX4 := Lib.hid (HX4.out.below hb19)
                have HX5 := Lib.hid (HX5.out.below hb19)
                have HX6 := Lib.hid (HX6.out.below hb19)
                have HX8 := Lib.hid (HX8.out.below hb19)
                have HX9 := Lib.hid (HX9.out.below hb19)
                have HX10 := Lib.hid (HX10.out.below hb19)
                have HX11 := Lib.hid (HX11.out.below hb19)
                have HX12 := Lib.hid (HX12.out.below hb19)
                have HX15 := Lib.hid (HX15.out.below hb19)
                have HY15 := Lib.hid (HY15.out.below hb19)
                have HX16 := Lib.hid (HX16.out.below hb19)
                have HX17 := Lib.hid (HX17.out.below hb19)
                have HB19 := Lib.hid (bNext HB17.out hb19)
                clear b19 hb19 
                go_wp2_with fail
                refine (c_known13 _).mono ?_
                rintro e wy20 ⟨rfl, b20⟩
                have hb20 : Below wy19.heap.size wy19 wy20 := b20
                have HL := Lib.hid (HL.out.below hb20)
                have HM := Lib.hid (HM.out.below hb20)
                have HN := Lib.hid (HN.out.below hb20)
                have HX4 := Lib.hid (HX4.out.below hb20)
                have HX5 := Lib.hid (HX5.out.below hb20)
                have HX6 := Lib.hid (HX6.out.below hb20)
                have HX8 := Lib.hid (HX8.out.below hb20)
                have HX9 := Lib.hid (HX9.out.below hb20)
                have HX10 := Lib.hid (HX10.out.below hb20)
                have HX11 := Lib.hid (HX11.out.below hb20)
                have HX12 := Lib.hid (HX12.out.below hb20)
                have HX15 := Lib.hid (HX15.out.below hb20)
                have HY15 := Lib.hid (HY15.out.below hb20)
                have HX16 := Lib.hid (HX16.out.below hb20)
                have HX17 := Lib.hid (HX17.out.below hb20)
                have HB20 := Lib.hid (bNext HB19.out hb20)
                clear b20 hb20 
                go_wp2
                go_ret
                exact ⟨rfl, HB20.out⟩

end Go.Proofs.Ytdafncaehjipbaa
