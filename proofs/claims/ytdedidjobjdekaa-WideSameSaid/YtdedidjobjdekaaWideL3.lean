/-
  The law WideRefs.
-/
import Derived.Test.YtdedidjobjdekaaWideL2
namespace Go.Proofs.Ytdedidjobjdekaa
open Go.RowKit Go.ChangeShapes Go.WideShapes Go.ChangeAt
set_option linter.unusedVariables false
set_option maxHeartbeats 2000000

theorem law_WideRefs (o : ObjD) (w : World) (h : o.ok w) : Calls Try.prog 10 #[o.val] w fun e w' => e = .returned (.bool true) ∧ Below w.heap.size w w' := by
  have hval : o.val = .agg #[.int .i64 o.cls, .int .i64 o.kind, .slice o.wa o.wn o.wc, .slice o.ba o.bn o.bc] := rfl
  have HL := Lib.hid (fun w => c_Long o w)
  rw [hval] at HL ⊢
  have HB0 := Lib.hid (show Below w.heap.size w (w.alloc (.cells #[.int .i64 o.cls, .int .i64 o.kind, .slice o.wa o.wn o.wc, .slice o.ba o.bn o.bc] 25)) from (Below.refl _ _).alloc (Nat.le_refl _) _)
  have HROW := Lib.hid (Row.made w [.int .i64 o.cls, .int .i64 o.kind, .slice o.wa o.wn o.wc, .slice o.ba o.bn o.bc] 25)
  have HH := Lib.hid h
  have HV := Lib.hid hval
  clear h hval
  by_cases hl : o.wn > 1200 ∨ o.bn > 1200
  · rw [decide_eq_true hl] at HL
    clear hl
    go_enter Try.func10, Try.ntmps10
    go_wp2_with fail
    refine (HL.out _).mono ?_
    rintro e w1 ⟨rfl, b1⟩
    have HB1 := Lib.hid (bNext HB0.out b1)
    clear b1
    go_wp2_with fail
    refine (c_Known _).mono ?_
    rintro e w2 ⟨rfl, b2⟩
    have HB2 := Lib.hid (bNext HB1.out b2)
    clear b2
    go_wp2
    go_ret
    exact ⟨rfl, HB2.out⟩
  · rw [decide_eq_false hl] at HL
    have HLN := Lib.hid hl
    clear hl
    go_enter Try.func10, Try.ntmps10
    go_wp2_with fail
    refine (HL.out _).mono ?_
    rintro e w1 ⟨rfl, b1⟩
    have HB1 := Lib.hid (bNext HB0.out b1)
    have R1 : Row w1 w.heap.size 25 [.int .i64 o.cls, .int .i64 o.kind, .slice o.wa o.wn o.wc, .slice o.ba o.bn o.bc] := (b1.block _ HROW.out.lt).trans HROW.out
    have HR1 := Lib.hid R1
    clear b1 R1
    obtain ⟨p, hp⟩ : ∃ p, p = w.heap.size := ⟨_, rfl⟩
    rw [← hp] at HR1 ⊢
    have HP := Lib.hid hp
    clear hp
    have i0 := HR1.out.cell (i := 0) rfl
    have i1 := HR1.out.cell (i := 1) rfl
    have i2 := HR1.out.cell (i := 2) rfl
    have i3 := HR1.out.cell (i := 3) rfl
    have HCR := Lib.hid (c_WRefs o w1 (HH.out.below HB1.out) (by have := HLN.out; omega))
    rw [HV.out] at HCR
    go_wp2_with fail
    refine HCR.out.mono ?_
    clear HCR
    rintro e w2 ⟨v2, rfl, own2, b2⟩
    obtain ⟨a2, c2, rfl, hr2, hc2, hv2⟩ := owns_reads own2
    have HB2 := Lib.hid (bNext HB1.out b2)
    have HR2 : Hid (Row w2 p 25 [.int .i64 o.cls, .int .i64 o.kind, .slice o.wa o.wn o.wc, .slice o.ba o.bn o.bc]) := (b2.block _ HR1.out.lt).trans HR1.out
    have HRD := Lib.hid hr2
    have hle : (refsOf (o.cls :: o.W)).length ≤ 1000000000 := by
      have h1 := refsOf_len (o.cls :: o.W)
      have h2 := HLN.out
      have h3 := HH.out.wl
      simp only [List.length_cons] at h1
      omega
    have HLE := Lib.hid hle
    obtain ⟨n, hn⟩ : ∃ n, n = (refsOf (o.cls :: o.W)).length := ⟨_, rfl⟩
    rw [← hn]
    have HNE := Lib.hid hn
    have HC := Lib.hid (fun w3 (b : Below w2.heap.size w2 w3) => c_Check o w3 (HH.out.below (bNext HB2.out b)) (by have := HLN.out; omega))
    have HC2 := Lib.hid (fun w3 (b : Below w2.heap.size w2 w3) => r_Refs o w3 (HH.out.below (bNext HB2.out b)) (by have := HLN.out; omega))
    rw [HV.out] at HC HC2
    clear own2 hr2 hc2 hv2 b2 hle hn i0 i1 i2 i3 HR1
    by_cases hok : okObj o.cls o.kind o.W o.B
    · have hE : chkE o = 0 := by unfold chkE; rw [if_pos hok]
      rw [hE] at HC
      have hnm := namIs_range hok.1
      have hev : o.cls % 2 = 0 := by
        by_cases h : o.cls % 2 = 0 ∧ 2 ≤ o.cls ∧ o.cls ≤ 2147483646
        · exact h.1
        · have := namIs_no h; rw [hok.1] at this; cases this
      have hrs : refsOf (o.cls :: o.W) = o.cls / 2 :: refsOf o.W := by
        have hv : namV o.cls = o.cls / 2 := namV_yes (by omega)
        simp [refsOf, hok.1, hv]
      have hn1 : 1 ≤ n := by rw [HNE.out, hrs]; simp
      obtain ⟨b0, o0, rfl, _, hc0⟩ := HRD.out.at (by rw [hrs]; simp)
      have kc0 := hc0 0 (.int .i64 (o.cls / 2)) (by rw [hrs]; rfl)
      simp only [Nat.add_zero] at kc0
      obtain ⟨r0, hr0⟩ : ∃ r, r = o.cls / 2 := ⟨_, rfl⟩
      rw [← hr0] at kc0
      have q1 : ((n : Int) > 0) = True := eq_true (by omega)
      have q2 : ((0 : Int) < n) = True := eq_true (by omega)
      have q6 : (0 < n) = True := eq_true (by omega)
      have q7 : decide (0 < n) = true := decide_eq_true (by omega)
      have q3 : 2 * r0 = o.cls := by omega
      have q4 : (2 * r0 == o.cls) = true := by simpa using q3
      have q5 : -9223372036854775808 ≤ 2 * r0 ∧ 2 * r0 ≤ 9223372036854775807 := by omega
      clear hE hev hrs hr0 hc0 hnm hok q3 hn1
      go_wp2
      refine wp_region_planH (fun z => Row z p 25 [.int .i64 o.cls, .int .i64 o.kind, .slice o.wa o.wn o.wc, .slice o.ba o.bn o.bc] ∧ z.cell? ⟨b0, o0, none⟩ = some (.int .i64 r0)) [(0, true), (1, true), (2, false), (3, false), (4, true), (5, true), (6, false), (7, true), (8, true), (9, true), (10, true), (11, true), (12, true), (13, true), (14, true), (15, true), (16, true), (17, true), (18, true), (19, true), (20, true), (21, true), (22, true), (23, true), (24, false), (25, true), (26, true)] (by kernel_rfl) (by kernel_rfl) (fun _ _ _ _ _ h => h) ⟨HR2.out, kc0⟩ ?_
      have HB3 : Hid (Below w2.heap.size w2 w2.drew) := bDrew (Below.refl _ w2)
      have HR3 : Hid (Row w2.drew p 25 [.int .i64 o.cls, .int .i64 o.kind, .slice o.wa o.wn o.wc, .slice o.ba o.bn o.bc]) := HR2.out
      have HX3 : Hid (w2.drew.cell? ⟨b0, o0, none⟩ = some (.int .i64 r0)) := kc0
      generalize w2.drew = w3 at *
      (repeat (refine wpPlanH_free rfl (fun K hK => ?_); go_simp; (try go_bits); refine hK _ ?_; clear hK K))
      refine wpPlanH_load (.agg #[.int .i64 o.cls, .int .i64 o.kind, .slice o.wa o.wn o.wc, .slice o.ba o.bn o.bc]) rfl rfl (fun z hS => by have s0 := hS.1.cell (i := 0) rfl; have s1 := hS.1.cell (i := 1) rfl; have s2 := hS.1.cell (i := 2) rfl; have s3 := hS.1.cell (i := 3) rfl; go_simp) (fun K hK => ?_)
      refine hK _ ?_
      clear hK K
      (repeat (refine wpPlanH_free rfl (fun K hK => ?_); go_simp; (try go_bits); refine hK _ ?_; clear hK K))
      refine wpPlanH_sole rfl ?_
      go_wp2_with fail
      refine (HC2.out w3 HB3.out).mono ?_
      rintro e w4 ⟨v4, rfl, own4, b4⟩
      obtain ⟨a4, c4, rfl, hr4, -, -⟩ := owns_reads own4
      have HB4 := Lib.hid (bNext HB3.out b4)
      have HR4 : Hid (Row w4 p 25 [.int .i64 o.cls, .int .i64 o.kind, .slice o.wa o.wn o.wc, .slice o.ba o.bn o.bc]) := (b4.block _ HR3.out.lt).trans HR3.out
      have HX4 : Hid (w4.cell? ⟨b0, o0, none⟩ = some (.int .i64 r0)) := cellKeep b4 HX3.out
      have HS := Lib.hid (c_SameIntsYesW (some ⟨b0, o0, none⟩) a4 (refsOf (o.cls :: o.W)).length c2 c4 (refsOf (o.cls :: o.W)) w4 rfl (HRD.out.below HB4.out) hr4 HLE.out)
      rw [← HNE.out] at HS ⊢
      clear own4 hr4 b4 HR3 HB3 HX3
      go_wp2
      refine ⟨⟨HR4.out, HX4.out⟩, ?_⟩
      (repeat (refine wpPlanH_free rfl (fun K hK => ?_); go_simp; (try go_bits); refine hK _ ?_; clear hK K))
      refine wpPlanH_sole rfl ?_
      go_wp2_with fail
      refine HS.out.mono ?_
      rintro e w5 ⟨rfl, b5⟩
      have HB5 := Lib.hid (bNext HB4.out b5)
      have HR5 : Hid (Row w5 p 25 [.int .i64 o.cls, .int .i64 o.kind, .slice o.wa o.wn o.wc, .slice o.ba o.bn o.bc]) := (b5.block _ HR4.out.lt).trans HR4.out
      have HX5 : Hid (w5.cell? ⟨b0, o0, none⟩ = some (.int .i64 r0)) := cellKeep b5 HX4.out
      clear b5 HR4 HB4 HX4 HS
      go_wp2
      refine ⟨⟨HR5.out, HX5.out⟩, ?_⟩
      (repeat (refine wpPlanH_free rfl (fun K hK => ?_); go_simp; (try go_bits); refine hK _ ?_; clear hK K))
      refine wpPlanH_load (.agg #[.int .i64 o.cls, .int .i64 o.kind, .slice o.wa o.wn o.wc, .slice o.ba o.bn o.bc]) rfl rfl (fun z hS => by have s0 := hS.1.cell (i := 0) rfl; have s1 := hS.1.cell (i := 1) rfl; have s2 := hS.1.cell (i := 2) rfl; have s3 := hS.1.cell (i := 3) rfl; go_simp) (fun K hK => ?_)
      refine hK _ ?_
      clear hK K
      (repeat (refine wpPlanH_free rfl (fun K hK => ?_); go_simp; (try go_bits); refine hK _ ?_; clear hK K))
      refine wpPlanH_sole rfl ?_
      go_wp2_with fail
      refine (HC.out w5 HB5.out).mono ?_
      rintro e w6 ⟨rfl, b6⟩
      have HB6 := Lib.hid (bNext HB5.out b6)
      have HR6 : Hid (Row w6 p 25 [.int .i64 o.cls, .int .i64 o.kind, .slice o.wa o.wn o.wc, .slice o.ba o.bn o.bc]) := (b6.block _ HR5.out.lt).trans HR5.out
      have HX6 : Hid (w6.cell? ⟨b0, o0, none⟩ = some (.int .i64 r0)) := cellKeep b6 HX5.out
      clear b6 HR5 HB5 HX5
      go_wp2
      refine ⟨⟨HR6.out, HX6.out⟩, ?_⟩
      (repeat (refine wpPlanH_free rfl (fun K hK => ?_); go_simp; (try go_bits); refine hK _ ?_; clear hK K))
      refine wpPlanH_load (.int .i64 r0) rfl rfl (fun z hS => by have s1 := hS.2; go_simp) (fun K hK => ?_)
      refine hK _ ?_
      clear hK K
      (repeat (refine wpPlanH_free rfl (fun K hK => ?_); go_simp; (try go_bits); refine hK _ ?_; clear hK K))
      refine wpPlanH_load (.int .i64 o.cls) rfl rfl (fun z hS => by have s1 := hS.1.cell (i := 0) rfl; go_simp) (fun K hK => ?_)
      refine hK _ ?_
      clear hK K
      (repeat (refine wpPlanH_free rfl (fun K hK => ?_); go_simp; (try go_bits); refine hK _ ?_; clear hK K))
      refine wpPlanH_sole rfl ?_
      go_wp2_with fail
      refine (c_Known w6).mono ?_
      rintro e w7 ⟨rfl, b7⟩
      have HB7 := Lib.hid (bNext HB6.out b7)
      have HR7 : Hid (Row w7 p 25 [.int .i64 o.cls, .int .i64 o.kind, .slice o.wa o.wn o.wc, .slice o.ba o.bn o.bc]) := (b7.block _ HR6.out.lt).trans HR6.out
      have HX7 : Hid (w7.cell? ⟨b0, o0, none⟩ = some (.int .i64 r0)) := cellKeep b7 HX6.out
      clear b7 HR6 HB6 HX6
      go_wp2
      refine ⟨⟨HR7.out, HX7.out⟩, ?_⟩
      (repeat (refine wpPlanH_free rfl (fun K hK => ?_); go_simp; (try go_bits); refine hK _ ?_; clear hK K))
      refine wpPlanH_nil ?_
      go_wp2
      go_ret
      exact ⟨rfl, bNext HB2.out HB7.out⟩
    · have hE : chkE o = 2 := by unfold chkE; rw [if_neg hok]
      rw [hE] at HC
      clear hE hok
      go_wp2
      refine wp_region_planH (fun z => Row z p 25 [.int .i64 o.cls, .int .i64 o.kind, .slice o.wa o.wn o.wc, .slice o.ba o.bn o.bc] ∧ True) [(0, true), (1, true), (2, false), (3, false), (4, true), (5, true), (6, false), (7, true), (8, true), (9, true), (10, true), (11, true), (12, true), (13, true), (14, true), (15, true), (16, true), (17, true), (18, true), (19, true), (20, true), (21, true), (22, true), (23, true), (24, false), (25, true), (26, true)] (by kernel_rfl) (by kernel_rfl) (fun _ _ _ _ _ h => h) ⟨HR2.out, trivial⟩ ?_
      have HB3 : Hid (Below w2.heap.size w2 w2.drew) := bDrew (Below.refl _ w2)
      have HR3 : Hid (Row w2.drew p 25 [.int .i64 o.cls, .int .i64 o.kind, .slice o.wa o.wn o.wc, .slice o.ba o.bn o.bc]) := HR2.out
      have HX3 : Hid (True) := trivial
      generalize w2.drew = w3 at *
      (repeat (refine wpPlanH_free rfl (fun K hK => ?_); go_simp; (try go_bits); refine hK _ ?_; clear hK K))
      refine wpPlanH_load (.agg #[.int .i64 o.cls, .int .i64 o.kind, .slice o.wa o.wn o.wc, .slice o.ba o.bn o.bc]) rfl rfl (fun z hS => by have s0 := hS.1.cell (i := 0) rfl; have s1 := hS.1.cell (i := 1) rfl; have s2 := hS.1.cell (i := 2) rfl; have s3 := hS.1.cell (i := 3) rfl; go_simp) (fun K hK => ?_)
      refine hK _ ?_
      clear hK K
      (repeat (refine wpPlanH_free rfl (fun K hK => ?_); go_simp; (try go_bits); refine hK _ ?_; clear hK K))
      refine wpPlanH_sole rfl ?_
      go_wp2_with fail
      refine (HC2.out w3 HB3.out).mono ?_
      rintro e w4 ⟨v4, rfl, own4, b4⟩
      obtain ⟨a4, c4, rfl, hr4, -, -⟩ := owns_reads own4
      have HB4 := Lib.hid (bNext HB3.out b4)
      have HR4 : Hid (Row w4 p 25 [.int .i64 o.cls, .int .i64 o.kind, .slice o.wa o.wn o.wc, .slice o.ba o.bn o.bc]) := (b4.block _ HR3.out.lt).trans HR3.out
      have HX4 : Hid (True) := trivial
      have HS := Lib.hid (c_SameIntsYesW a2 a4 (refsOf (o.cls :: o.W)).length c2 c4 (refsOf (o.cls :: o.W)) w4 rfl (HRD.out.below HB4.out) hr4 HLE.out)
      rw [← HNE.out] at HS ⊢
      clear own4 hr4 b4 HR3 HB3 HX3
      go_wp2
      refine ⟨⟨HR4.out, HX4.out⟩, ?_⟩
      (repeat (refine wpPlanH_free rfl (fun K hK => ?_); go_simp; (try go_bits); refine hK _ ?_; clear hK K))
      refine wpPlanH_sole rfl ?_
      go_wp2_with fail
      refine HS.out.mono ?_
      rintro e w5 ⟨rfl, b5⟩
      have HB5 := Lib.hid (bNext HB4.out b5)
      have HR5 : Hid (Row w5 p 25 [.int .i64 o.cls, .int .i64 o.kind, .slice o.wa o.wn o.wc, .slice o.ba o.bn o.bc]) := (b5.block _ HR4.out.lt).trans HR4.out
      have HX5 : Hid (True) := trivial
      clear b5 HR4 HB4 HX4 HS
      go_wp2
      refine ⟨⟨HR5.out, HX5.out⟩, ?_⟩
      (repeat (refine wpPlanH_free rfl (fun K hK => ?_); go_simp; (try go_bits); refine hK _ ?_; clear hK K))
      refine wpPlanH_load (.agg #[.int .i64 o.cls, .int .i64 o.kind, .slice o.wa o.wn o.wc, .slice o.ba o.bn o.bc]) rfl rfl (fun z hS => by have s0 := hS.1.cell (i := 0) rfl; have s1 := hS.1.cell (i := 1) rfl; have s2 := hS.1.cell (i := 2) rfl; have s3 := hS.1.cell (i := 3) rfl; go_simp) (fun K hK => ?_)
      refine hK _ ?_
      clear hK K
      (repeat (refine wpPlanH_free rfl (fun K hK => ?_); go_simp; (try go_bits); refine hK _ ?_; clear hK K))
      refine wpPlanH_sole rfl ?_
      go_wp2_with fail
      refine (HC.out w5 HB5.out).mono ?_
      rintro e w6 ⟨rfl, b6⟩
      have HB6 := Lib.hid (bNext HB5.out b6)
      have HR6 : Hid (Row w6 p 25 [.int .i64 o.cls, .int .i64 o.kind, .slice o.wa o.wn o.wc, .slice o.ba o.bn o.bc]) := (b6.block _ HR5.out.lt).trans HR5.out
      have HX6 : Hid (True) := trivial
      clear b6 HR5 HB5 HX5
      go_wp2
      refine ⟨⟨HR6.out, HX6.out⟩, ?_⟩
      (repeat (refine wpPlanH_free rfl (fun K hK => ?_); go_simp; (try go_bits); refine hK _ ?_; clear hK K))
      refine wpPlanH_sole rfl ?_
      go_wp2_with fail
      refine (c_Known w6).mono ?_
      rintro e w7 ⟨rfl, b7⟩
      have HB7 := Lib.hid (bNext HB6.out b7)
      have HR7 : Hid (Row w7 p 25 [.int .i64 o.cls, .int .i64 o.kind, .slice o.wa o.wn o.wc, .slice o.ba o.bn o.bc]) := (b7.block _ HR6.out.lt).trans HR6.out
      have HX7 : Hid (True) := trivial
      clear b7 HR6 HB6 HX6
      go_wp2
      refine ⟨⟨HR7.out, HX7.out⟩, ?_⟩
      (repeat (refine wpPlanH_free rfl (fun K hK => ?_); go_simp; (try go_bits); refine hK _ ?_; clear hK K))
      refine wpPlanH_nil ?_
      go_wp2
      go_ret
      exact ⟨rfl, bNext HB2.out HB7.out⟩

end Go.Proofs.Ytdedidjobjdekaa
