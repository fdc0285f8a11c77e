/-
  The laws WideEncode; the document's Decode.
-/
import Derived.Test.YtdedidjobjdekaaWideR4
namespace Go.Proofs.Ytdedidjobjdekaa
open Go.RowKit Go.ChangeShapes Go.WideShapes Go.ChangeAt
set_option linter.unusedVariables false
set_option maxHeartbeats 400000

theorem encO_byt {o : ObjD} (h : Byt o.B) : Byt (encO o) := by
  unfold encO
  split
  · exact encB_byt h
  · exact Byt.nil

theorem law_WideEncode (o : ObjD) (w : World) (h : o.ok w) : Calls Try.prog 5 #[o.val] w fun e w' => e = .returned (.bool true) ∧ Below w.heap.size w w' := by
  have hval : o.val = .agg #[.int .i64 o.cls, .int .i64 o.kind, .slice o.wa o.wn o.wc, .slice o.ba o.bn o.bc] := rfl
  have HL := Lib.hid (fun w => c_Long o w)
  rw [hval] at HL ⊢
  have HB0 := Lib.hid (show Below w.heap.size w (w.alloc (.cells #[.int .i64 o.cls, .int .i64 o.kind, .slice o.wa o.wn o.wc, .slice o.ba o.bn o.bc] 25)) from (Below.refl _ _).alloc (Nat.le_refl _) _)
  have HROW := Lib.hid (Row.made w [.int .i64 o.cls, .int .i64 o.kind, .slice o.wa o.wn o.wc, .slice o.ba o.bn o.bc] 25)
  have HH := Lib.hid h
  have HV := Lib.hid hval
  clear h hval
  by_cases hl : o.wn > 1200 ∨ o.bn > 1200
  · rw [decide_eq_true hl] at HL
    clear hl
    go_enter Try.func5, Try.ntmps5
    go_wp2_with fail
    refine (HL.out _).mono ?_
    rintro e w1 ⟨rfl, b1⟩
    have HB1 := Lib.hid (bNext HB0.out b1)
    clear b1
    go_wp2_with fail
    refine (c_Known _).mono ?_
    rintro e w2 ⟨rfl, b2⟩
    have HB2 := Lib.hid (bNext HB1.out b2)
    clear b2
    go_wp2
    go_ret
    exact ⟨rfl, HB2.out⟩
  · rw [decide_eq_false hl] at HL
    have HLN := Lib.hid hl
    clear hl
    go_enter Try.func5, Try.ntmps5
    go_wp2_with fail
    refine (HL.out _).mono ?_
    rintro e w1 ⟨rfl, b1⟩
    have HB1 := Lib.hid (bNext HB0.out b1)
    have R1 : Row w1 w.heap.size 25 [.int .i64 o.cls, .int .i64 o.kind, .slice o.wa o.wn o.wc, .slice o.ba o.bn o.bc] := (b1.block _ HROW.out.lt).trans HROW.out
    have HR1 := Lib.hid R1
    clear b1 R1
    have HC := Lib.hid (c_Encode o w1 (HH.out.below HB1.out) (by have := HLN.out; omega))
    rw [HV.out] at HC
    have i0 := HR1.out.cell (i := 0) rfl
    have i1 := HR1.out.cell (i := 1) rfl
    have i2 := HR1.out.cell (i := 2) rfl
    have i3 := HR1.out.cell (i := 3) rfl
    go_wp2_with fail
    refine HC.out.mono ?_
    clear HC
    rintro e w2 ⟨v2, rfl, own2, b2⟩
    obtain ⟨a2, c2, rfl, hr2, hc2, hv2⟩ := owns_reads own2
    have HB2 := Lib.hid (bNext HB1.out b2)
    have HRD := Lib.hid hr2
    have R2 : Row w2 w.heap.size 25 [.int .i64 o.cls, .int .i64 o.kind, .slice o.wa o.wn o.wc, .slice o.ba o.bn o.bc] := (b2.block _ HR1.out.lt).trans HR1.out
    have HR2 := Lib.hid R2
    have HC2 := Lib.hid (r_Encode o w2 (HH.out.below HB2.out) (by have := HLN.out; omega) (by have := HLN.out; omega))
    rw [HV.out] at HC2
    clear own2 hr2 hv2 hc2 b2 R2 i0 i1 i2 i3
    have i0 := HR2.out.cell (i := 0) rfl
    have i1 := HR2.out.cell (i := 1) rfl
    have i2 := HR2.out.cell (i := 2) rfl
    have i3 := HR2.out.cell (i := 3) rfl
    go_wp2_with fail
    refine HC2.out.mono ?_
    clear HC2
    rintro e w3 ⟨v3, rfl, own3, b3⟩
    obtain ⟨a3, c3, rfl, hr3, hc3, hv3⟩ := owns_reads own3
    have HB3 := Lib.hid (bNext HB2.out b3)
    have HS := Lib.hid (c_Same a2 a3 (encO o).length (encO o).length c2 c3 (encO o) (encO o) w3 rfl rfl (HRD.out.below b3) hr3 (encO_byt HH.out.bb) (encO_byt HH.out.bb))
    rw [decide_eq_true rfl] at HS
    clear own3 hr3 hv3 hc3 b3 i0 i1 i2 i3 HR2 HRD
    generalize (encO o).length = n at *
    generalize chkE o = E at *
    go_wp2_with fail
    refine HS.out.mono ?_
    clear HS
    rintro e w4 ⟨rfl, rfl⟩
    go_wp2_with fail
    refine (c_Known _).mono ?_
    rintro e w5 ⟨rfl, b5⟩
    have HB5 := Lib.hid (bNext HB3.out b5)
    clear b5
    go_wp2
    go_ret
    exact ⟨rfl, HB5.out⟩

end Go.Proofs.Ytdedidjobjdekaa
