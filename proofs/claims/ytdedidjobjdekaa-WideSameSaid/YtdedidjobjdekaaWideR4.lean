/-
  Objects that came in as arguments; the laws WideCheck, WideEncode, WideRefs.
-/
import Derived.Test.YtdedidjobjdekaaWideR3
import Derived.Lib.SmallJoins
namespace Go.Proofs.Ytdedidjobjdekaa
open Go.RowKit Go.ChangeShapes Go.WideShapes Go.ChangeAt
set_option linter.unusedVariables false
set_option maxHeartbeats 400000

theorem open_obj {H : Type} {enc : TypeId × Value → H} {w : World} {base : Nat} {spare : Nat → Bool} {held : Bool} {r : Reach} {b0 : Nat} {v : Value} {d : DataW H} {p : List MemPlace}
    (hv : Value.okWide Try.prog w r b0 25 v) (h : DataW.Trod enc Try.prog w base spare held 25 v d p) : ∃ o : ObjD, v = o.val ∧ o.ok w := by
  obtain ⟨v0, v1, v2, v3, y0, y1, y2, y3, n, rfl, -, -, t0, t1, t2, t3⟩ := Go.Joins.open_agg4 Try.underlying25 (by kernel_rfl) (by kernel_rfl) hv h
  obtain ⟨cls, rfl, wc⟩ := cell_int Try.underlying3 t0
  obtain ⟨kind, rfl, wk⟩ := cell_int Try.underlying3 t1
  obtain ⟨a, an, ac, W, rfl, h1, h2, h3, h4, h5⟩ := cell_ints Try.underlying22 Try.underlying3 (by kernel_rfl) t2
  obtain ⟨b, bn, bc, B, rfl, g1, g2, g3, g4, g5⟩ := cell_ints Try.underlying23 Try.underlying5 (by kernel_rfl) t3
  unfold maxLen at h3 g3
  exact ⟨⟨cls, kind, a, an, ac, W, b, bn, bc, B⟩, rfl, ⟨bounds_i64 wc, bounds_i64 wk, h1, ⟨h2, h3⟩, h4, fun x hx => bounds_i64 (h5 x hx), g1, ⟨g2, g3⟩, g4, fun x hx => bounds_u8 (g5 x hx)⟩⟩

theorem law_WideCheck (o : ObjD) (w : World) (h : o.ok w) : Calls Try.prog 4 #[o.val] w fun e w' => e = .returned (.bool true) ∧ Below w.heap.size w w' := by
  have hval : o.val = .agg #[.int .i64 o.cls, .int .i64 o.kind, .slice o.wa o.wn o.wc, .slice o.ba o.bn o.bc] := rfl
  have HL := Lib.hid (fun w => c_Long o w)
  rw [hval] at HL ⊢
  have HB0 := Lib.hid (show Below w.heap.size w (w.alloc (.cells #[.int .i64 o.cls, .int .i64 o.kind, .slice o.wa o.wn o.wc, .slice o.ba o.bn o.bc] 25)) from (Below.refl _ _).alloc (Nat.le_refl _) _)
  have HROW := Lib.hid (Row.made w [.int .i64 o.cls, .int .i64 o.kind, .slice o.wa o.wn o.wc, .slice o.ba o.bn o.bc] 25)
  have HH := Lib.hid h
  have HV := Lib.hid hval
  clear h hval
  by_cases hl : o.wn > 1200 ∨ o.bn > 1200
  · rw [decide_eq_true hl] at HL
    clear hl
    go_enter Try.func4, Try.ntmps4
    go_wp2_with fail
    refine (HL.out _).mono ?_
    rintro e w1 ⟨rfl, b1⟩
    have HB1 := Lib.hid (bNext HB0.out b1)
    clear b1
    go_wp2_with fail
    refine (c_Known _).mono ?_
    rintro e w2 ⟨rfl, b2⟩
    have HB2 := Lib.hid (bNext HB1.out b2)
    clear b2
    go_wp2
    go_ret
    exact ⟨rfl, HB2.out⟩
  · rw [decide_eq_false hl] at HL
    have HLN := Lib.hid hl
    clear hl
    go_enter Try.func4, Try.ntmps4
    go_wp2_with fail
    refine (HL.out _).mono ?_
    rintro e w1 ⟨rfl, b1⟩
    have HB1 := Lib.hid (bNext HB0.out b1)
    have R1 : Row w1 w.heap.size 25 [.int .i64 o.cls, .int .i64 o.kind, .slice o.wa o.wn o.wc, .slice o.ba o.bn o.bc] := (b1.block _ HROW.out.lt).trans HROW.out
    have HR1 := Lib.hid R1
    clear b1 R1
    have HC := Lib.hid (fun w2 (b : Below w1.heap.size w1 w2) => c_Check o w2 (HH.out.below (bNext HB1.out b)) (by have := HLN.out; omega))
    have HC2 := Lib.hid (fun w2 (b : Below w1.heap.size w1 w2) => r_Check o w2 (HH.out.below (bNext HB1.out b)) (by have := HLN.out; omega) (by have := HLN.out; omega))
    rw [HV.out] at HC HC2
    obtain ⟨p, hp⟩ : ∃ p, p = w.heap.size := ⟨_, rfl⟩
    rw [← hp] at HR1 ⊢
    have HP := Lib.hid hp
    clear hp
    go_wp2
    refine wp_region_planH (fun z => Row z p 25 [.int .i64 o.cls, .int .i64 o.kind, .slice o.wa o.wn o.wc, .slice o.ba o.bn o.bc]) [(0, true), (2, true), (1, false), (3, false), (4, true), (5, true), (6, false), (7, true), (8, true)] (by kernel_rfl) (by kernel_rfl) (fun _ _ _ _ _ h => h) HR1.out ?_
    refine wpPlanH_load (.agg #[.int .i64 o.cls, .int .i64 o.kind, .slice o.wa o.wn o.wc, .slice o.ba o.bn o.bc]) rfl rfl (fun z hS => by have s0 := hS.cell (i := 0) rfl; have s1 := hS.cell (i := 1) rfl; have s2 := hS.cell (i := 2) rfl; have s3 := hS.cell (i := 3) rfl; go_simp) (fun K hK => ?_)
    refine hK _ ?_
    clear hK K
    refine wpPlanH_load (.agg #[.int .i64 o.cls, .int .i64 o.kind, .slice o.wa o.wn o.wc, .slice o.ba o.bn o.bc]) rfl rfl (fun z hS => by have s0 := hS.cell (i := 0) rfl; have s1 := hS.cell (i := 1) rfl; have s2 := hS.cell (i := 2) rfl; have s3 := hS.cell (i := 3) rfl; go_simp) (fun K hK => ?_)
    refine hK _ ?_
    clear hK K
    have HB2 : Hid (Below w1.heap.size w1 w1.drew) := bDrew (Below.refl _ w1)
    have HR2 : Hid (Row w1.drew p 25 [.int .i64 o.cls, .int .i64 o.kind, .slice o.wa o.wn o.wc, .slice o.ba o.bn o.bc]) := HR1.out
    generalize w1.drew = w2 at *
    (repeat (refine wpPlanH_free rfl (fun K hK => ?_); go_simp; (try go_bits); refine hK _ ?_; clear hK K))
    refine wpPlanH_sole rfl ?_
    go_wp2_with fail
    refine (HC.out w2 HB2.out).mono ?_
    rintro e w3 ⟨rfl, b3⟩
    have HB3 := Lib.hid (bNext HB2.out b3)
    have HR3 : Hid (Row w3 p 25 [.int .i64 o.cls, .int .i64 o.kind, .slice o.wa o.wn o.wc, .slice o.ba o.bn o.bc]) := (b3.block _ HR2.out.lt).trans HR2.out
    clear b3 HR2 HB2
    go_wp2
    refine ⟨HR3.out, ?_⟩
    (repeat (refine wpPlanH_free rfl (fun K hK => ?_); go_simp; (try go_bits); refine hK _ ?_; clear hK K))
    refine wpPlanH_sole rfl ?_
    go_wp2_with fail
    refine (HC2.out w3 HB3.out).mono ?_
    rintro e w4 ⟨rfl, b4⟩
    have HB4 := Lib.hid (bNext HB3.out b4)
    have HR4 : Hid (Row w4 p 25 [.int .i64 o.cls, .int .i64 o.kind, .slice o.wa o.wn o.wc, .slice o.ba o.bn o.bc]) := (b4.block _ HR3.out.lt).trans HR3.out
    clear b4 HR3 HB3
    generalize chkE o = E at *
    go_wp2
    refine ⟨HR4.out, ?_⟩
    (repeat (refine wpPlanH_free rfl (fun K hK => ?_); go_simp; (try go_bits); refine hK _ ?_; clear hK K))
    refine wpPlanH_sole rfl ?_
    go_wp2_with fail
    refine (c_Known w4).mono ?_
    rintro e w5 ⟨rfl, b5⟩
    have HB5 := Lib.hid (bNext HB4.out b5)
    have HR5 : Hid (Row w5 p 25 [.int .i64 o.cls, .int .i64 o.kind, .slice o.wa o.wn o.wc, .slice o.ba o.bn o.bc]) := (b5.block _ HR4.out.lt).trans HR4.out
    clear b5 HR4 HB4
    go_wp2
    refine ⟨HR5.out, ?_⟩
    (repeat (refine wpPlanH_free rfl (fun K hK => ?_); go_simp; (try go_bits); refine hK _ ?_; clear hK K))
    refine wpPlanH_nil ?_
    go_wp2
    go_ret
    exact ⟨rfl, bNext HB1.out HB5.out⟩

end Go.Proofs.Ytdedidjobjdekaa
