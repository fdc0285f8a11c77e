/-
  Contracts of slices.Clone at whatever address, of Spoil, and of wide.Copy. (Written by w7gen.py.)
-/
import Derived.Test.YtdedidjobjdekaaWideL6
import Derived.Test.YtdedidjobjdekaaPlanT
namespace Go.Proofs.Ytdedidjobjdekaa
open Go.RowKit Go.ChangeShapes Go.WideShapes Go.ChangeAt
set_option linter.unusedVariables false
set_option maxHeartbeats 1000000

theorem results_cell1 {fn : Func} {p : Tmp} {ty : TypeId} (h : fn.results = #[.cell p ty]) (tmps : Array Value) (P : Program) (w : World) :
    (results fn tmps).run P w =
      ((asAddr (tmps.getD p undef)).run P w).andThen fun a w₁ => (loadVar ty a).run P w₁ := by
  simp only [results, h]
  simp [Sem.run_bind, Result.andThen]

theorem c_CloneA (a : Option Addr) (n c : Nat) (l : List Int) (w : World) (e0 : n = l.length) (h : Reads w a c (l.map (Value.int .u8))) (hm : n ≤ 1000000000) :
    Calls Try.prog 33 #[.slice a n c] w (MadeBytes w l) := by
  cases a with
  | some x => exact c_Clone x n c l w e0 h hm
  | none =>
    rcases h with ⟨_, rfl, hx⟩ | ⟨x, hx, _⟩
    · have hl : l = [] := by simpa using hx
      subst hl
      subst e0
      have hn := fun w => Lib.run_eql_slice_nil (P := Try.prog) w 23 5 none 0 0 0 0 Try.underlying23
      go_enter Try.func33, Try.ntmps33
      go_wp2
      go_ret
      exact ⟨.slice none 0 0, rfl, World.ownsRow_nil _ _ _ _, Below.refl _ _⟩
    · cases hx

theorem c_CloneIA (a : Option Addr) (n c : Nat) (l : List Int) (w : World) (e0 : n = l.length) (h : Reads w a c (l.map (Value.int .i64))) (hm : n ≤ 1000000000) :
    Calls Try.prog 45 #[.slice a n c] w (MadeIntsW w l) := by
  cases a with
  | some x => exact c_CloneI x n c l w e0 h hm
  | none =>
    rcases h with ⟨_, rfl, hx⟩ | ⟨x, hx, _⟩
    · have hl : l = [] := by simpa using hx
      subst hl
      subst e0
      have hn := fun w => Lib.run_eql_slice_nil (P := Try.prog) w 22 3 none 0 0 0 0 Try.underlying22
      go_enter Try.func45, Try.ntmps45
      go_wp2
      go_ret
      exact ⟨.slice none 0 0, rfl, World.ownsRow_nil _ _ _ _, Below.refl _ _⟩
    · cases hx

def CopyPost (o : ObjD) (w : World) (e : Ending) (w' : World) : Prop :=
  ∃ c : ObjD, e = .returned c.val ∧ c.ok w' ∧ c.cls = o.cls ∧ c.kind = o.kind ∧ c.W = o.W ∧ c.B = o.B ∧ w'.ownsRow w.heap.size 3 1 (.slice c.wa c.wn c.wc) c.wn (c.W.map (Value.int .i64)) ∧ w'.ownsRow w.heap.size 5 1 (.slice c.ba c.bn c.bc) c.bn (c.B.map (Value.int .u8)) ∧ (∀ x y, c.wa = some x → c.ba = some y → x.block ≠ y.block) ∧ Below w.heap.size w w'

theorem c_WCopy (o : ObjD) (w : World) (h : o.ok w) (m1 : o.wn ≤ 1000000) (m2 : o.bn ≤ 1000000000) : Calls Try.prog 25 #[o.val] w (CopyPost o w) := by
  have hval : o.val = .agg #[.int .i64 o.cls, .int .i64 o.kind, .slice o.wa o.wn o.wc, .slice o.ba o.bn o.bc] := rfl
  rw [hval]
  have HH := Lib.hid h
  obtain ⟨w2, hw2⟩ : ∃ z, z = ((w.alloc (.cells #[.int .i64 o.cls, .int .i64 o.kind, .slice o.wa o.wn o.wc, .slice o.ba o.bn o.bc] 25)).alloc (.cells #[.int .i64 0, .int .i64 0, .slice none 0 0, .slice none 0 0] 25)) := ⟨_, rfl⟩
  have hbel : Below w.heap.size w w2 := by rw [hw2]; exact bAlloc ((Below.refl _ w).alloc (Nat.le_refl _) _)
  have hsz : w2.heap.size = w.heap.size + 2 := by rw [hw2]; simp
  have r0 : Row w2 w.heap.size 25 [.int .i64 o.cls, .int .i64 o.kind, .slice o.wa o.wn o.wc, .slice o.ba o.bn o.bc] := by
    rw [hw2]
    exact (Row.made w [.int .i64 o.cls, .int .i64 o.kind, .slice o.wa o.wn o.wc, .slice o.ba o.bn o.bc] 25).alloc _
  have r1 : Row w2 (w.heap.size + 1) 25 [.int .i64 0, .int .i64 0, .slice none 0 0, .slice none 0 0] := by
    rw [hw2]
    have := Row.made (w.alloc (.cells #[.int .i64 o.cls, .int .i64 o.kind, .slice o.wa o.wn o.wc, .slice o.ba o.bn o.bc] 25)) [.int .i64 0, .int .i64 0, .slice none 0 0, .slice none 0 0] 25
    simpa using this
  obtain ⟨q0, hq0⟩ : ∃ z, z = w.heap.size := ⟨_, rfl⟩
  obtain ⟨q1, hq1⟩ : ∃ z, z = w.heap.size + 1 := ⟨_, rfl⟩
  rw [← hq1] at r1
  rw [← hq0] at r0
  have HB3 := Lib.hid (bDrew hbel)
  have HRA3 := Lib.hid (show Row w2.drew q0 25 [.int .i64 o.cls, .int .i64 o.kind, .slice o.wa o.wn o.wc, .slice o.ba o.bn o.bc] from r0)
  have HRZ3 := Lib.hid (show Row w2.drew q1 25 [.int .i64 0, .int .i64 0, .slice none 0 0, .slice none 0 0] from r1)
  have HQ := Lib.hid (And.intro hq0 (And.intro hq1 hsz))
  have HSZ3 := Lib.hid (show w2.heap.size ≤ w2.drew.heap.size from Nat.le_refl _)
  have HQ2 := Lib.hid (And.intro hq0 hq1)
  have HW2 := Lib.hid hw2
  clear hval h hbel hsz r0 r1 hw2 hq0 hq1
  go_enter Try.func25, Try.ntmps25
  go_wp2
  rw [← HW2.out, ← HQ2.out.2, ← HQ2.out.1]
  refine wp_region_tree (.free 0 (.free 3 (.two 1 4 (.two 2 4 (.sole 4 (.free 6 (.sole 5 (.sole 7 (.free 8 (.sole 9 .fin)))))) (.sole 2 (.free 6 (.sole 5 (.sole 7 (.free 8 (.sole 9 .fin))))))) (.sole 1 (.sole 2 (.free 6 (.sole 5 (.sole 7 (.free 8 (.sole 9 .fin)))))))))) (by kernel_rfl) (by kernel_rfl) (fun _ _ _ _ _ h => h) ?_
  generalize w2.drew = w3 at *
  have HCI := Lib.hid (c_CloneIA o.wa o.wn o.wc o.W w3 HH.out.wl (HH.out.wr.below HB3.out) (by omega))
  have j2 := HRA3.out.cell (i := 2) rfl
  have j3 := HRA3.out.cell (i := 3) rfl
  (repeat (refine wpTree_free rfl (fun K hK => ?_); go_simp; (try go_bits); refine hK _ ?_; clear hK K))
  refine wpTree_two rfl rfl ?_ ?_
  · go_wp2
    refine wpTree_two rfl rfl ?_ ?_
    · go_wp2_with fail
      refine HCI.out.mono ?_
      rintro e w5 ⟨v5, rfl, own5, b5⟩
      obtain ⟨aw, cw, rfl, -, hcw, hvw⟩ := owns_reads own5
      have hcm := owns_cap own5
      rw [← HH.out.wl] at own5 hcw ⊢
      have HVW := Lib.hid (And.intro hcw (And.intro hcm hvw))
      have HO5 := Lib.hid own5
      have HB5 := Lib.hid (bNext HB3.out b5)
      have HRA := Lib.hid (show Row w5 q0 25 [.int .i64 o.cls, .int .i64 o.kind, .slice o.wa o.wn o.wc, .slice o.ba o.bn o.bc] from (b5.block q0 HRA3.out.lt).trans HRA3.out)
      have HRZ := Lib.hid (show Row w5 q1 25 [.int .i64 0, .int .i64 0, .slice none 0 0, .slice none 0 0] from (b5.block q1 HRZ3.out.lt).trans HRZ3.out)
      have HSZ5 := Lib.hid (And.intro HSZ3.out b5.size)
      clear own5 hcw hvw hcm b5
      have i3 := HRA.out.cell (i := 3) rfl
      clear j2 j3
      go_wp2
      refine wpTree_sole rfl ?_
      go_wp2
      have HCB := Lib.hid (c_CloneA o.ba o.bn o.bc o.B w5 HH.out.bl (HH.out.br.below HB5.out) m2)
      (repeat (refine wpTree_free rfl (fun K hK => ?_); go_simp; (try go_bits); refine hK _ ?_; clear hK K))
      refine wpTree_sole rfl ?_
      go_wp2_with fail
      refine HCB.out.mono ?_
      clear HCB
      rintro e w6 ⟨v6, rfl, own6, b6⟩
      obtain ⟨ab, cb, rfl, hrb, hcb, hvb⟩ := owns_reads own6
      have hcm := owns_cap own6
      rw [← HH.out.bl] at own6 hcb ⊢
      have HO6 := Lib.hid own6
      have HVB := Lib.hid (And.intro hcb (And.intro hcm (And.intro hrb hvb)))
      have HRA6 := Lib.hid (show Row w6 q0 25 [.int .i64 o.cls, .int .i64 o.kind, .slice o.wa o.wn o.wc, .slice o.ba o.bn o.bc] from (b6.block q0 HRA.out.lt).trans HRA.out)
      have HRZ6 := Lib.hid (show Row w6 q1 25 [.int .i64 0, .int .i64 0, .slice none 0 0, .slice none 0 0] from (b6.block q1 HRZ.out.lt).trans HRZ.out)
      have HO56 := Lib.hid (ownsSame HO5.out (fun k hk => b6.block k (HO5.out.lt k hk).2))
      have HB6 := Lib.hid (bNext HB5.out b6)
      have HSZ := Lib.hid (And.intro HSZ5.out b6.size)
      clear own6 hrb hcb hvb hcm b6
      go_wp2
      refine wpTree_sole rfl ?_
      have f2 := HRA6.out.free 2
      have f3 := HRA6.out.free 3
      have j2 := HRA6.out.cell (i := 2) rfl
      have j3 := HRA6.out.cell (i := 3) rfl
      go_wp2
      (repeat (refine wpTree_free rfl (fun K hK => ?_); go_simp; (try go_bits); refine hK _ ?_; clear hK K))
      refine wpTree_sole rfl ?_
      have hR7 : Row (w6.setCell ⟨q0, 2, none⟩ (.slice aw o.wn cw)) q0 25 [.int .i64 o.cls, .int .i64 o.kind, .slice aw o.wn cw, .slice o.ba o.bn o.bc] := HRA6.out.set 2 _
      have f3' := hR7.free 3
      have j3' := hR7.cell (i := 3) rfl
      clear f2 f3 j2 j3
      go_wp2
      refine wpTree_fin ?_
      obtain ⟨w8, hw8⟩ : ∃ z, z = ((w6.setCell ⟨q0, 2, none⟩ (.slice aw o.wn cw)).setCell ⟨q0, 3, none⟩ (.slice ab o.bn cb)) := ⟨_, rfl⟩
      have R8 : Row w8 q0 25 [.int .i64 o.cls, .int .i64 o.kind, .slice aw o.wn cw, .slice ab o.bn cb] := by rw [hw8]; exact (HRA6.out.set 2 _).set 3 _
      have U8 : Upd [q0] w6 w8 := by rw [hw8]; exact ((Upd.refl [q0] w6).setCell (by simp) _).setCell (by simp) _
      have RZ8 : Row w8 q1 25 [.int .i64 0, .int .i64 0, .slice none 0 0, .slice none 0 0] := HRZ6.out.keep U8 (by simp; have := HQ.out; omega)
      have HU8 := Lib.hid U8
      have k0 := R8.cell (i := 0) rfl
      have k1 := R8.cell (i := 1) rfl
      have k2 := R8.cell (i := 2) rfl
      have k3 := R8.cell (i := 3) rfl
      have y0 := RZ8.cell (i := 0) rfl
      have y1 := RZ8.cell (i := 1) rfl
      have y2 := RZ8.cell (i := 2) rfl
      have y3 := RZ8.cell (i := 3) rfl
      have g0 := RZ8.free 0
      have g1 := RZ8.free 1
      have g2 := RZ8.free 2
      have g3 := RZ8.free 3
      have HRZ8 := Lib.hid RZ8
      rw [← hw8]
      clear hR7 f3' j3' hw8 R8 U8 RZ8
      go_wp2
      obtain ⟨w9, hw9⟩ : ∃ z, z = (((w8.setCell ⟨q1, 0, none⟩ (.int .i64 o.cls)).setCell ⟨q1, 1, none⟩ (.int .i64 o.kind)).setCell ⟨q1, 2, none⟩ (.slice aw o.wn cw)).setCell ⟨q1, 3, none⟩ (.slice ab o.bn cb) := ⟨_, rfl⟩
      have R9 : Row w9 q1 25 [.int .i64 o.cls, .int .i64 o.kind, .slice aw o.wn cw, .slice ab o.bn cb] := by rw [hw9]; exact (((HRZ8.out.set 0 _).set 1 _).set 2 _).set 3 _
      have U9 : Upd [q1] w8 w9 := by rw [hw9]; exact ((((Upd.refl [q1] w8).setCell (by simp) _).setCell (by simp) _).setCell (by simp) _).setCell (by simp) _
      have HU9 := Lib.hid U9
      rw [← hw9]
      clear hw9 U9
      have z0 := R9.cell (i := 0) rfl
      have z1 := R9.cell (i := 1) rfl
      have z2 := R9.cell (i := 2) rfl
      have z3 := R9.cell (i := 3) rfl
      (try simp only [Exit.inBlock, Exit.then])
      refine bodyPost_ret (by rw [results_cell1 rfl]; go_simp; rfl) rfl ?_
      have hq := HQ.out
      have hsz := HSZ.out
      have hvb := HVB.out
      have hvw := HVW.out
      have U := (HU8.out.mono (m := [q0, q1]) (by simp)).trans (HU9.out.mono (m := [q0, q1]) (by simp))
      have oW := U.owns HO56.out (fun k hk => by have := (HO56.out.lt k hk).1; simp; omega)
      have oB := U.owns HO6.out (fun k hk => by have := (HO6.out.lt k hk).1; simp; omega)
      obtain ⟨_, _, he1, rW, _, _⟩ := owns_reads oW
      cases he1
      obtain ⟨_, _, he2, rB, _, _⟩ := owns_reads oB
      cases he2
      have hoW := owns_mono (base' := w.heap.size) oW (by omega)
      have hoB := owns_mono (base' := w.heap.size) oB (by omega)
      exact ⟨⟨o.cls, o.kind, aw, o.wn, cw, o.W, ab, o.bn, cb, o.B⟩, rfl, ⟨HH.out.c0, HH.out.k0, HH.out.wl, ⟨hvw.1, hvw.2.1⟩, rW, HH.out.wi, HH.out.bl, ⟨hvb.1, hvb.2.1⟩, rB, HH.out.bb⟩, rfl, rfl, rfl, rfl, hoW, hoB, fun x y hx hy => by
        have h1 := (hvw.2.2 x hx).2
        have h2 := (hvb.2.2.2 y hy).1
        omega, HB6.out.trans (U.below HB6.out.size (fun k hk => by simp at hk; omega))⟩
    · go_wp2
      refine wpTree_sole rfl ?_
      go_wp2_with fail
      refine HCI.out.mono ?_
      rintro e w5 ⟨v5, rfl, own5, b5⟩
      obtain ⟨aw, cw, rfl, -, hcw, hvw⟩ := owns_reads own5
      have hcm := owns_cap own5
      rw [← HH.out.wl] at own5 hcw ⊢
      have HVW := Lib.hid (And.intro hcw (And.intro hcm hvw))
      have HO5 := Lib.hid own5
      have HB5 := Lib.hid (bNext HB3.out b5)
      have HRA := Lib.hid (show Row w5 q0 25 [.int .i64 o.cls, .int .i64 o.kind, .slice o.wa o.wn o.wc, .slice o.ba o.bn o.bc] from (b5.block q0 HRA3.out.lt).trans HRA3.out)
      have HRZ := Lib.hid (show Row w5 q1 25 [.int .i64 0, .int .i64 0, .slice none 0 0, .slice none 0 0] from (b5.block q1 HRZ3.out.lt).trans HRZ3.out)
      have HSZ5 := Lib.hid (And.intro HSZ3.out b5.size)
      clear own5 hcw hvw hcm b5
      clear j2 j3
      go_wp2
      have HCB := Lib.hid (c_CloneA o.ba o.bn o.bc o.B w5 HH.out.bl (HH.out.br.below HB5.out) m2)
      (repeat (refine wpTree_free rfl (fun K hK => ?_); go_simp; (try go_bits); refine hK _ ?_; clear hK K))
      refine wpTree_sole rfl ?_
      go_wp2_with fail
      refine HCB.out.mono ?_
      clear HCB
      rintro e w6 ⟨v6, rfl, own6, b6⟩
      obtain ⟨ab, cb, rfl, hrb, hcb, hvb⟩ := owns_reads own6
      have hcm := owns_cap own6
      rw [← HH.out.bl] at own6 hcb ⊢
      have HO6 := Lib.hid own6
      have HVB := Lib.hid (And.intro hcb (And.intro hcm (And.intro hrb hvb)))
      have HRA6 := Lib.hid (show Row w6 q0 25 [.int .i64 o.cls, .int .i64 o.kind, .slice o.wa o.wn o.wc, .slice o.ba o.bn o.bc] from (b6.block q0 HRA.out.lt).trans HRA.out)
      have HRZ6 := Lib.hid (show Row w6 q1 25 [.int .i64 0, .int .i64 0, .slice none 0 0, .slice none 0 0] from (b6.block q1 HRZ.out.lt).trans HRZ.out)
      have HO56 := Lib.hid (ownsSame HO5.out (fun k hk => b6.block k (HO5.out.lt k hk).2))
      have HB6 := Lib.hid (bNext HB5.out b6)
      have HSZ := Lib.hid (And.intro HSZ5.out b6.size)
      clear own6 hrb hcb hvb hcm b6
      go_wp2
      refine wpTree_sole rfl ?_
      have f2 := HRA6.out.free 2
      have f3 := HRA6.out.free 3
      have j2 := HRA6.out.cell (i := 2) rfl
      have j3 := HRA6.out.cell (i := 3) rfl
      go_wp2
      (repeat (refine wpTree_free rfl (fun K hK => ?_); go_simp; (try go_bits); refine hK _ ?_; clear hK K))
      refine wpTree_sole rfl ?_
      have hR7 : Row (w6.setCell ⟨q0, 2, none⟩ (.slice aw o.wn cw)) q0 25 [.int .i64 o.cls, .int .i64 o.kind, .slice aw o.wn cw, .slice o.ba o.bn o.bc] := HRA6.out.set 2 _
      have f3' := hR7.free 3
      have j3' := hR7.cell (i := 3) rfl
      clear f2 f3 j2 j3
      go_wp2
      refine wpTree_fin ?_
      obtain ⟨w8, hw8⟩ : ∃ z, z = ((w6.setCell ⟨q0, 2, none⟩ (.slice aw o.wn cw)).setCell ⟨q0, 3, none⟩ (.slice ab o.bn cb)) := ⟨_, rfl⟩
      have R8 : Row w8 q0 25 [.int .i64 o.cls, .int .i64 o.kind, .slice aw o.wn cw, .slice ab o.bn cb] := by rw [hw8]; exact (HRA6.out.set 2 _).set 3 _
      have U8 : Upd [q0] w6 w8 := by rw [hw8]; exact ((Upd.refl [q0] w6).setCell (by simp) _).setCell (by simp) _
      have RZ8 : Row w8 q1 25 [.int .i64 0, .int .i64 0, .slice none 0 0, .slice none 0 0] := HRZ6.out.keep U8 (by simp; have := HQ.out; omega)
      have HU8 := Lib.hid U8
      have k0 := R8.cell (i := 0) rfl
      have k1 := R8.cell (i := 1) rfl
      have k2 := R8.cell (i := 2) rfl
      have k3 := R8.cell (i := 3) rfl
      have y0 := RZ8.cell (i := 0) rfl
      have y1 := RZ8.cell (i := 1) rfl
      have y2 := RZ8.cell (i := 2) rfl
      have y3 := RZ8.cell (i := 3) rfl
      have g0 := RZ8.free 0
      have g1 := RZ8.free 1
      have g2 := RZ8.free 2
      have g3 := RZ8.free 3
      have HRZ8 := Lib.hid RZ8
      rw [← hw8]
      clear hR7 f3' j3' hw8 R8 U8 RZ8
      go_wp2
      obtain ⟨w9, hw9⟩ : ∃ z, z = (((w8.setCell ⟨q1, 0, none⟩ (.int .i64 o.cls)).setCell ⟨q1, 1, none⟩ (.int .i64 o.kind)).setCell ⟨q1, 2, none⟩ (.slice aw o.wn cw)).setCell ⟨q1, 3, none⟩ (.slice ab o.bn cb) := ⟨_, rfl⟩
      have R9 : Row w9 q1 25 [.int .i64 o.cls, .int .i64 o.kind, .slice aw o.wn cw, .slice ab o.bn cb] := by rw [hw9]; exact (((HRZ8.out.set 0 _).set 1 _).set 2 _).set 3 _
      have U9 : Upd [q1] w8 w9 := by rw [hw9]; exact ((((Upd.refl [q1] w8).setCell (by simp) _).setCell (by simp) _).setCell (by simp) _).setCell (by simp) _
      have HU9 := Lib.hid U9
      rw [← hw9]
      clear hw9 U9
      have z0 := R9.cell (i := 0) rfl
      have z1 := R9.cell (i := 1) rfl
      have z2 := R9.cell (i := 2) rfl
      have z3 := R9.cell (i := 3) rfl
      (try simp only [Exit.inBlock, Exit.then])
      refine bodyPost_ret (by rw [results_cell1 rfl]; go_simp; rfl) rfl ?_
      have hq := HQ.out
      have hsz := HSZ.out
      have hvb := HVB.out
      have hvw := HVW.out
      have U := (HU8.out.mono (m := [q0, q1]) (by simp)).trans (HU9.out.mono (m := [q0, q1]) (by simp))
      have oW := U.owns HO56.out (fun k hk => by have := (HO56.out.lt k hk).1; simp; omega)
      have oB := U.owns HO6.out (fun k hk => by have := (HO6.out.lt k hk).1; simp; omega)
      obtain ⟨_, _, he1, rW, _, _⟩ := owns_reads oW
      cases he1
      obtain ⟨_, _, he2, rB, _, _⟩ := owns_reads oB
      cases he2
      have hoW := owns_mono (base' := w.heap.size) oW (by omega)
      have hoB := owns_mono (base' := w.heap.size) oB (by omega)
      exact ⟨⟨o.cls, o.kind, aw, o.wn, cw, o.W, ab, o.bn, cb, o.B⟩, rfl, ⟨HH.out.c0, HH.out.k0, HH.out.wl, ⟨hvw.1, hvw.2.1⟩, rW, HH.out.wi, HH.out.bl, ⟨hvb.1, hvb.2.1⟩, rB, HH.out.bb⟩, rfl, rfl, rfl, rfl, hoW, hoB, fun x y hx hy => by
        have h1 := (hvw.2.2 x hx).2
        have h2 := (hvb.2.2.2 y hy).1
        omega, HB6.out.trans (U.below HB6.out.size (fun k hk => by simp at hk; omega))⟩
  · go_wp2
    refine wpTree_sole rfl ?_
    go_wp2
    refine wpTree_sole rfl ?_
    go_wp2_with fail
    refine HCI.out.mono ?_
    rintro e w5 ⟨v5, rfl, own5, b5⟩
    obtain ⟨aw, cw, rfl, -, hcw, hvw⟩ := owns_reads own5
    have hcm := owns_cap own5
    rw [← HH.out.wl] at own5 hcw ⊢
    have HVW := Lib.hid (And.intro hcw (And.intro hcm hvw))
    have HO5 := Lib.hid own5
    have HB5 := Lib.hid (bNext HB3.out b5)
    have HRA := Lib.hid (show Row w5 q0 25 [.int .i64 o.cls, .int .i64 o.kind, .slice o.wa o.wn o.wc, .slice o.ba o.bn o.bc] from (b5.block q0 HRA3.out.lt).trans HRA3.out)
    have HRZ := Lib.hid (show Row w5 q1 25 [.int .i64 0, .int .i64 0, .slice none 0 0, .slice none 0 0] from (b5.block q1 HRZ3.out.lt).trans HRZ3.out)
    have HSZ5 := Lib.hid (And.intro HSZ3.out b5.size)
    clear own5 hcw hvw hcm b5
    clear j2 j3
    go_wp2
    have HCB := Lib.hid (c_CloneA o.ba o.bn o.bc o.B w5 HH.out.bl (HH.out.br.below HB5.out) m2)
    (repeat (refine wpTree_free rfl (fun K hK => ?_); go_simp; (try go_bits); refine hK _ ?_; clear hK K))
    refine wpTree_sole rfl ?_
    go_wp2_with fail
    refine HCB.out.mono ?_
    clear HCB
    rintro e w6 ⟨v6, rfl, own6, b6⟩
    obtain ⟨ab, cb, rfl, hrb, hcb, hvb⟩ := owns_reads own6
    have hcm := owns_cap own6
    rw [← HH.out.bl] at own6 hcb ⊢
    have HO6 := Lib.hid own6
    have HVB := Lib.hid (And.intro hcb (And.intro hcm (And.intro hrb hvb)))
    have HRA6 := Lib.hid (show Row w6 q0 25 [.int .i64 o.cls, .int .i64 o.kind, .slice o.wa o.wn o.wc, .slice o.ba o.bn o.bc] from (b6.block q0 HRA.out.lt).trans HRA.out)
    have HRZ6 := Lib.hid (show Row w6 q1 25 [.int .i64 0, .int .i64 0, .slice none 0 0, .slice none 0 0] from (b6.block q1 HRZ.out.lt).trans HRZ.out)
    have HO56 := Lib.hid (ownsSame HO5.out (fun k hk => b6.block k (HO5.out.lt k hk).2))
    have HB6 := Lib.hid (bNext HB5.out b6)
    have HSZ := Lib.hid (And.intro HSZ5.out b6.size)
    clear own6 hrb hcb hvb hcm b6
    go_wp2
    refine wpTree_sole rfl ?_
    have f2 := HRA6.out.free 2
    have f3 := HRA6.out.free 3
    have j2 := HRA6.out.cell (i := 2) rfl
    have j3 := HRA6.out.cell (i := 3) rfl
    go_wp2
    (repeat (refine wpTree_free rfl (fun K hK => ?_); go_simp; (try go_bits); refine hK _ ?_; clear hK K))
    refine wpTree_sole rfl ?_
    have hR7 : Row (w6.setCell ⟨q0, 2, none⟩ (.slice aw o.wn cw)) q0 25 [.int .i64 o.cls, .int .i64 o.kind, .slice aw o.wn cw, .slice o.ba o.bn o.bc] := HRA6.out.set 2 _
    have f3' := hR7.free 3
    have j3' := hR7.cell (i := 3) rfl
    clear f2 f3 j2 j3
    go_wp2
    refine wpTree_fin ?_
    obtain ⟨w8, hw8⟩ : ∃ z, z = ((w6.setCell ⟨q0, 2, none⟩ (.slice aw o.wn cw)).setCell ⟨q0, 3, none⟩ (.slice ab o.bn cb)) := ⟨_, rfl⟩
    have R8 : Row w8 q0 25 [.int .i64 o.cls, .int .i64 o.kind, .slice aw o.wn cw, .slice ab o.bn cb] := by rw [hw8]; exact (HRA6.out.set 2 _).set 3 _
    have U8 : Upd [q0] w6 w8 := by rw [hw8]; exact ((Upd.refl [q0] w6).setCell (by simp) _).setCell (by simp) _
    have RZ8 : Row w8 q1 25 [.int .i64 0, .int .i64 0, .slice none 0 0, .slice none 0 0] := HRZ6.out.keep U8 (by simp; have := HQ.out; omega)
    have HU8 := Lib.hid U8
    have k0 := R8.cell (i := 0) rfl
    have k1 := R8.cell (i := 1) rfl
    have k2 := R8.cell (i := 2) rfl
    have k3 := R8.cell (i := 3) rfl
    have y0 := RZ8.cell (i := 0) rfl
    have y1 := RZ8.cell (i := 1) rfl
    have y2 := RZ8.cell (i := 2) rfl
    have y3 := RZ8.cell (i := 3) rfl
    have g0 := RZ8.free 0
    have g1 := RZ8.free 1
    have g2 := RZ8.free 2
    have g3 := RZ8.free 3
    have HRZ8 := Lib.hid RZ8
    rw [← hw8]
    clear hR7 f3' j3' hw8 R8 U8 RZ8
    go_wp2
    obtain ⟨w9, hw9⟩ : ∃ z, z = (((w8.setCell ⟨q1, 0, none⟩ (.int .i64 o.cls)).setCell ⟨q1, 1, none⟩ (.int .i64 o.kind)).setCell ⟨q1, 2, none⟩ (.slice aw o.wn cw)).setCell ⟨q1, 3, none⟩ (.slice ab o.bn cb) := ⟨_, rfl⟩
    have R9 : Row w9 q1 25 [.int .i64 o.cls, .int .i64 o.kind, .slice aw o.wn cw, .slice ab o.bn cb] := by rw [hw9]; exact (((HRZ8.out.set 0 _).set 1 _).set 2 _).set 3 _
    have U9 : Upd [q1] w8 w9 := by rw [hw9]; exact ((((Upd.refl [q1] w8).setCell (by simp) _).setCell (by simp) _).setCell (by simp) _).setCell (by simp) _
    have HU9 := Lib.hid U9
    rw [← hw9]
    clear hw9 U9
    have z0 := R9.cell (i := 0) rfl
    have z1 := R9.cell (i := 1) rfl
    have z2 := R9.cell (i := 2) rfl
    have z3 := R9.cell (i := 3) rfl
    (try simp only [Exit.inBlock, Exit.then])
    refine bodyPost_ret (by rw [results_cell1 rfl]; go_simp; rfl) rfl ?_
    have hq := HQ.out
    have hsz := HSZ.out
    have hvb := HVB.out
    have hvw := HVW.out
    have U := (HU8.out.mono (m := [q0, q1]) (by simp)).trans (HU9.out.mono (m := [q0, q1]) (by simp))
    have oW := U.owns HO56.out (fun k hk => by have := (HO56.out.lt k hk).1; simp; omega)
    have oB := U.owns HO6.out (fun k hk => by have := (HO6.out.lt k hk).1; simp; omega)
    obtain ⟨_, _, he1, rW, _, _⟩ := owns_reads oW
    cases he1
    obtain ⟨_, _, he2, rB, _, _⟩ := owns_reads oB
    cases he2
    have hoW := owns_mono (base' := w.heap.size) oW (by omega)
    have hoB := owns_mono (base' := w.heap.size) oB (by omega)
    exact ⟨⟨o.cls, o.kind, aw, o.wn, cw, o.W, ab, o.bn, cb, o.B⟩, rfl, ⟨HH.out.c0, HH.out.k0, HH.out.wl, ⟨hvw.1, hvw.2.1⟩, rW, HH.out.wi, HH.out.bl, ⟨hvb.1, hvb.2.1⟩, rB, HH.out.bb⟩, rfl, rfl, rfl, rfl, hoW, hoB, fun x y hx hy => by
      have h1 := (hvw.2.2 x hx).2
      have h2 := (hvb.2.2.2 y hy).1
      omega, HB6.out.trans (U.below HB6.out.size (fun k hk => by simp at hk; omega))⟩

theorem c_SpoilW (base g n c : Nat) (l : List Int) (w : World) (h : w.ownsRow base 5 1 (.slice (some ⟨g, 0, none⟩) n c) n (l.map (Value.int .u8))) (hn : n ≤ 1000000) :
    Calls Try.prog 26 #[.slice (some ⟨g, 0, none⟩) n c] w fun e w' => e = .returned (.tuple #[]) ∧ Upd [g] w w' := by
  have HO := Lib.hid h
  clear h
  go_enter Try.func26, Try.ntmps26
  go_wp2
  go_loopw [2] (fun i wr => ∃ (k : Nat) (m : List Int), k ≤ n ∧ i = .int .i64 k ∧ wr.ownsRow base 5 1 (.slice (some ⟨g, 0, none⟩) n c) n (m.map (Value.int .u8)) ∧ Upd [g] w wr) (fun i _ => n - (intOf i).toNat)
  case atStart => exact ⟨0, l, Nat.zero_le _, rfl, HO.out, Upd.refl _ _⟩
  case round =>
    obtain ⟨k, m, hk, rfl, hown, hup⟩ := hrel
    have HW := Lib.hid hown
    have HU := Lib.hid hup
    clear hown hup
    by_cases hlt : k < n
    · have hml : m.length = n := by have := HW.out.1; simpa using this
      have hc := HW.out.cellAt k (by omega)
      have hf := HW.out.frozenAt k
      rw [getD_map8 (by omega)] at hc
      have HS := Lib.hid (fun u => HW.out.stored k u)
      clear hml
      generalize m.getD k 0 = x at *
      go_wp2
      go_roundw
      case rel => exact ⟨k + 1, m.set k (bits .xor .u8 x 165), by omega, by go_num, by rw [List.map_set]; exact (HS.out _).1, HU.out.setCell (p := ⟨g, k, none⟩) (by simp) _⟩
      case measure => simp [intOf]; omega
    · go_wp2
      go_end0
      exact ⟨rfl, HU.out⟩

theorem c_SpoilNilW (w : World) : Calls Try.prog 26 #[.slice none 0 0] w fun e w' => e = .returned (.tuple #[]) ∧ w = w' := by
  go_enter Try.func26, Try.ntmps26
  go_wp2
  go_rounds 1
  go_end0
  exact ⟨rfl, rfl⟩

theorem c_SpoilA (base n : Nat) (v : Value) (l : List Int) (w : World) (h : w.ownsRow base 5 1 v n (l.map (Value.int .u8))) (hn : n ≤ 1000000) :
    Calls Try.prog 26 #[v] w fun e w' => e = .returned (.tuple #[]) ∧ ∃ L : List Nat, (∀ k ∈ L, v.ownBlock = some k) ∧ Upd L w w' := by
  rcases h.2 with ⟨rfl, rfl⟩ | ⟨g, cap, cur, rfl, hb, hg, hc⟩
  · exact (c_SpoilNilW w).mono fun e w' ⟨h1, h2⟩ => ⟨h1, [], by simp, h2 ▸ Upd.refl _ _⟩
  · exact (c_SpoilW base g n cap l w h hn).mono fun e w' ⟨h1, h2⟩ => ⟨h1, [g], by simp [Value.ownBlock], h2⟩

end Go.Proofs.Ytdedidjobjdekaa
