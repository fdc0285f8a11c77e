/-
  The law SchedMany. (Written by smanygen.py.)
-/
import Derived.Test.YtbkaafbkmcgfjaaSchedAG
import Derived.Test.YtbkaafbkmcgfjaaPlanU
namespace Go.Proofs.Ytbkaafbkmcgfjaa
open Go.RowKit
set_option linter.unusedVariables false
set_option maxHeartbeats 8000000
set_option maxRecDepth 20000

theorem disj_mov {w w' : World} {A A' C : List Nat} (hd : ∀ j ∈ A, j ∉ C) (hC : ∀ j ∈ C, j < w.heap.size) (hm : Mov A w A' w') : ∀ j ∈ A', j ∉ C := fun j hj hc =>
  (hm.own j hj).elim (fun h => hd j h hc) (fun h => by have := hC j hc; omega)
theorem mov_app1 {w w' : World} {A A' C : List Nat} (hm : Mov A w A' w') : ∀ k ∈ A' ++ C, k ∈ A ++ C ∨ w.heap.size ≤ k := fun k hk => by
  rcases List.mem_append.1 hk with h | h
  · exact (hm.own k h).imp (fun h => List.mem_append_left _ h) id
  · exact .inl (List.mem_append_right _ h)
theorem mov_app2 {w w' : World} {A A' C : List Nat} (hm : Mov A w A' w') : ∀ k ∈ C ++ A', k ∈ C ++ A ∨ w.heap.size ≤ k := fun k hk => by
  rcases List.mem_append.1 hk with h | h
  · exact .inl (List.mem_append_left _ h)
  · exact (hm.own k h).imp (fun h => List.mem_append_right _ h) id
theorem lt_app {w : World} {A C : List Nat} (hA : ∀ k ∈ A, k < w.heap.size) (hC : ∀ k ∈ C, k < w.heap.size) : ∀ k ∈ A ++ C, k < w.heap.size := fun k hk =>
  (List.mem_append.1 hk).elim (hA k) (hC k)

theorem law_SchedMany (a0 : Option Addr) (len0 cap0 : Nat) (ds : List Do8) (a1 : Option Addr) (len1 cap1 : Nat) (z1 : List Int) (w : World) (w0 : Do8s w a0 len0 cap0 ds) (w1 : Came .i64 w a1 len1 cap1 z1) :
    Calls Try.prog 7 #[.slice a0 len0 cap0, .slice a1 len1 cap1] w fun e w' => e = .returned (.bool true) ∧ Below w.heap.size w w' := by
  obtain ⟨ed, hc0, hm0, hr0, -⟩ := w0
  obtain ⟨ls, el, hc1, hm1, hr1, -⟩ := w1.reads
  unfold maxLen at hm0 hm1
  have ED := Lib.hid ed
  have EL := Lib.hid el
  have HD := Lib.hid hr0
  have HLS := Lib.hid hr1
  clear ed hr0 el hr1 w1
  by_cases hl : 100 < len0
  · go_enter Try.func7, Try.ntmps7
    go_wp2_with fail
    refine (c_known20 _).mono ?_
    rintro e w' ⟨rfl, bk⟩
    go_wp2
    go_ret
    exact ⟨rfl, bk⟩
  by_cases hl1 : 20 < len1
  · go_enter Try.func7, Try.ntmps7
    go_wp2_with fail
    refine (c_known20 _).mono ?_
    rintro e w' ⟨rfl, bk⟩
    go_wp2
    go_ret
    exact ⟨rfl, bk⟩
  go_enter Try.func7, Try.ntmps7
  go_wp2_with fail
  refine (x_New _).mono ?_
  rintro e w1 ⟨L1, rfl, hx, hb⟩
  have HX := Lib.hid hx
  have HB := Lib.hid hb
  clear hx hb
  have HDC := Lib.hid (fun (k : Nat) (hk : k < ds.length) => do_cells HD.out hk)
  generalize hM : w.heap.size = M at *
  have HM := Lib.hid hM
  clear hM HD
  go_wp2_with fail
  refine (x_New _).mono ?_
  rintro e w2 ⟨L2, rfl, hx, hb⟩
  have HDJ : Hid (∀ j ∈ L1.B, j ∉ L2.B) := fun j h1 h2 => by have := HX.out.lt j h1; have := hx.ge j h2; omega
  have HM2 : Hid (M ≤ w1.heap.size) := by unfold Hid; have h1 := HB.out.size; have h2 := HM.out; omega
  have HB := Lib.hid (bBel HB.out HX.out (Nat.le_refl _) hb)
  have HX := Lib.hid (HX.out.below hb)
  have HY := Lib.hid hx
  clear hx hb
  generalize w1.heap.size = m2 at *
  obtain ⟨W, hW⟩ : ∃ W, W = w2.alloc (.cells #[.slice none 0 0, .slice none 0 0, .int .i64 0] 41) := ⟨_, rfl⟩
  obtain ⟨qx, hqx⟩ : ∃ q, q = w2.heap.size := ⟨_, rfl⟩
  have bW : Below w2.heap.size w2 W := by rw [hW]; exact (Below.refl _ _).alloc (Nat.le_refl _) _
  have hRX : RX W qx (L1.B ++ L2.B) none 0 none 0 newR := ⟨by rw [hW, hqx]; exact Row.made w2 _ _, ⟨Reads.nil _, Reads.nil _⟩, fun hm => by have := lt_app HX.out.lt HY.out.lt _ hm; omega, Apart.none _ _, Apart.none _ _, Apart.none _ _, Apart.none _ _⟩
  have HQX : Hid (M ≤ qx) := by unfold Hid; rw [hqx]; exact Nat.le_trans HM2.out HY.out.bs
  have HRX := Lib.hid hRX
  have HB := Lib.hid (bBel HB.out HX.out (Nat.le_refl _) bW)
  have HX := Lib.hid (HX.out.below bW)
  have HY := Lib.hid (HY.out.below bW)
  have HW := Lib.hid hW
  have HQ := Lib.hid hqx
  clear hRX bW hW hqx
  go_wp2_with fail
  rw [← HW.out, ← HQ.out]
  clear HW HQ
  go_loopw [8] (fun i wr => ∃ (k : Nat) (K C : Lay) (x : RS) (b1 b2 : Option Addr) (d1 d2 : Nat), k ≤ len0 ∧ i = .int .i64 k ∧ Hid (SX wr M M k K x) ∧ Hid (SX wr m2 m2 k C x) ∧ Hid (∀ j ∈ K.B, j ∉ C.B) ∧ Hid (RX wr qx (K.B ++ C.B) b1 d1 b2 d2 x) ∧ x.now ≤ 3 * k ∧ Hid (Below M w wr)) (fun i _ => len0 - (intOf i).toNat)
  case atStart => exact ⟨0, _, _, _, _, _, _, _, Nat.zero_le _, rfl, HX.out, HY.out, HDJ.out, HRX.out, Nat.le_refl _, HB.out⟩
  case round =>
    clear HX HY HDJ HRX HB
    obtain ⟨k, K, C, x, b1, b2, d1, d2, hk, rfl, HX, HY, HDJ, HRX, hnow, HB⟩ := hrel
    by_cases hlt : k < len0
    · obtain ⟨b, off, rfl, hb, hcell⟩ := HDC.out k (by have := ED.out; omega)
      have HCL := Lib.hid hcell
      generalize (doAt ds k).kind = kd at *
      generalize (doAt ds k).num = nm at *
      obtain ⟨c0, c1⟩ := HCL.out wr HB.out
      clear hcell
      go_wp2_with fail
      refine (x_done HX.out (by omega) kd nm).mono ?_
      rintro e w3 ⟨K4, rfl, hx, hm⟩
      have HYN := Lib.hid (HY.out.keep hm.up HDJ.out)
      have HRX := Lib.hid (HRX.out.mov hm.up (fun k h => List.mem_append_left _ h) (mov_app1 hm))
      have HDJ := Lib.hid (disj_mov HDJ.out HY.out.lt hm)
      have HB := Lib.hid (bMov HB.out HX.out (Nat.le_refl _) hm)
      have HY := HYN
      have HX := Lib.hid hx
      clear hx hm c0 c1 HYN
      obtain ⟨c0, c1⟩ := HCL.out w3 HB.out
      go_wp2_with fail
      refine (x_done HY.out (by omega) kd nm).mono ?_
      rintro e w4 ⟨C4, rfl, hy, hm⟩
      have HINV := Lib.hid HY.out.inv
      have HRX := Lib.hid (HRX.out.mov hm.up (fun k h => List.mem_append_right _ h) (mov_app2 hm))
      have HXN := Lib.hid (HX.out.keep hm.up (fun j hj hk => HDJ.out j hk hj))
      have HDJ : Hid (∀ j ∈ K4.B, j ∉ C4.B) := fun j hj hc => disj_mov (fun a ha hb => HDJ.out a hb ha) HX.out.lt hm j hc hj
      have HB := Lib.hid (bMov HB.out HY.out HM2.out hm)
      have HX := HXN
      clear HXN
      have HY := Lib.hid hy
      clear hy hm c0 c1
      have hST := fun (z : World) (hz : Below w4.heap.size w4 z) => c_rStep (w := z) ((HRX.out.below hz).v) HINV.out (by omega) (by omega) kd nm
      have HST := Lib.hid hST
      clear hST
      have hnow2 : (stR x kd nm).now ≤ 3 * (k + 1) := by have := stR_now x kd nm; omega
      generalize stR x kd nm = x' at *
      generalize stV x kd nm = V at *
      generalize stE x kd nm = E at *
      obtain ⟨c0, c1⟩ := HCL.out w4 HB.out
      have k0 := HRX.out.row.cell (i := 0) rfl
      have k1 := HRX.out.row.cell (i := 1) rfl
      have k2 := HRX.out.row.cell (i := 2) rfl
      go_wp2_with fail
      refine wp_region_U (fun z : World => z.cell? ⟨qx, 0, none⟩ = some (.slice b1 x.P.length d1) ∧ z.cell? ⟨qx, 1, none⟩ = some (.slice b2 x.sems.length d2) ∧ z.cell? ⟨qx, 2, none⟩ = some (.int .i64 x.now) ∧ z.cell? ⟨b, off + k * 2, none⟩ = some (.int .i64 kd) ∧ z.cell? ⟨b, off + k * 2 + 1, none⟩ = some (.int .i64 nm)) [0, 1, 2, 3, 4, 5, 10] (.load 0 (.load 1 (.load 2 (.load 3 (.load 4 (.two 5 10 (.free 6 (.free 7 (.free 8 (.free 9 (.sole 10 (.late 11 (.free 12 (.free 13 .fin)))))))) (.sole 5 (.free 6 (.free 7 (.free 8 (.free 9 (.late 11 (.free 12 (.free 13 .fin)))))))))))))) (by kernel_rfl) (by kernel_rfl) (fun _ _ _ _ _ h => h) ?_
      have HS : (fun z : World => z.cell? ⟨qx, 0, none⟩ = some (.slice b1 x.P.length d1) ∧ z.cell? ⟨qx, 1, none⟩ = some (.slice b2 x.sems.length d2) ∧ z.cell? ⟨qx, 2, none⟩ = some (.int .i64 x.now) ∧ z.cell? ⟨b, off + k * 2, none⟩ = some (.int .i64 kd) ∧ z.cell? ⟨b, off + k * 2 + 1, none⟩ = some (.int .i64 nm)) w4.drew := ⟨k0, k1, k2, c0, c1⟩
      clear k0 k1 k2 c0 c1
      refine wpU_load (.agg #[.slice b1 x.P.length d1, .slice b2 x.sems.length d2, .int .i64 x.now]) HS rfl rfl (fun x hS => by obtain ⟨s0, s1, s2, s3, s4⟩ := hS; go_simp) (fun K hK => ?_)
      refine hK _ ?_
      clear hK K
      (repeat (refine wpU_pure HS rfl (fun K hK => ?_); go_simp; (try go_bits); refine hK _ ?_; clear hK K))
      refine wpU_load (.agg #[.int .i64 kd, .int .i64 nm]) HS rfl rfl (fun x hS => by obtain ⟨s0, s1, s2, s3, s4⟩ := hS; go_simp) (fun K hK => ?_)
      refine hK _ ?_
      clear hK K
      refine wpU_two rfl rfl ?_ ?_
      · have hST := HST.out w4.drew (bDrew (Below.refl _ w4))
        unfold refV at hST
        have HST1 := Lib.hid hST
        clear hST HST
        go_wp2_with fail
        refine HST1.out.mono ?_
        rintro e v6 ⟨e1, f1, e2, f2, rfl, hv6, hb6, n1, n2⟩
        have hS6 := And.intro (cellKeep hb6 HS.1) (And.intro (cellKeep hb6 HS.2.1) (And.intro (cellKeep hb6 HS.2.2.1) (And.intro (cellKeep hb6 HS.2.2.2.1) (cellKeep hb6 HS.2.2.2.2))))
        have hb6' : Below w4.heap.size w4 v6 := bNext (bDrew (Below.refl _ w4)) hb6
        have HN1 : Hid (NewAt w4 b1 e1 x'.P.length) := n1
        have HN2 : Hid (NewAt w4 b2 e2 x'.sems.length) := n2
        clear hb6 HS HST1 n1 n2
        unfold refV
        go_wp2
        refine ⟨hS6, ?_⟩
        (repeat (refine wpU_free rfl (fun K hK => ?_); go_simp; (try go_bits); refine hK _ ?_; clear hK K))
        refine wpU_sole rfl ?_
        go_wp2
        have hb7 : Below v6.heap.size v6 (v6.alloc (.cells #[.slice none 0 0, .slice none 0 0, .int .i64 0] 41)) := (Below.refl _ _).alloc (Nat.le_refl _) _
        refine ⟨And.intro (cellKeep hb7 hS6.1) (And.intro (cellKeep hb7 hS6.2.1) (And.intro (cellKeep hb7 hS6.2.2.1) (And.intro (cellKeep hb7 hS6.2.2.2.1) (cellKeep hb7 hS6.2.2.2.2)))), ?_⟩
        have hr7 := Row.made v6 [.slice none 0 0, .slice none 0 0, .int .i64 0] 41
        have HV := Lib.hid (hv6.below hb7)
        have HB7 := Lib.hid (bNext hb6' hb7)
        have hge : w4.heap.size ≤ v6.heap.size := hb6'.size
        have HP1 := Lib.hid (NewAt.above HN1.out (fun y hy => (HRX.out.o1 y hy).2) (fun hn => hv6.lt1 hn) hge hb7.size (Nat.le_refl _))
        have HP2 := Lib.hid (NewAt.above HN2.out (fun y hy => (HRX.out.o2 y hy).2) (fun hn => hv6.lt2 hn) hge hb7.size (Nat.le_refl _))
        clear hS6 hb7 hb6' hv6
        obtain ⟨v7, hv7⟩ : ∃ z, z = v6.alloc (.cells #[.slice none 0 0, .slice none 0 0, .int .i64 0] 41) := ⟨_, rfl⟩
        obtain ⟨qy, hqy⟩ : ∃ z, z = v6.heap.size := ⟨_, rfl⟩
        have hr7' : Row v7 qy 41 [.slice none 0 0, .slice none 0 0, .int .i64 0] := by rw [hv7, hqy]; exact hr7
        have HB7 : Hid (Below w4.heap.size w4 v7) := by unfold Hid; rw [hv7]; exact HB7.out
        have HV : Hid (RefV v7 e1 f1 e2 f2 x') := by unfold Hid; rw [hv7]; exact HV.out
        have HGE : Hid (w4.heap.size ≤ qy) := by unfold Hid; rw [hqy]; exact hge
        have HP1 : Hid (Apart v7 e1 [qy]) := by unfold Hid; rw [hv7, hqy]; exact HP1.out
        have HP2 : Hid (Apart v7 e2 [qy]) := by unfold Hid; rw [hv7, hqy]; exact HP2.out
        rw [← hv7, ← hqy]
        clear hv7 hqy hr7 hge
        have HR7 := Lib.hid hr7'
        have y0 := hr7'.cell (i := 0) rfl
        have y1 := hr7'.cell (i := 1) rfl
        have y2 := hr7'.cell (i := 2) rfl
        have g0 := hr7'.free 0
        have g1 := hr7'.free 1
        have g2 := hr7'.free 2
        clear hr7'
        refine wpU_late rfl ?_
        go_wp2
        (repeat (refine wpU_free rfl (fun K hK => ?_); go_simp; (try go_bits); refine hK _ ?_; clear hK K))
        refine wpU_fin ?_
        obtain ⟨w8, hw8⟩ : ∃ z, z = ((v7.setCell ⟨qy, 0, none⟩ (.slice e1 x'.P.length f1)).setCell ⟨qy, 1, none⟩ (.slice e2 x'.sems.length f2)).setCell ⟨qy, 2, none⟩ (.int .i64 x'.now) := ⟨_, rfl⟩
        have R8 : Row w8 qy 41 (refC e1 f1 e2 f2 x') := by rw [hw8]; exact ((HR7.out.set 0 _).set 1 _).set 2 _
        have U8 : Upd [qy] v7 w8 := by rw [hw8]; exact (((Upd.refl [qy] v7).setCell (by simp) _).setCell (by simp) _).setCell (by simp) _
        have HB8 := Lib.hid (HB7.out.trans (U8.below HB7.out.size (fun k hk => by simp at hk; subst hk; exact HGE.out)))
        have HV8 : Hid (RefV w8 e1 f1 e2 f2 x') := ⟨U8.reads HV.out.rp (fun y hy => (HP1.out y hy).1), U8.reads HV.out.rs (fun y hy => (HP2.out y hy).1)⟩
        have x0c := R8.cell (i := 0) rfl
        have x1c := R8.cell (i := 1) rfl
        have x2c := R8.cell (i := 2) rfl
        have HRX8 := Lib.hid (HRX.out.below HB8.out)
        have hq0 := HRX8.out.row.free 0
        have hq1 := HRX8.out.row.free 1
        have hq2 := HRX8.out.row.free 2
        have o0 := HRX8.out.row.cell (i := 0) rfl
        have o1 := HRX8.out.row.cell (i := 1) rfl
        have o2 := HRX8.out.row.cell (i := 2) rfl
        rw [← hw8]
        clear R8 U8 hw8 y0 y1 y2 g0 g1 g2 HP1 HP2 HR7 HV HB7
        go_wp2_with fail
        obtain ⟨w9, hw9⟩ : ∃ z, z = ((w8.setCell ⟨qx, 0, none⟩ (.slice e1 x'.P.length f1)).setCell ⟨qx, 1, none⟩ (.slice e2 x'.sems.length f2)).setCell ⟨qx, 2, none⟩ (.int .i64 x'.now) := ⟨_, rfl⟩
        have HNX := Lib.hid (HRX.out.next (lt_app HX.out.lt HY.out.lt) HB8.out HV8.out HN1.out HN2.out)
        rw [← hw9] at HNX ⊢
        have HU := Lib.hid (HNX.out.2)
        have HRX9 := Lib.hid (HNX.out.1)
        have HX9 := Lib.hid (HX.out.keep HU.out (fun k hk hm => by simp at hk; subst hk; exact HRX.out.nq (List.mem_append_left _ hm)))
        have HY9 := Lib.hid (HY.out.keep HU.out (fun k hk hm => by simp at hk; subst hk; exact HRX.out.nq (List.mem_append_right _ hm)))
        have HB9 := Lib.hid (HB.out.trans (HU.out.below HX.out.bs (fun k hk => by simp at hk; subst hk; exact HQX.out)))
        clear hw9 HNX x0c x1c x2c hq0 hq1 hq2 o0 o1 o2 HRX8 HV8 HB8 HN1 HN2 HRX HX HY HU HB HGE
        go_wp2
        go_roundw
        case rel => exact ⟨k + 1, K4, C4, x', e1, e2, f1, f2, by omega, by go_num, HX9.out, HY9.out, HDJ.out, HRX9.out, by omega, HB9.out⟩
        case measure => simp [intOf]; omega

      · obtain ⟨vd, hvd⟩ : ∃ z, z = w4.drew := ⟨_, rfl⟩
        have hbd : Below w4.heap.size w4 vd := by rw [hvd]; exact bDrew (Below.refl _ w4)
        rw [← hvd] at HS ⊢
        clear hvd
        go_wp2
        have hb5 : Below vd.heap.size vd (vd.alloc (.cells #[.slice none 0 0, .slice none 0 0, .int .i64 0] 41)) := (Below.refl _ vd).alloc (Nat.le_refl _) _
        have hS5 := And.intro (cellKeep hb5 HS.1) (And.intro (cellKeep hb5 HS.2.1) (And.intro (cellKeep hb5 HS.2.2.1) (And.intro (cellKeep hb5 HS.2.2.2.1) (cellKeep hb5 HS.2.2.2.2))))
        refine ⟨hS5, ?_⟩
        have hb5' : Below w4.heap.size w4 (vd.alloc (.cells #[.slice none 0 0, .slice none 0 0, .int .i64 0] 41)) := bNext hbd hb5
        have hr5 : Row (vd.alloc (.cells #[.slice none 0 0, .slice none 0 0, .int .i64 0] 41)) vd.heap.size 41 [.slice none 0 0, .slice none 0 0, .int .i64 0] := Row.made vd [.slice none 0 0, .slice none 0 0, .int .i64 0] 41
        have hge := hbd.size
        clear hb5 HS hbd
        obtain ⟨v5, hv5⟩ : ∃ z, z = vd.alloc (.cells #[.slice none 0 0, .slice none 0 0, .int .i64 0] 41) := ⟨_, rfl⟩
        obtain ⟨qy, hqy⟩ : ∃ z, z = vd.heap.size := ⟨_, rfl⟩
        rw [← hv5] at hS5 hb5' hr5 ⊢
        rw [← hqy] at hr5 hge ⊢
        have HGE := Lib.hid hge
        have HR5 := Lib.hid hr5
        have HB5 := Lib.hid hb5'
        clear hv5 hqy hge hr5 hb5'
        refine wpU_sole rfl ?_
        have hST := HST.out v5 HB5.out
        unfold refV at hST
        have HST1 := Lib.hid hST
        clear hST HST
        go_wp2_with fail
        refine HST1.out.mono ?_
        rintro e v7 ⟨e1, f1, e2, f2, rfl, hv7, hb7, n1, n2⟩
        have hS7 := And.intro (cellKeep hb7 hS5.1) (And.intro (cellKeep hb7 hS5.2.1) (And.intro (cellKeep hb7 hS5.2.2.1) (And.intro (cellKeep hb7 hS5.2.2.2.1) (cellKeep hb7 hS5.2.2.2.2))))
        have HB7 := Lib.hid (bNext HB5.out hb7)
        have hge5 := HB5.out.size
        have HN1 : Hid (NewAt w4 b1 e1 x'.P.length) := fun y hy => (n1 y hy).imp id (fun h => ⟨by omega, h.2⟩)
        have HN2 : Hid (NewAt w4 b2 e2 x'.sems.length) := fun y hy => (n2 y hy).imp id (fun h => ⟨by omega, h.2⟩)
        have hr7' := HR5.out.keep (l := []) (.of_below hb7) (by simp)
        have HV := Lib.hid hv7
        have HP1 := Lib.hid (NewAt.under n1 (fun y hy => Nat.lt_of_lt_of_le (HRX.out.o1 y hy).2 HGE.out) (fun hn => hv7.lt1 hn) HR5.out.lt hb7.size)
        have HP2 := Lib.hid (NewAt.under n2 (fun y hy => Nat.lt_of_lt_of_le (HRX.out.o2 y hy).2 HGE.out) (fun hn => hv7.lt2 hn) HR5.out.lt hb7.size)
        clear hb7 hS5 HST1 n1 n2 HR5 HB5 hge5 hv7
        unfold refV
        go_wp2
        refine ⟨hS7, ?_⟩
        clear hS7
        (repeat (refine wpU_free rfl (fun K hK => ?_); go_simp; (try go_bits); refine hK _ ?_; clear hK K))
        have HR7 := Lib.hid hr7'
        have y0 := hr7'.cell (i := 0) rfl
        have y1 := hr7'.cell (i := 1) rfl
        have y2 := hr7'.cell (i := 2) rfl
        have g0 := hr7'.free 0
        have g1 := hr7'.free 1
        have g2 := hr7'.free 2
        clear hr7'
        refine wpU_late rfl ?_
        go_wp2
        (repeat (refine wpU_free rfl (fun K hK => ?_); go_simp; (try go_bits); refine hK _ ?_; clear hK K))
        refine wpU_fin ?_
        obtain ⟨w8, hw8⟩ : ∃ z, z = ((v7.setCell ⟨qy, 0, none⟩ (.slice e1 x'.P.length f1)).setCell ⟨qy, 1, none⟩ (.slice e2 x'.sems.length f2)).setCell ⟨qy, 2, none⟩ (.int .i64 x'.now) := ⟨_, rfl⟩
        have R8 : Row w8 qy 41 (refC e1 f1 e2 f2 x') := by rw [hw8]; exact ((HR7.out.set 0 _).set 1 _).set 2 _
        have U8 : Upd [qy] v7 w8 := by rw [hw8]; exact (((Upd.refl [qy] v7).setCell (by simp) _).setCell (by simp) _).setCell (by simp) _
        have HB8 := Lib.hid (HB7.out.trans (U8.below HB7.out.size (fun k hk => by simp at hk; subst hk; exact HGE.out)))
        have HV8 : Hid (RefV w8 e1 f1 e2 f2 x') := ⟨U8.reads HV.out.rp (fun y hy => (HP1.out y hy).1), U8.reads HV.out.rs (fun y hy => (HP2.out y hy).1)⟩
        have x0c := R8.cell (i := 0) rfl
        have x1c := R8.cell (i := 1) rfl
        have x2c := R8.cell (i := 2) rfl
        have HRX8 := Lib.hid (HRX.out.below HB8.out)
        have hq0 := HRX8.out.row.free 0
        have hq1 := HRX8.out.row.free 1
        have hq2 := HRX8.out.row.free 2
        have o0 := HRX8.out.row.cell (i := 0) rfl
        have o1 := HRX8.out.row.cell (i := 1) rfl
        have o2 := HRX8.out.row.cell (i := 2) rfl
        rw [← hw8]
        clear R8 U8 hw8 y0 y1 y2 g0 g1 g2 HP1 HP2 HR7 HV HB7
        go_wp2_with fail
        obtain ⟨w9, hw9⟩ : ∃ z, z = ((w8.setCell ⟨qx, 0, none⟩ (.slice e1 x'.P.length f1)).setCell ⟨qx, 1, none⟩ (.slice e2 x'.sems.length f2)).setCell ⟨qx, 2, none⟩ (.int .i64 x'.now) := ⟨_, rfl⟩
        have HNX := Lib.hid (HRX.out.next (lt_app HX.out.lt HY.out.lt) HB8.out HV8.out HN1.out HN2.out)
        rw [← hw9] at HNX ⊢
        have HU := Lib.hid (HNX.out.2)
        have HRX9 := Lib.hid (HNX.out.1)
        have HX9 := Lib.hid (HX.out.keep HU.out (fun k hk hm => by simp at hk; subst hk; exact HRX.out.nq (List.mem_append_left _ hm)))
        have HY9 := Lib.hid (HY.out.keep HU.out (fun k hk hm => by simp at hk; subst hk; exact HRX.out.nq (List.mem_append_right _ hm)))
        have HB9 := Lib.hid (HB.out.trans (HU.out.below HX.out.bs (fun k hk => by simp at hk; subst hk; exact HQX.out)))
        clear hw9 HNX x0c x1c x2c hq0 hq1 hq2 o0 o1 o2 HRX8 HV8 HB8 HN1 HN2 HRX HX HY HU HB HGE
        go_wp2
        go_roundw
        case rel => exact ⟨k + 1, K4, C4, x', e1, e2, f1, f2, by omega, by go_num, HX9.out, HY9.out, HDJ.out, HRX9.out, by omega, HB9.out⟩
        case measure => simp [intOf]; omega
    · obtain rfl : len0 = k := by omega
      clear hlt
      obtain ⟨x0, hx0⟩ : ∃ y, y = x := ⟨x, rfl⟩
      subst hx0
      have hRS := HLS.out.below (show Below w.heap.size w wr by rw [HM.out]; exact HB.out)
      have hDD : 0 < len1 → ∀ y, a1 = some y → y.block ∉ K.B := fun h0 y hy hm => by
        obtain ⟨b, off, rfl, hb, -⟩ := HLS.out.at (by have := EL.out; simp; omega)
        cases hy
        have h1 := HX.out.ge _ hm
        have h2 := HM.out
        simp at h1
        omega
      have HI0 := Lib.hid HX.out.inv
      go_wp2_with fail
      have hR := x_ResumeW HX.out (by omega) a1 len1 cap1 ls EL.out hRS hc1 (by omega) hDD
      have hV := rsE_val x0 ls
      by_cases hE : rsE x0 ls = 0
      · have HE0 := Lib.hid hE
        have hM : rsR x0 ls = madeL x0 ls := if_pos hE
        rw [hM, hE] at hR
        clear hV hE hM hRS hDD
        refine hR.mono ?_
        clear hR
        rintro e w3 ⟨K4, rfl, hx, hm⟩
        have HYN := Lib.hid (HY.out.keep hm.up HDJ.out)
        have HRX := Lib.hid (HRX.out.mov hm.up (fun k h => List.mem_append_left _ h) (mov_app1 hm))
        have HDJ := Lib.hid (disj_mov HDJ.out HY.out.lt hm)
        have HB := Lib.hid (bMov HB.out HX.out (Nat.le_refl _) hm)
        have HY := HYN
        have HX := Lib.hid hx
        clear hx hm HYN
        go_wp2_with fail
        go_loopw [13] (fun i wz => ∃ (j : Nat) (K C : Lay) (x : RS) (b1 b2 : Option Addr) (d1 d2 : Nat), j ≤ len1 ∧ i = .int .i64 j ∧ Hid (x = madeL x0 (ls.take j)) ∧ Hid (SX wz M M len0 K (madeL x0 ls)) ∧ Hid (SX wz m2 m2 len0 C x) ∧ Hid (∀ j ∈ K.B, j ∉ C.B) ∧ Hid (RX wz qx (K.B ++ C.B) b1 d1 b2 d2 x) ∧ x.now ≤ 3 * len0 + 3 * j ∧ Hid (Below M w wz)) (fun i _ => len1 - (intOf i).toNat)
        case atStart => exact ⟨0, _, _, x0, _, _, _, _, Nat.zero_le _, rfl, rfl, HX.out, HY.out, HDJ.out, HRX.out, by omega, HB.out⟩
        case round =>
          clear HX HY HDJ HRX HB hnow
          obtain ⟨j, K, C, x, b1, b2, d1, d2, hj, rfl, HXP, HX, HY, HDJ, HRX, hnow, HB⟩ := hrel
          by_cases hlt : j < len1
          · have hjl : j < ls.length := by have := EL.out; omega
            obtain ⟨b, off, rfl, hblt, hc0⟩ := HLS.out.at (by simp; omega)
            have HCL := Lib.hid (fun (z : World) (hz : Below M w z) => cellKeep (by rw [HM.out]; exact hz) (hc0 j _ (getD_map8 hjl)))
            have HON := Lib.hid (many_one HI0.out HE0.out hjl)
            have HNX1 : Hid (madeL x0 (ls.take (j + 1)) = stR x 2 (ls.getD j 0)) := by
              unfold Hid; rw [HXP.out]; exact HON.out.2.symm
            have HRE : Hid (rsE x [ls.getD j 0] = 0) := by unfold Hid; rw [HXP.out]; exact HON.out.1
            have HSE : Hid (stE x 2 (ls.getD j 0) = 0) := HRE.out
            have HNR1 : Hid (rsR x [ls.getD j 0] = stR x 2 (ls.getD j 0)) := rfl
            have HHB := Lib.hid hblt
            clear hc0 HON hjl hblt
            generalize ls.getD j 0 = nm at *
            have c0 := HCL.out wr HB.out
            have b1' : Below wr.heap.size wr (wr.alloc (.cells #[.int .i64 nm] 3)) := (Below.refl _ _).alloc (Nat.le_refl _) _
            have hltY := HY.out.lt
            go_wp2_with fail
            have hR := x_Resume (HY.out.below b1') (by omega) (some ⟨wr.heap.size, 0, none⟩) 1 1 [nm] rfl (Reads.madeAt rfl) (Nat.le_refl _) (by omega) (fun y hy hm => by cases hy; exact absurd (hltY _ hm) (Nat.lt_irrefl _))
            rw [HRE.out, HNR1.out] at hR
            refine hR.mono ?_
            clear hR hltY
            rintro e w4 ⟨C4, rfl, hy, hm⟩
            have HINV := Lib.hid HY.out.inv
            have HRX := Lib.hid (HRX.out.below b1')
            have HB := Lib.hid (bBel HB.out HX.out (Nat.le_refl _) b1')
            have HX := Lib.hid (HX.out.below b1')
            have HY := Lib.hid (HY.out.below b1')
            clear b1' c0
            have HRX := Lib.hid (HRX.out.mov hm.up (fun k h => List.mem_append_right _ h) (mov_app2 hm))
            have HXN := Lib.hid (HX.out.keep hm.up (fun j hj hk => HDJ.out j hk hj))
            have HDJ : Hid (∀ j ∈ K.B, j ∉ C4.B) := fun j hj hc => disj_mov (fun a ha hb => HDJ.out a hb ha) HX.out.lt hm j hc hj
            have HB := Lib.hid (bMov HB.out HY.out HM2.out hm)
            have HX := HXN
            clear HXN
            have HY := Lib.hid hy
            clear hy hm
            have hST := fun (z : World) (hz : Below w4.heap.size w4 z) => c_rStep (w := z) ((HRX.out.below hz).v) HINV.out (by omega) (by omega) 2 nm
            rw [HSE.out] at hST
            have HST := Lib.hid hST
            clear hST
            have hnow2 : (stR x 2 nm).now ≤ 3 * len0 + 3 * (j + 1) := by have := stR_now x 2 nm; omega
            have HXP : Hid (stR x 2 nm = madeL x0 (ls.take (j + 1))) := HNX1.out.symm
            clear HNX1 HRE HSE HNR1
            generalize stR x 2 nm = x' at *
            generalize stV x 2 nm = V at *
            have c0 := HCL.out w4 HB.out
            have c1 := c0
            have k0 := HRX.out.row.cell (i := 0) rfl
            have k1 := HRX.out.row.cell (i := 1) rfl
            have k2 := HRX.out.row.cell (i := 2) rfl
            go_wp2_with fail
            refine wp_region_U (fun z : World => z.cell? ⟨qx, 0, none⟩ = some (.slice b1 x.P.length d1) ∧ z.cell? ⟨qx, 1, none⟩ = some (.slice b2 x.sems.length d2) ∧ z.cell? ⟨qx, 2, none⟩ = some (.int .i64 x.now) ∧ z.cell? ⟨b, off + j, none⟩ = some (.int .i64 nm) ∧ z.cell? ⟨b, off + j, none⟩ = some (.int .i64 nm)) [0, 1, 2, 3, 4, 5, 6, 11] (.load 0 (.load 1 (.load 2 (.load 3 (.load 4 (.load 5 (.two 6 11 (.free 7 (.free 8 (.free 9 (.free 10 (.sole 11 (.late 12 (.free 13 (.free 14 .fin)))))))) (.sole 6 (.free 7 (.free 8 (.free 9 (.free 10 (.late 12 (.free 13 (.free 14 .fin))))))))))))))) (by kernel_rfl) (by kernel_rfl) (fun _ _ _ _ _ h => h) ?_
            have HS : (fun z : World => z.cell? ⟨qx, 0, none⟩ = some (.slice b1 x.P.length d1) ∧ z.cell? ⟨qx, 1, none⟩ = some (.slice b2 x.sems.length d2) ∧ z.cell? ⟨qx, 2, none⟩ = some (.int .i64 x.now) ∧ z.cell? ⟨b, off + j, none⟩ = some (.int .i64 nm) ∧ z.cell? ⟨b, off + j, none⟩ = some (.int .i64 nm)) w4.drew := ⟨k0, k1, k2, c0, c1⟩
            clear k0 k1 k2 c0 c1
            refine wpU_load (.agg #[.slice b1 x.P.length d1, .slice b2 x.sems.length d2, .int .i64 x.now]) HS rfl rfl (fun x hS => by obtain ⟨s0, s1, s2, s3, s4⟩ := hS; go_simp) (fun K hK => ?_)
            refine hK _ ?_
            clear hK K
            (repeat (refine wpU_pure HS rfl (fun K hK => ?_); go_simp; (try go_bits); refine hK _ ?_; clear hK K))
            refine wpU_load (.int .i64 nm) HS rfl rfl (fun x hS => by obtain ⟨s0, s1, s2, s3, s4⟩ := hS; go_simp) (fun K hK => ?_)
            refine hK _ ?_
            clear hK K
            (repeat (refine wpU_pure HS rfl (fun K hK => ?_); go_simp; (try go_bits); refine hK _ ?_; clear hK K))
            refine wpU_two rfl rfl ?_ ?_
            · have hST := HST.out w4.drew (bDrew (Below.refl _ w4))
              unfold refV at hST
              have HST1 := Lib.hid hST
              clear hST HST
              go_wp2_with fail
              refine HST1.out.mono ?_
              rintro e v6 ⟨e1, f1, e2, f2, rfl, hv6, hb6, n1, n2⟩
              have hS6 := And.intro (cellKeep hb6 HS.1) (And.intro (cellKeep hb6 HS.2.1) (And.intro (cellKeep hb6 HS.2.2.1) (And.intro (cellKeep hb6 HS.2.2.2.1) (cellKeep hb6 HS.2.2.2.2))))
              have hb6' : Below w4.heap.size w4 v6 := bNext (bDrew (Below.refl _ w4)) hb6
              have HN1 : Hid (NewAt w4 b1 e1 x'.P.length) := n1
              have HN2 : Hid (NewAt w4 b2 e2 x'.sems.length) := n2
              clear hb6 HS HST1 n1 n2
              unfold refV
              go_wp2
              refine ⟨hS6, ?_⟩
              (repeat (refine wpU_free rfl (fun K hK => ?_); go_simp; (try go_bits); refine hK _ ?_; clear hK K))
              refine wpU_sole rfl ?_
              go_wp2
              have hb7 : Below v6.heap.size v6 (v6.alloc (.cells #[.slice none 0 0, .slice none 0 0, .int .i64 0] 41)) := (Below.refl _ _).alloc (Nat.le_refl _) _
              refine ⟨And.intro (cellKeep hb7 hS6.1) (And.intro (cellKeep hb7 hS6.2.1) (And.intro (cellKeep hb7 hS6.2.2.1) (And.intro (cellKeep hb7 hS6.2.2.2.1) (cellKeep hb7 hS6.2.2.2.2)))), ?_⟩
              have hr7 := Row.made v6 [.slice none 0 0, .slice none 0 0, .int .i64 0] 41
              have HV := Lib.hid (hv6.below hb7)
              have HB7 := Lib.hid (bNext hb6' hb7)
              have hge : w4.heap.size ≤ v6.heap.size := hb6'.size
              have HP1 := Lib.hid (NewAt.above HN1.out (fun y hy => (HRX.out.o1 y hy).2) (fun hn => hv6.lt1 hn) hge hb7.size (Nat.le_refl _))
              have HP2 := Lib.hid (NewAt.above HN2.out (fun y hy => (HRX.out.o2 y hy).2) (fun hn => hv6.lt2 hn) hge hb7.size (Nat.le_refl _))
              clear hS6 hb7 hb6' hv6
              obtain ⟨v7, hv7⟩ : ∃ z, z = v6.alloc (.cells #[.slice none 0 0, .slice none 0 0, .int .i64 0] 41) := ⟨_, rfl⟩
              obtain ⟨qy, hqy⟩ : ∃ z, z = v6.heap.size := ⟨_, rfl⟩
              have hr7' : Row v7 qy 41 [.slice none 0 0, .slice none 0 0, .int .i64 0] := by rw [hv7, hqy]; exact hr7
              have HB7 : Hid (Below w4.heap.size w4 v7) := by unfold Hid; rw [hv7]; exact HB7.out
              have HV : Hid (RefV v7 e1 f1 e2 f2 x') := by unfold Hid; rw [hv7]; exact HV.out
              have HGE : Hid (w4.heap.size ≤ qy) := by unfold Hid; rw [hqy]; exact hge
              have HP1 : Hid (Apart v7 e1 [qy]) := by unfold Hid; rw [hv7, hqy]; exact HP1.out
              have HP2 : Hid (Apart v7 e2 [qy]) := by unfold Hid; rw [hv7, hqy]; exact HP2.out
              rw [← hv7, ← hqy]
              clear hv7 hqy hr7 hge
              have HR7 := Lib.hid hr7'
              have y0 := hr7'.cell (i := 0) rfl
              have y1 := hr7'.cell (i := 1) rfl
              have y2 := hr7'.cell (i := 2) rfl
              have g0 := hr7'.free 0
              have g1 := hr7'.free 1
              have g2 := hr7'.free 2
              clear hr7'
              refine wpU_late rfl ?_
              go_wp2
              (repeat (refine wpU_free rfl (fun K hK => ?_); go_simp; (try go_bits); refine hK _ ?_; clear hK K))
              refine wpU_fin ?_
              obtain ⟨w8, hw8⟩ : ∃ z, z = ((v7.setCell ⟨qy, 0, none⟩ (.slice e1 x'.P.length f1)).setCell ⟨qy, 1, none⟩ (.slice e2 x'.sems.length f2)).setCell ⟨qy, 2, none⟩ (.int .i64 x'.now) := ⟨_, rfl⟩
              have R8 : Row w8 qy 41 (refC e1 f1 e2 f2 x') := by rw [hw8]; exact ((HR7.out.set 0 _).set 1 _).set 2 _
              have U8 : Upd [qy] v7 w8 := by rw [hw8]; exact (((Upd.refl [qy] v7).setCell (by simp) _).setCell (by simp) _).setCell (by simp) _
              have HB8 := Lib.hid (HB7.out.trans (U8.below HB7.out.size (fun k hk => by simp at hk; subst hk; exact HGE.out)))
              have HV8 : Hid (RefV w8 e1 f1 e2 f2 x') := ⟨U8.reads HV.out.rp (fun y hy => (HP1.out y hy).1), U8.reads HV.out.rs (fun y hy => (HP2.out y hy).1)⟩
              have x0c := R8.cell (i := 0) rfl
              have x1c := R8.cell (i := 1) rfl
              have x2c := R8.cell (i := 2) rfl
              have HRX8 := Lib.hid (HRX.out.below HB8.out)
              have hq0 := HRX8.out.row.free 0
              have hq1 := HRX8.out.row.free 1
              have hq2 := HRX8.out.row.free 2
              have o0 := HRX8.out.row.cell (i := 0) rfl
              have o1 := HRX8.out.row.cell (i := 1) rfl
              have o2 := HRX8.out.row.cell (i := 2) rfl
              rw [← hw8]
              clear R8 U8 hw8 y0 y1 y2 g0 g1 g2 HP1 HP2 HR7 HV HB7
              go_wp2_with fail
              obtain ⟨w9, hw9⟩ : ∃ z, z = ((w8.setCell ⟨qx, 0, none⟩ (.slice e1 x'.P.length f1)).setCell ⟨qx, 1, none⟩ (.slice e2 x'.sems.length f2)).setCell ⟨qx, 2, none⟩ (.int .i64 x'.now) := ⟨_, rfl⟩
              have HNX := Lib.hid (HRX.out.next (lt_app HX.out.lt HY.out.lt) HB8.out HV8.out HN1.out HN2.out)
              rw [← hw9] at HNX ⊢
              have HU := Lib.hid (HNX.out.2)
              have HRX9 := Lib.hid (HNX.out.1)
              have HX9 := Lib.hid (HX.out.keep HU.out (fun k hk hm => by simp at hk; subst hk; exact HRX.out.nq (List.mem_append_left _ hm)))
              have HY9 := Lib.hid (HY.out.keep HU.out (fun k hk hm => by simp at hk; subst hk; exact HRX.out.nq (List.mem_append_right _ hm)))
              have HB9 := Lib.hid (HB.out.trans (HU.out.below HX.out.bs (fun k hk => by simp at hk; subst hk; exact HQX.out)))
              clear hw9 HNX x0c x1c x2c hq0 hq1 hq2 o0 o1 o2 HRX8 HV8 HB8 HN1 HN2 HRX HX HY HU HB HGE
              go_wp2
              go_roundw
              case rel => exact ⟨j + 1, K, C4, x', e1, e2, f1, f2, by omega, by go_num, HXP.out, HX9.out, HY9.out, HDJ.out, HRX9.out, by omega, HB9.out⟩
              case measure => simp [intOf]; omega

            · obtain ⟨vd, hvd⟩ : ∃ z, z = w4.drew := ⟨_, rfl⟩
              have hbd : Below w4.heap.size w4 vd := by rw [hvd]; exact bDrew (Below.refl _ w4)
              rw [← hvd] at HS ⊢
              clear hvd
              go_wp2
              have hb5 : Below vd.heap.size vd (vd.alloc (.cells #[.slice none 0 0, .slice none 0 0, .int .i64 0] 41)) := (Below.refl _ vd).alloc (Nat.le_refl _) _
              have hS5 := And.intro (cellKeep hb5 HS.1) (And.intro (cellKeep hb5 HS.2.1) (And.intro (cellKeep hb5 HS.2.2.1) (And.intro (cellKeep hb5 HS.2.2.2.1) (cellKeep hb5 HS.2.2.2.2))))
              refine ⟨hS5, ?_⟩
              have hb5' : Below w4.heap.size w4 (vd.alloc (.cells #[.slice none 0 0, .slice none 0 0, .int .i64 0] 41)) := bNext hbd hb5
              have hr5 : Row (vd.alloc (.cells #[.slice none 0 0, .slice none 0 0, .int .i64 0] 41)) vd.heap.size 41 [.slice none 0 0, .slice none 0 0, .int .i64 0] := Row.made vd [.slice none 0 0, .slice none 0 0, .int .i64 0] 41
              have hge := hbd.size
              clear hb5 HS hbd
              obtain ⟨v5, hv5⟩ : ∃ z, z = vd.alloc (.cells #[.slice none 0 0, .slice none 0 0, .int .i64 0] 41) := ⟨_, rfl⟩
              obtain ⟨qy, hqy⟩ : ∃ z, z = vd.heap.size := ⟨_, rfl⟩
              rw [← hv5] at hS5 hb5' hr5 ⊢
              rw [← hqy] at hr5 hge ⊢
              have HGE := Lib.hid hge
              have HR5 := Lib.hid hr5
              have HB5 := Lib.hid hb5'
              clear hv5 hqy hge hr5 hb5'
              refine wpU_sole rfl ?_
              have hST := HST.out v5 HB5.out
              unfold refV at hST
              have HST1 := Lib.hid hST
              clear hST HST
              go_wp2_with fail
              refine HST1.out.mono ?_
              rintro e v7 ⟨e1, f1, e2, f2, rfl, hv7, hb7, n1, n2⟩
              have hS7 := And.intro (cellKeep hb7 hS5.1) (And.intro (cellKeep hb7 hS5.2.1) (And.intro (cellKeep hb7 hS5.2.2.1) (And.intro (cellKeep hb7 hS5.2.2.2.1) (cellKeep hb7 hS5.2.2.2.2))))
              have HB7 := Lib.hid (bNext HB5.out hb7)
              have hge5 := HB5.out.size
              have HN1 : Hid (NewAt w4 b1 e1 x'.P.length) := fun y hy => (n1 y hy).imp id (fun h => ⟨by omega, h.2⟩)
              have HN2 : Hid (NewAt w4 b2 e2 x'.sems.length) := fun y hy => (n2 y hy).imp id (fun h => ⟨by omega, h.2⟩)
              have hr7' := HR5.out.keep (l := []) (.of_below hb7) (by simp)
              have HV := Lib.hid hv7
              have HP1 := Lib.hid (NewAt.under n1 (fun y hy => Nat.lt_of_lt_of_le (HRX.out.o1 y hy).2 HGE.out) (fun hn => hv7.lt1 hn) HR5.out.lt hb7.size)
              have HP2 := Lib.hid (NewAt.under n2 (fun y hy => Nat.lt_of_lt_of_le (HRX.out.o2 y hy).2 HGE.out) (fun hn => hv7.lt2 hn) HR5.out.lt hb7.size)
              clear hb7 hS5 HST1 n1 n2 HR5 HB5 hge5 hv7
              unfold refV
              go_wp2
              refine ⟨hS7, ?_⟩
              clear hS7
              (repeat (refine wpU_free rfl (fun K hK => ?_); go_simp; (try go_bits); refine hK _ ?_; clear hK K))
              have HR7 := Lib.hid hr7'
              have y0 := hr7'.cell (i := 0) rfl
              have y1 := hr7'.cell (i := 1) rfl
              have y2 := hr7'.cell (i := 2) rfl
              have g0 := hr7'.free 0
              have g1 := hr7'.free 1
              have g2 := hr7'.free 2
              clear hr7'
              refine wpU_late rfl ?_
              go_wp2
              (repeat (refine wpU_free rfl (fun K hK => ?_); go_simp; (try go_bits); refine hK _ ?_; clear hK K))
              refine wpU_fin ?_
              obtain ⟨w8, hw8⟩ : ∃ z, z = ((v7.setCell ⟨qy, 0, none⟩ (.slice e1 x'.P.length f1)).setCell ⟨qy, 1, none⟩ (.slice e2 x'.sems.length f2)).setCell ⟨qy, 2, none⟩ (.int .i64 x'.now) := ⟨_, rfl⟩
              have R8 : Row w8 qy 41 (refC e1 f1 e2 f2 x') := by rw [hw8]; exact ((HR7.out.set 0 _).set 1 _).set 2 _
              have U8 : Upd [qy] v7 w8 := by rw [hw8]; exact (((Upd.refl [qy] v7).setCell (by simp) _).setCell (by simp) _).setCell (by simp) _
              have HB8 := Lib.hid (HB7.out.trans (U8.below HB7.out.size (fun k hk => by simp at hk; subst hk; exact HGE.out)))
              have HV8 : Hid (RefV w8 e1 f1 e2 f2 x') := ⟨U8.reads HV.out.rp (fun y hy => (HP1.out y hy).1), U8.reads HV.out.rs (fun y hy => (HP2.out y hy).1)⟩
              have x0c := R8.cell (i := 0) rfl
              have x1c := R8.cell (i := 1) rfl
              have x2c := R8.cell (i := 2) rfl
              have HRX8 := Lib.hid (HRX.out.below HB8.out)
              have hq0 := HRX8.out.row.free 0
              have hq1 := HRX8.out.row.free 1
              have hq2 := HRX8.out.row.free 2
              have o0 := HRX8.out.row.cell (i := 0) rfl
              have o1 := HRX8.out.row.cell (i := 1) rfl
              have o2 := HRX8.out.row.cell (i := 2) rfl
              rw [← hw8]
              clear R8 U8 hw8 y0 y1 y2 g0 g1 g2 HP1 HP2 HR7 HV HB7
              go_wp2_with fail
              obtain ⟨w9, hw9⟩ : ∃ z, z = ((w8.setCell ⟨qx, 0, none⟩ (.slice e1 x'.P.length f1)).setCell ⟨qx, 1, none⟩ (.slice e2 x'.sems.length f2)).setCell ⟨qx, 2, none⟩ (.int .i64 x'.now) := ⟨_, rfl⟩
              have HNX := Lib.hid (HRX.out.next (lt_app HX.out.lt HY.out.lt) HB8.out HV8.out HN1.out HN2.out)
              rw [← hw9] at HNX ⊢
              have HU := Lib.hid (HNX.out.2)
              have HRX9 := Lib.hid (HNX.out.1)
              have HX9 := Lib.hid (HX.out.keep HU.out (fun k hk hm => by simp at hk; subst hk; exact HRX.out.nq (List.mem_append_left _ hm)))
              have HY9 := Lib.hid (HY.out.keep HU.out (fun k hk hm => by simp at hk; subst hk; exact HRX.out.nq (List.mem_append_right _ hm)))
              have HB9 := Lib.hid (HB.out.trans (HU.out.below HX.out.bs (fun k hk => by simp at hk; subst hk; exact HQX.out)))
              clear hw9 HNX x0c x1c x2c hq0 hq1 hq2 o0 o1 o2 HRX8 HV8 HB8 HN1 HN2 HRX HX HY HU HB HGE
              go_wp2
              go_roundw
              case rel => exact ⟨j + 1, K, C4, x', e1, e2, f1, f2, by omega, by go_num, HXP.out, HX9.out, HY9.out, HDJ.out, HRX9.out, by omega, HB9.out⟩
              case measure => simp [intOf]; omega
          · obtain rfl : j = len1 := by omega
            have HXE : Hid (x = madeL x0 ls) := by unfold Hid; rw [HXP.out, EL.out, List.take_length]
            clear HXP hlt hj
            rw [← HXE.out] at HX
            have k0 := HRX.out.row.cell (i := 0) rfl
            have k1 := HRX.out.row.cell (i := 1) rfl
            have k2 := HRX.out.row.cell (i := 2) rfl
            go_wp2_with fail
            have hS := c_same HX.out HRX.out.v (by omega) (by omega)
            unfold refV at hS
            refine hS.mono ?_
            clear hS k0 k1 k2
            rintro e ws ⟨rfl, bs⟩
            have HRX := Lib.hid (HRX.out.below bs)
            have HB := Lib.hid (bBel HB.out HX.out (Nat.le_refl _) bs)
            have HX := Lib.hid (HX.out.below bs)
            have HY := Lib.hid (HY.out.below bs)
            clear bs
            have k0 := HRX.out.row.cell (i := 0) rfl
            have k1 := HRX.out.row.cell (i := 1) rfl
            have k2 := HRX.out.row.cell (i := 2) rfl
            go_wp2_with fail
            have hS := c_same HY.out HRX.out.v (by omega) (by omega)
            unfold refV at hS
            refine hS.mono ?_
            clear hS k0 k1 k2
            rintro e ws ⟨rfl, bs⟩
            have HRX := Lib.hid (HRX.out.below bs)
            have HB := Lib.hid (bBel HB.out HX.out (Nat.le_refl _) bs)
            have HX := Lib.hid (HX.out.below bs)
            have HY := Lib.hid (HY.out.below bs)
            clear bs
            go_wp2_with fail
            refine (c_known20 _).mono ?_
            rintro e w' ⟨rfl, bk⟩
            have HB := Lib.hid (bBel HB.out HX.out (Nat.le_refl _) bk)
            clear bk
            go_wp2
            go_ret
            exact ⟨rfl, by rw [HM.out]; exact HB.out⟩
      · have hM : rsR x0 ls = x0 := if_neg hE
        rw [hM] at hR
        have hV2 : rsE x0 ls = 2 ∨ rsE x0 ls = 4 := hV.resolve_left hE
        clear hV hM hRS hDD hE
        rcases hV2 with hE | hE
        · rw [hE] at hR
          clear hE
          refine hR.mono ?_
          clear hR
          rintro e w3 ⟨K4, rfl, hx, hm⟩
          have HYN := Lib.hid (HY.out.keep hm.up HDJ.out)
          have HRX := Lib.hid (HRX.out.mov hm.up (fun k h => List.mem_append_left _ h) (mov_app1 hm))
          have HDJ := Lib.hid (disj_mov HDJ.out HY.out.lt hm)
          have HB := Lib.hid (bMov HB.out HX.out (Nat.le_refl _) hm)
          have HY := HYN
          have HX := Lib.hid hx
          clear hx hm HYN
          have k0 := HRX.out.row.cell (i := 0) rfl
          have k1 := HRX.out.row.cell (i := 1) rfl
          have k2 := HRX.out.row.cell (i := 2) rfl
          go_wp2_with fail
          have hS := c_same HX.out HRX.out.v (by omega) (by omega)
          unfold refV at hS
          refine hS.mono ?_
          clear hS k0 k1 k2
          rintro e ws ⟨rfl, bs⟩
          have HRX := Lib.hid (HRX.out.below bs)
          have HB := Lib.hid (bBel HB.out HX.out (Nat.le_refl _) bs)
          have HX := Lib.hid (HX.out.below bs)
          have HY := Lib.hid (HY.out.below bs)
          clear bs
          go_wp2_with fail
          refine (c_known20 _).mono ?_
          rintro e w' ⟨rfl, bk⟩
          have HB := Lib.hid (bBel HB.out HX.out (Nat.le_refl _) bk)
          clear bk
          go_wp2
          go_ret
          exact ⟨rfl, by rw [HM.out]; exact HB.out⟩
        · rw [hE] at hR
          clear hE
          refine hR.mono ?_
          clear hR
          rintro e w3 ⟨K4, rfl, hx, hm⟩
          have HYN := Lib.hid (HY.out.keep hm.up HDJ.out)
          have HRX := Lib.hid (HRX.out.mov hm.up (fun k h => List.mem_append_left _ h) (mov_app1 hm))
          have HDJ := Lib.hid (disj_mov HDJ.out HY.out.lt hm)
          have HB := Lib.hid (bMov HB.out HX.out (Nat.le_refl _) hm)
          have HY := HYN
          have HX := Lib.hid hx
          clear hx hm HYN
          have k0 := HRX.out.row.cell (i := 0) rfl
          have k1 := HRX.out.row.cell (i := 1) rfl
          have k2 := HRX.out.row.cell (i := 2) rfl
          go_wp2_with fail
          have hS := c_same HX.out HRX.out.v (by omega) (by omega)
          unfold refV at hS
          refine hS.mono ?_
          clear hS k0 k1 k2
          rintro e ws ⟨rfl, bs⟩
          have HRX := Lib.hid (HRX.out.below bs)
          have HB := Lib.hid (bBel HB.out HX.out (Nat.le_refl _) bs)
          have HX := Lib.hid (HX.out.below bs)
          have HY := Lib.hid (HY.out.below bs)
          clear bs
          go_wp2_with fail
          refine (c_known20 _).mono ?_
          rintro e w' ⟨rfl, bk⟩
          have HB := Lib.hid (bBel HB.out HX.out (Nat.le_refl _) bk)
          clear bk
          go_wp2
          go_ret
          exact ⟨rfl, by rw [HM.out]; exact HB.out⟩

end Go.Proofs.Ytbkaafbkmcgfjaa
