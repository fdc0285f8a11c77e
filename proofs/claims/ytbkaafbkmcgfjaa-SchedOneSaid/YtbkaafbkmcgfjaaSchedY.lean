/-
  The document's answer of chapter 20: made. (Written by rmadegen.py.)
-/
import Derived.Test.YtbkaafbkmcgfjaaSchedX
namespace Go.Proofs.Ytbkaafbkmcgfjaa
open Go.RowKit
set_option linter.unusedVariables false
set_option maxHeartbeats 4000000
set_option maxRecDepth 20000

/-- The frame of a function of the document's: its state in a cell of its own, and the result's cell. -/
structure Fr (w W : World) (q0 q1 : Nat) (b1 : Option Addr) (d1 : Nat) (a2 : Option Addr) (c2 : Nat) (y : RS) : Prop where
  r0 : Row W q0 41 (refC b1 d1 a2 c2 y)
  r1 : Row W q1 41 [.slice none 0 0, .slice none 0 0, .int .i64 0]
  v : RefV W b1 d1 a2 c2 y
  o : Off b1 a2 y [q0, q1]
  b : Below q0 w W
  q : q0 = w.heap.size
  q' : q0 < q1
theorem Fr.start {w : World} {a1 a2 : Option Addr} {c1 c2 : Nat} {x : RS} (h : RefV w a1 c1 a2 c2 x) :
    Fr w ((w.alloc (.cells #[.slice a1 x.P.length c1, .slice a2 x.sems.length c2, .int .i64 x.now] 41)).alloc (.cells #[.slice none 0 0, .slice none 0 0, .int .i64 0] 41)) w.heap.size (w.heap.size + 1) a1 c1 a2 c2 x := by
  have hb : Below w.heap.size w ((w.alloc (.cells #[.slice a1 x.P.length c1, .slice a2 x.sems.length c2, .int .i64 x.now] 41)).alloc (.cells #[.slice none 0 0, .slice none 0 0, .int .i64 0] 41)) := ((Below.refl _ _).alloc (Nat.le_refl _) _).alloc (by simp) _
  refine ⟨(Row.made w (refC a1 c1 a2 c2 x) 41).alloc _, ?_, h.below hb, h.off (fun k hk => by simp at hk; omega), hb, rfl, by omega⟩
  have := Row.made (w.alloc (.cells #[.slice a1 x.P.length c1, .slice a2 x.sems.length c2, .int .i64 x.now] 41)) [.slice none 0 0, .slice none 0 0, .int .i64 0] 41
  simpa using this
theorem Fr.below {w W W' : World} {q0 q1 d1 c2 : Nat} {b1 a2 : Option Addr} {y : RS} (h : Fr w W q0 q1 b1 d1 a2 c2 y) (hb : Below W.heap.size W W') : Fr w W' q0 q1 b1 d1 a2 c2 y :=
  ⟨h.r0.keep (l := []) (.of_below hb) (by simp), h.r1.keep (l := []) (.of_below hb) (by simp), h.v.below hb, h.o, h.b.trans (hb.mono (by rw [h.q]; exact h.b.size)), h.q, h.q'⟩
/-- The state's cell is written: another list of processes. -/
theorem Fr.store {w W W' : World} {q0 q1 d1 c2 g c4 : Nat} {b1 a2 : Option Addr} {y z : RS} (h : Fr w W q0 q1 b1 d1 a2 c2 y) (hb : Below W.heap.size W W') (hg : W.heap.size ≤ g) (hv : RefV W' (some ⟨g, 0, none⟩) c4 a2 c2 z) (hs : z.sems = y.sems) :
    Fr w (((W'.setCell ⟨q0, 0, none⟩ (.slice (some ⟨g, 0, none⟩) z.P.length c4)).setCell ⟨q0, 1, none⟩ (.slice a2 z.sems.length c2)).setCell ⟨q0, 2, none⟩ (.int .i64 z.now)) q0 q1 (some ⟨g, 0, none⟩) c4 a2 c2 z := by
  have h2 := h.below hb
  have U5 : Upd [q0] W' (((W'.setCell ⟨q0, 0, none⟩ (.slice (some ⟨g, 0, none⟩) z.P.length c4)).setCell ⟨q0, 1, none⟩ (.slice a2 z.sems.length c2)).setCell ⟨q0, 2, none⟩ (.int .i64 z.now)) := (((Upd.refl [q0] _).setCell (by simp) _).setCell (by simp) _).setCell (by simp) _
  have OFF : Off (some ⟨g, 0, none⟩) a2 z [q0, q1] := ⟨fun _ u hu hm => by
    cases hu
    have h1 := h.r1.lt
    have h3 := h.q
    have h4 := h.q'
    simp at hm
    omega, fun hp u hu hm => h.o.2 (by rw [← hs]; exact hp) u hu hm⟩
  refine ⟨((h2.r0.set 0 _).set 1 _).set 2 _, h2.r1.keep U5 (by simp; have := h.q; have := h.q'; omega), hv.keep U5 ⟨fun hp u hu hm => OFF.1 hp u hu (by simp at hm; simp [hm]), fun hp u hu hm => OFF.2 hp u hu (by simp at hm; simp [hm])⟩, OFF,
    h2.b.trans (U5.below (by rw [h.q]; exact h2.b.size) (fun u hu => by simp at hu; omega)), h.q, h.q'⟩

/-- The result's cell is written, and read. -/
structure Fin (w W : World) (q1 : Nat) (b1 : Option Addr) (d1 : Nat) (a2 : Option Addr) (c2 : Nat) (y : RS) : Prop where
  r : Row W q1 41 (refC b1 d1 a2 c2 y)
  v : RefV W b1 d1 a2 c2 y
  b : Below w.heap.size w W
theorem Fr.fin {w W W' : World} {q0 q1 d1 c2 : Nat} {b1 a2 : Option Addr} {y z : RS} {b' a' : Option Addr} {d' c' : Nat} (h : Fr w W q0 q1 b1 d1 a2 c2 y) (hb : Below W.heap.size W W') (hv : RefV W' b' d' a' c' z) (ho : Off b' a' z [q0, q1]) :
    Fin w (((W'.setCell ⟨q1, 0, none⟩ (.slice b' z.P.length d')).setCell ⟨q1, 1, none⟩ (.slice a' z.sems.length c')).setCell ⟨q1, 2, none⟩ (.int .i64 z.now)) q1 b' d' a' c' z := by
  have h2 := h.below hb
  have U5 : Upd [q1] W' (((W'.setCell ⟨q1, 0, none⟩ (.slice b' z.P.length d')).setCell ⟨q1, 1, none⟩ (.slice a' z.sems.length c')).setCell ⟨q1, 2, none⟩ (.int .i64 z.now)) := (((Upd.refl [q1] _).setCell (by simp) _).setCell (by simp) _).setCell (by simp) _
  refine ⟨((h2.r1.set 0 _).set 1 _).set 2 _, hv.keep U5 ⟨fun hp u hu hm => ho.1 hp u hu (by simp at hm; simp [hm]), fun hp u hu hm => ho.2 hp u hu (by simp at hm; simp [hm])⟩, ?_⟩
  rw [← h.q]
  exact h2.b.trans (U5.below (by rw [h.q]; exact h2.b.size) (fun u hu => by have := h.q; have := h.q'; simp at hu; omega))
theorem Fr.off {w W : World} {q0 q1 d1 c2 g : Nat} {b1 a2 : Option Addr} {y z : RS} (h : Fr w W q0 q1 b1 d1 a2 c2 y) (hg : W.heap.size ≤ g) (hs : z.sems = y.sems) : Off (some ⟨g, 0, none⟩) a2 z [q0, q1] :=
  ⟨fun _ u hu hm => by
    cases hu
    have h1 := h.r1.lt
    have h3 := h.q
    have h4 := h.q'
    simp at hm
    omega, fun hp u hu hm => h.o.2 (by rw [← hs]; exact hp) u hu hm⟩

theorem c_rPut' {w : World} {a1 a2 : Option Addr} {c1 c2 : Nat} {x : RS} (h : RefV w a1 c1 a2 c2 x) (hn : x.P.length ≤ 100) (hnow : x.now ≤ 1000000) (k wv : Nat) (hk : k < x.P.length) (hwv : wv ≤ 200) (wi : Int) (hwi : (wv : Int) = wi) :
    Calls Try.prog 38 #[.agg #[.slice a1 x.P.length c1, .slice a2 x.sems.length c2, .int .i64 x.now], .int .i64 ((k : Int) + 1), .int .i64 wi] w (fun e w' => ∃ g c4, e = .returned (.agg #[.slice (some ⟨g, 0, none⟩) (putR x k wv).P.length c4, .slice a2 (putR x k wv).sems.length c2, .int .i64 (putR x k wv).now]) ∧ RefV w' (some ⟨g, 0, none⟩) c4 a2 c2 (putR x k wv) ∧ Below w.heap.size w w' ∧ w.heap.size ≤ g) := by
  subst hwi
  exact c_rPut h hn hnow k wv hk hwv

theorem c_rMade {w : World} {a1 a2 : Option Addr} {c1 c2 : Nat} {x : RS} (h : RefV w a1 c1 a2 c2 x) (hn : x.P.length ≤ 100) (hnow : x.now ≤ 999000) (k : Nat) (hk : k < x.P.length) :
    Calls Try.prog 36 #[refV a1 c1 a2 c2 x, .int .i64 ((k : Int) + 1)] w (RPost a1 a2 c2 (madeR x k) w) := by
  obtain ⟨W, hW⟩ : ∃ W, W = (w.alloc (.cells #[.slice a1 x.P.length c1, .slice a2 x.sems.length c2, .int .i64 x.now] 41)).alloc (.cells #[.slice none 0 0, .slice none 0 0, .int .i64 0] 41) := ⟨_, rfl⟩
  have hF := Fr.start h
  rw [← hW] at hF
  have HW := Lib.hid hW
  obtain ⟨q0, hq0⟩ : ∃ q, q = w.heap.size := ⟨_, rfl⟩
  obtain ⟨q1, hq1⟩ : ∃ q, q = w.heap.size + 1 := ⟨_, rfl⟩
  have HQ0 := Lib.hid hq0
  have HQ1 := Lib.hid hq1
  rw [← hq1, ← hq0] at hF
  have HF := Lib.hid hF
  clear h hW hF hq0 hq1
  obtain ⟨y, hy⟩ : ∃ y, y = putR x k 2 := ⟨_, rfl⟩
  have HY := Lib.hid hy
  have hyn : y.P.length ≤ 100 := by rw [hy, put_len]; exact hn
  have hynow : y.now ≤ 999001 := by rw [hy]; show x.now + 1 ≤ _; omega
  have hky : k < y.P.length := by rw [hy, put_len]; exact hk
  clear hy
  unfold refV
  have HPT := Lib.hid (c_rPut' HF.out.v hn (by omega) k 2 hk (by omega) 2 rfl)
  have HMD := Lib.hid (show madeR x k = if actR y = 0 then putR y k 1 else if (gP y k).pr > (gP y (actR y - 1)).pr then putR (putR y (actR y - 1) 2) k 1 else y from by rw [HY.out]; rfl)
  rw [← HY.out] at HPT
  go_enter Try.func36, Try.ntmps36
  go_wp2_with fail
  rw [← HW.out, ← HQ1.out, ← HQ0.out]
  refine HPT.out.mono ?_
  rintro e v1 ⟨g1', e1', rfl, hv, hb, hg⟩
  have HGG := Lib.hid (show w.heap.size ≤ g1' from Nat.le_trans HF.out.b.size hg)
  have HF1 := Lib.hid (HF.out.store hb hg hv (by rw [HY.out]; rfl))
  have HF := Lib.hid (HF.out.below hb)
  have k0 := HF.out.r0.cell (i := 0) rfl
  have k1 := HF.out.r0.cell (i := 1) rfl
  have k2 := HF.out.r0.cell (i := 2) rfl
  have f0 := HF.out.r0.free 0
  have f1 := HF.out.r0.free 1
  have f2 := HF.out.r0.free 2
  have HA := Lib.hid (c_rActive HF1.out.v hyn)
  unfold refV at HA
  clear hv hb hg HPT
  go_wp2_with fail
  obtain ⟨v2, hv2⟩ : ∃ zw, zw = ((v1.setCell ⟨q0, 0, none⟩ (.slice (some ⟨g1', 0, none⟩) (y).P.length e1')).setCell ⟨q0, 1, none⟩ (.slice a2 (y).sems.length c2)).setCell ⟨q0, 2, none⟩ (.int .i64 (y).now) := ⟨_, rfl⟩
  rw [← hv2] at HF1 HA ⊢
  clear hv2
  clear k0 k1 k2 f0 f1 f2
  have HF := Lib.hid HF1.out
  clear HF1
  refine HA.out.mono ?_
  rintro e v3 ⟨rfl, b3⟩
  have HF := Lib.hid (HF.out.below b3)
  clear b3 HA
  by_cases ha : actR y = 0
  · rw [ha]
    have HRES : Hid (madeR x k = putR y k 1) := by unfold Hid; rw [HMD.out, if_pos ha]
    have HPT := Lib.hid (c_rPut' HF.out.v hyn (by omega) k 1 hky (by omega) 1 rfl)
    have HLS := Lib.hid (show (putR y k 1).sems = y.sems from rfl)
    clear ha
    have k0 := HF.out.r0.cell (i := 0) rfl
    have k1 := HF.out.r0.cell (i := 1) rfl
    have k2 := HF.out.r0.cell (i := 2) rfl
    go_wp2_with fail
    refine HPT.out.mono ?_
    rintro e v4 ⟨g4, e4, rfl, hv, hb, hg⟩
    have HGG := Lib.hid (show w.heap.size ≤ g4 from Nat.le_trans HF.out.b.size hg)
    have hoff := HF.out.off hg HLS.out
    have HFF := Lib.hid HF.out
    have HF := Lib.hid (HF.out.below hb)
    clear k0 k1 k2
    generalize putR y k 1 = z at *
    have y0 := HF.out.r1.cell (i := 0) rfl
    have y1 := HF.out.r1.cell (i := 1) rfl
    have y2 := HF.out.r1.cell (i := 2) rfl
    have g0 := HF.out.r1.free 0
    have g1 := HF.out.r1.free 1
    have g2 := HF.out.r1.free 2
    go_wp2
    obtain ⟨w9, hw9⟩ : ∃ zw, zw = ((v4.setCell ⟨q1, 0, none⟩ (.slice (some ⟨g4, 0, none⟩) (z).P.length e4)).setCell ⟨q1, 1, none⟩ (.slice a2 (z).sems.length c2)).setCell ⟨q1, 2, none⟩ (.int .i64 (z).now) := ⟨_, rfl⟩
    have fin := HF.out.fin (b' := (some ⟨g4, 0, none⟩)) (d' := e4) (z := z) (Below.refl _ _) hv hoff
    rw [← hw9] at fin ⊢
    have HFI := Lib.hid fin
    have z0 := fin.r.cell (i := 0) rfl
    have z1 := fin.r.cell (i := 1) rfl
    have z2 := fin.r.cell (i := 2) rfl
    clear hw9 fin
    (try simp only [Exit.inBlock, Exit.then])
    refine bodyPost_ret (by rw [results_cell20 rfl]; go_simp; rfl) rfl ?_
    rw [HRES.out]
    exact ⟨_, _, rfl, HFI.out.v, HFI.out.b, .inr ⟨_, rfl, HGG.out⟩⟩
  · obtain ⟨a, haa⟩ : ∃ a, actR y = a + 1 := ⟨actR y - 1, by omega⟩
    have hay : a < y.P.length ∧ (gP y a).wh = 1 := by
      rcases act_cases y with ⟨h0, _⟩ | ⟨a', h1, h2, h3⟩
      · exact absurd h0 ha
      · obtain rfl : a = a' := by omega
        exact ⟨h1, h2⟩
    have hal := hay.1
    have hM := HMD.out
    rw [if_neg ha, haa, Nat.add_sub_cancel] at hM
    have HM := Lib.hid hM
    rw [haa, show ((a + 1 : Nat) : Int) = (a : Int) + 1 from by omega]
    have hneF : ((a : Int) + 1 = 0) = False := eq_false (by omega)
    have hneb : (((a : Int) + 1) == 0) = false := by simp; omega
    have e1 : (a : Int) + 1 - 1 = a := by omega
    have e2 : (k : Int) + 1 - 1 = k := by omega
    obtain ⟨pb, po, hb1, hpb, hpc⟩ := HF.out.v.at (by omega)
    have p1 := (hpc k hky).1
    have p2 := (hpc a hal).1
    generalize (gP y k).pr = pk at *
    generalize (gP y a).pr = pa at *
    clear ha haa hay hM hpc
    have k0 := HF.out.r0.cell (i := 0) rfl
    have k1 := HF.out.r0.cell (i := 1) rfl
    have k2 := HF.out.r0.cell (i := 2) rfl
    rw [hb1] at k0
    have HB1 := Lib.hid hb1
    clear hb1
    go_wp2_with fail
    refine wp_region_planH (fun z => z.cell? ⟨q0, 0, none⟩ = some (.slice (some ⟨pb, po, none⟩) y.P.length e1') ∧ z.cell? ⟨pb, po + k * 3, none⟩ = some (.int .i64 pk) ∧ z.cell? ⟨pb, po + a * 3, none⟩ = some (.int .i64 pa)) [(0, true), (1, true), (2, true), (3, true), (4, true), (5, true), (6, true), (7, true), (8, true), (9, true), (10, true), (11, true), (12, true), (13, true), (14, true)] (by kernel_rfl) (by kernel_rfl) (fun _ _ _ _ _ h => h) ⟨k0, p1, p2⟩ ?_
    (repeat (refine wpPlanH_free rfl (fun K hK => ?_); go_simp; (try go_bits); refine hK _ ?_; clear hK K))
    refine wpPlanH_load (.slice (some ⟨pb, po, none⟩) y.P.length e1') rfl rfl (fun x hS => by obtain ⟨s0, s1, s2⟩ := hS; go_simp) (fun K hK => ?_)
    refine hK _ ?_
    clear hK K
    (repeat (refine wpPlanH_free rfl (fun K hK => ?_); go_simp; (try go_bits); refine hK _ ?_; clear hK K))
    refine wpPlanH_load (.int .i64 pk) rfl rfl (fun x hS => by obtain ⟨s0, s1, s2⟩ := hS; go_simp) (fun K hK => ?_)
    refine hK _ ?_
    clear hK K
    (repeat (refine wpPlanH_free rfl (fun K hK => ?_); go_simp; (try go_bits); refine hK _ ?_; clear hK K))
    refine wpPlanH_load (.slice (some ⟨pb, po, none⟩) y.P.length e1') rfl rfl (fun x hS => by obtain ⟨s0, s1, s2⟩ := hS; go_simp) (fun K hK => ?_)
    refine hK _ ?_
    clear hK K
    (repeat (refine wpPlanH_free rfl (fun K hK => ?_); go_simp; (try go_bits); refine hK _ ?_; clear hK K))
    refine wpPlanH_load (.int .i64 pa) rfl rfl (fun x hS => by obtain ⟨s0, s1, s2⟩ := hS; go_simp) (fun K hK => ?_)
    refine hK _ ?_
    clear hK K
    (repeat (refine wpPlanH_free rfl (fun K hK => ?_); go_simp; (try go_bits); refine hK _ ?_; clear hK K))
    refine wpPlanH_nil ?_
    have hFd : Fr w v3.drew q0 q1 _ _ a2 c2 y := HF.out.below (bDrew (Below.refl _ _))
    generalize v3.drew = vd at *
    have HF := Lib.hid hFd
    clear hFd k0 k1 k2 p1 p2
    by_cases hc : pk > pa
    · have HRES : Hid (madeR x k = putR (putR y a 2) k 1) := by unfold Hid; rw [HM.out, if_pos hc]
      have hc1 : (pa : Int) < (pk : Int) := by omega
      obtain ⟨z, hz⟩ : ∃ z, z = putR y a 2 := ⟨_, rfl⟩
      have hzn : z.P.length ≤ 100 := by rw [hz, put_len]; exact hyn
      have hznow : z.now ≤ 999002 := by rw [hz]; show y.now + 1 ≤ _; omega
      have hkz : k < z.P.length := by rw [hz, put_len]; exact hky
      have hzs : z.sems = y.sems := by rw [hz]; rfl
      have HPT := Lib.hid (c_rPut' HF.out.v hyn (by omega) a 2 hal (by omega) 2 rfl)
      rw [← hz] at HPT HRES
      have HZS := Lib.hid hzs
      clear hz hc hzs
      have k0 := HF.out.r0.cell (i := 0) rfl
      have k1 := HF.out.r0.cell (i := 1) rfl
      have k2 := HF.out.r0.cell (i := 2) rfl
      go_wp2_with fail
      refine HPT.out.mono ?_
      rintro e v4 ⟨g4, e4, rfl, hv, hb, hg⟩
      have HF1 := Lib.hid (HF.out.store hb hg hv HZS.out)
      have HF := Lib.hid (HF.out.below hb)
      clear k0 k1 k2
      have k0 := HF.out.r0.cell (i := 0) rfl
      have k1 := HF.out.r0.cell (i := 1) rfl
      have k2 := HF.out.r0.cell (i := 2) rfl
      have f0 := HF.out.r0.free 0
      have f1 := HF.out.r0.free 1
      have f2 := HF.out.r0.free 2
      have HPT := Lib.hid (c_rPut' HF1.out.v hzn (by omega) k 1 hkz (by omega) 1 rfl)
      clear hv hb hg
      go_wp2_with fail
      obtain ⟨v5, hv5⟩ : ∃ zw, zw = ((v4.setCell ⟨q0, 0, none⟩ (.slice (some ⟨g4, 0, none⟩) (z).P.length e4)).setCell ⟨q0, 1, none⟩ (.slice a2 (z).sems.length c2)).setCell ⟨q0, 2, none⟩ (.int .i64 (z).now) := ⟨_, rfl⟩
      rw [← hv5] at HF1 HPT ⊢
      clear hv5
      clear k0 k1 k2 f0 f1 f2
      have HF := Lib.hid HF1.out
      clear HF1
      refine HPT.out.mono ?_
      rintro e v6 ⟨g6, e6, rfl, hv, hb, hg⟩
      have HGG := Lib.hid (show w.heap.size ≤ g6 from Nat.le_trans HF.out.b.size hg)
      have HLS := Lib.hid (show (putR z k 1).sems = z.sems from rfl)
      have hoff := HF.out.off hg HLS.out
      have HF := Lib.hid (HF.out.below hb)
      generalize putR z k 1 = z3 at *
      have y0 := HF.out.r1.cell (i := 0) rfl
      have y1 := HF.out.r1.cell (i := 1) rfl
      have y2 := HF.out.r1.cell (i := 2) rfl
      have g0 := HF.out.r1.free 0
      have g1 := HF.out.r1.free 1
      have g2 := HF.out.r1.free 2
      go_wp2
      obtain ⟨w9, hw9⟩ : ∃ zw, zw = ((v6.setCell ⟨q1, 0, none⟩ (.slice (some ⟨g6, 0, none⟩) (z3).P.length e6)).setCell ⟨q1, 1, none⟩ (.slice a2 (z3).sems.length c2)).setCell ⟨q1, 2, none⟩ (.int .i64 (z3).now) := ⟨_, rfl⟩
      have fin := HF.out.fin (b' := (some ⟨g6, 0, none⟩)) (d' := e6) (z := z3) (Below.refl _ _) hv hoff
      rw [← hw9] at fin ⊢
      have HFI := Lib.hid fin
      have z0 := fin.r.cell (i := 0) rfl
      have z1 := fin.r.cell (i := 1) rfl
      have z2 := fin.r.cell (i := 2) rfl
      clear hw9 fin
      (try simp only [Exit.inBlock, Exit.then])
      refine bodyPost_ret (by rw [results_cell20 rfl]; go_simp; rfl) rfl ?_
      rw [HRES.out]
      exact ⟨_, _, rfl, HFI.out.v, HFI.out.b, .inr ⟨_, rfl, HGG.out⟩⟩
    · have HRES : Hid (madeR x k = y) := by unfold Hid; rw [HM.out, if_neg hc]
      have hc1 : ¬ (pa : Int) < (pk : Int) := by omega
      have hc2 : ¬ pa < pk := by omega
      clear hc
      have k0 := HF.out.r0.cell (i := 0) rfl
      have k1 := HF.out.r0.cell (i := 1) rfl
      have k2 := HF.out.r0.cell (i := 2) rfl
      have y0 := HF.out.r1.cell (i := 0) rfl
      have y1 := HF.out.r1.cell (i := 1) rfl
      have y2 := HF.out.r1.cell (i := 2) rfl
      have g0 := HF.out.r1.free 0
      have g1 := HF.out.r1.free 1
      have g2 := HF.out.r1.free 2
      go_wp2
      obtain ⟨w9, hw9⟩ : ∃ zw, zw = ((vd.setCell ⟨q1, 0, none⟩ (.slice (some ⟨g1', 0, none⟩) (y).P.length e1')).setCell ⟨q1, 1, none⟩ (.slice a2 (y).sems.length c2)).setCell ⟨q1, 2, none⟩ (.int .i64 (y).now) := ⟨_, rfl⟩
      have fin := HF.out.fin (b' := (some ⟨g1', 0, none⟩)) (d' := e1') (z := y) (Below.refl _ _) HF.out.v HF.out.o
      rw [← hw9] at fin ⊢
      have HFI := Lib.hid fin
      have z0 := fin.r.cell (i := 0) rfl
      have z1 := fin.r.cell (i := 1) rfl
      have z2 := fin.r.cell (i := 2) rfl
      clear hw9 fin
      (try simp only [Exit.inBlock, Exit.then])
      refine bodyPost_ret (by rw [results_cell20 rfl]; go_simp; rfl) rfl ?_
      rw [HRES.out]
      exact ⟨_, _, rfl, HFI.out.v, HFI.out.b, .inr ⟨_, rfl, HGG.out⟩⟩

end Go.Proofs.Ytbkaafbkmcgfjaa
