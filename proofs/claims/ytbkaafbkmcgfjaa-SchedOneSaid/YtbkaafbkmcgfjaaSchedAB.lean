/-
  The document's answer of chapter 20: Step, the rest. (Written by rstepgen2.py.)
-/
import Derived.Test.YtbkaafbkmcgfjaaSchedAA
import Derived.Test.YtbkaafbkmcgfjaaPlanU
namespace Go.Proofs.Ytbkaafbkmcgfjaa
open Go.RowKit
set_option linter.unusedVariables false
set_option maxHeartbeats 8000000
set_option maxRecDepth 20000

theorem cellU {l : List Nat} {w w' : World} {a : Addr} {v : Value} (u : Upd l w w') (h : w.cell? a = some v) (hn : a.block ∉ l) : w'.cell? a = some v :=
  (World.cell?_of_block (u.block a.block (World.block_lt_of_cell? w a h) hn)).trans h
theorem some_grow {a : Option Addr} {g n m : Nat} (h : a = some ⟨g, 0, none⟩ ∨ ∃ g', a = some ⟨g', 0, none⟩ ∧ m ≤ g') (hg : n ≤ g) (hm : n ≤ m) : ∃ g', a = some ⟨g', 0, none⟩ ∧ n ≤ g' := by
  rcases h with h | ⟨g', h, h2⟩
  · exact ⟨g, h, hg⟩
  · exact ⟨g', h, by omega⟩

section
variable {w : World} {a1 a2 : Option Addr} {c1 c2 : Nat} {x : RS}
theorem st_3d (h : RefV w a1 c1 a2 c2 x) (hn : x.P.length ≤ 100) (hm : x.sems.length ≤ 100) (hnow : x.now ≤ 990000) (j : Nat) (A : Int) (hA : ((actR x : Nat) : Int) = A) (hj : j < x.P.length) (hw : (gP x j).wh ≠ 0) (hms : (suspR x j).sems = x.sems) :
    Calls Try.prog 22 #[refV a1 c1 a2 c2 x, .agg #[.int .i64 (3), .int .i64 ((j : Int) + 1)]] w (StPost a1 a2 (suspR x j) 0 0 w) := by
  obtain ⟨W, hW⟩ : ∃ W, W = ((w.alloc (.cells #[.slice a1 x.P.length c1, .slice a2 x.sems.length c2, .int .i64 x.now] 41)).alloc (.cells #[.int .i64 (3), .int .i64 ((j : Int) + 1)] 44)).alloc (.cells #[.slice none 0 0, .slice none 0 0, .int .i64 0] 41) := ⟨_, rfl⟩
  have hF := Fr.start3 h (3) ((j : Int) + 1)
  have hD : Row W (w.heap.size + 1) 44 [.int .i64 (3), .int .i64 ((j : Int) + 1)] := by
    rw [hW]
    have := (Row.made (w.alloc (.cells #[.slice a1 x.P.length c1, .slice a2 x.sems.length c2, .int .i64 x.now] 41)) [.int .i64 (3), .int .i64 ((j : Int) + 1)] 44).alloc (.cells #[.slice none 0 0, .slice none 0 0, .int .i64 0] 41)
    simpa using this
  rw [← hW] at hF
  have HW := Lib.hid hW
  obtain ⟨q0, hq0⟩ : ∃ q, q = w.heap.size := ⟨_, rfl⟩
  obtain ⟨qd, hqd⟩ : ∃ q, q = w.heap.size + 1 := ⟨_, rfl⟩
  obtain ⟨q1, hq1⟩ : ∃ q, q = w.heap.size + 2 := ⟨_, rfl⟩
  have HQ0 := Lib.hid hq0
  have HQ1 := Lib.hid hq1
  have HQD := Lib.hid hqd
  rw [← hq1, ← hq0] at hF
  rw [← hqd] at hD
  have HF := Lib.hid hF
  have HD := Lib.hid hD
  have HA := Lib.hid (c_rActive hF.v hn)
  unfold refV at HA
  rw [hA] at HA
  clear h hW hF hD hq0 hq1 hqd
  unfold refV
  go_enter Try.func22, Try.ntmps22
  go_wp2_with fail
  rw [← HW.out, ← HQ1.out, ← HQD.out, ← HQ0.out]
  refine HA.out.mono ?_
  rintro e v3 ⟨rfl, b3⟩
  have HF := Lib.hid (HF.out.below b3)
  have HD := Lib.hid (HD.out.keep (l := []) (.of_below b3) (by simp))
  clear b3 HA
  have HZL := Lib.hid (show 0 < (suspR x j).P.length from by rw [suspR_len]; omega)
  have HMS := Lib.hid hms
  clear hms
  have e1 : (j : Int) + 1 - 1 = j := by omega
  obtain ⟨pb, po, rfl, hpb, hpc⟩ := HF.out.v.at (by omega)
  have p1 := (hpc j hj).2.1
  generalize (gP x j).wh = y at *
  have hyN : (y = 0) = False := eq_false hw
  have hyF : ((y : Int) = 0) = False := eq_false (by omega)
  have hyb : ((y : Int) == 0) = false := by simp; omega
  clear hpc hw
  have k0 := HF.out.r0.cell (i := 0) rfl
  have k1 := HF.out.r0.cell (i := 1) rfl
  have k2 := HF.out.r0.cell (i := 2) rfl
  have d0 := HD.out.cell (i := 0) rfl
  have d1 := HD.out.cell (i := 1) rfl
  go_wp2_with fail
  refine wp_region_planH (fun z => z.cell? ⟨q0, 0, none⟩ = some (.slice (some ⟨pb, po, none⟩) x.P.length c1) ∧ z.cell? ⟨qd, 0, none⟩ = some (.int .i64 3) ∧ z.cell? ⟨qd, 1, none⟩ = some (.int .i64 ((j : Int) + 1)) ∧ z.cell? ⟨pb, po + j * 3 + 1, none⟩ = some (.int .i64 y)) [(0, true), (1, true), (2, true), (3, true), (4, true), (5, true), (6, true), (7, true), (8, true), (9, true), (10, true), (11, true), (12, true)] (by kernel_rfl) (by kernel_rfl) (fun _ _ _ _ _ h => h) ⟨k0, d0, d1, p1⟩ ?_
  (repeat (refine wpPlanH_free rfl (fun K hK => ?_); go_simp; (try go_bits); refine hK _ ?_; clear hK K))
  refine wpPlanH_load (.slice (some ⟨pb, po, none⟩) x.P.length c1) rfl rfl (fun x hS => by obtain ⟨s0, s1, s2, s3⟩ := hS; go_simp) (fun K hK => ?_)
  refine hK _ ?_
  clear hK K
  (repeat (refine wpPlanH_free rfl (fun K hK => ?_); go_simp; (try go_bits); refine hK _ ?_; clear hK K))
  refine wpPlanH_load (.int .i64 ((j : Int) + 1)) rfl rfl (fun x hS => by obtain ⟨s0, s1, s2, s3⟩ := hS; go_simp) (fun K hK => ?_)
  refine hK _ ?_
  clear hK K
  (repeat (refine wpPlanH_free rfl (fun K hK => ?_); go_simp; (try go_bits); refine hK _ ?_; clear hK K))
  refine wpPlanH_load (.int .i64 y) rfl rfl (fun x hS => by obtain ⟨s0, s1, s2, s3⟩ := hS; go_simp) (fun K hK => ?_)
  refine hK _ ?_
  clear hK K
  (repeat (refine wpPlanH_free rfl (fun K hK => ?_); go_simp; (try go_bits); refine hK _ ?_; clear hK K))
  refine wpPlanH_load (.int .i64 3) rfl rfl (fun x hS => by obtain ⟨s0, s1, s2, s3⟩ := hS; go_simp) (fun K hK => ?_)
  refine hK _ ?_
  clear hK K
  (repeat (refine wpPlanH_free rfl (fun K hK => ?_); go_simp; (try go_bits); refine hK _ ?_; clear hK K))
  refine wpPlanH_nil ?_
  have hFd : Fr w v3.drew q0 q1 _ _ _ _ _ := HF.out.below (bDrew (Below.refl _ _))
  have hDd : Row v3.drew qd 44 _ := HD.out.keep (l := []) (.of_below (bDrew (Below.refl _ v3))) (by simp)
  generalize v3.drew = vd at *
  have HF := Lib.hid hFd
  have HD := Lib.hid hDd
  clear p1 hFd hDd k0 k1 k2 d0 d1
  have HPT := Lib.hid (c_rPut' HF.out.v hn (by omega) j (0) hj (by omega) (0) (by omega))
  have k0 := HF.out.r0.cell (i := 0) rfl
  have k1 := HF.out.r0.cell (i := 1) rfl
  have k2 := HF.out.r0.cell (i := 2) rfl
  have d0 := HD.out.cell (i := 0) rfl
  have d1 := HD.out.cell (i := 1) rfl
  go_wp2_with fail
  refine HPT.out.mono ?_
  rintro e v4 ⟨g4, e4, rfl, hv, hb, hg⟩
  have hNX := c_rNext hv (by rw [put_len]; exact hn) (by show x.now + 1 ≤ _; omega)
  unfold refV at hNX
  have HNX := Lib.hid hNX
  clear hNX
  go_wp2_with fail
  refine HNX.out.mono ?_
  rintro e v5 ⟨b5, e5, rfl, hv5, hb5, hbg⟩
  obtain ⟨g5, rfl, hg5⟩ := some_grow hbg hg hb.size
  have HGG := Lib.hid (show w.heap.size ≤ g5 from Nat.le_trans HF.out.b.size hg5)
  have hb45 := bNext hb hb5
  clear HPT HNX hv hb hb5 hg hbg k0 k1 k2 d0 d1
  unfold refV
  have hoff := HF.out.off hg5 HMS.out
  have HF := Lib.hid (HF.out.below hb45)
  have hv5 : RefV v5 (some ⟨g5, 0, none⟩) e5 a2 c2 (suspR x j) := hv5
  have y0 := HF.out.r1.cell (i := 0) rfl
  have y1 := HF.out.r1.cell (i := 1) rfl
  have y2 := HF.out.r1.cell (i := 2) rfl
  have g0 := HF.out.r1.free 0
  have g1 := HF.out.r1.free 1
  have g2 := HF.out.r1.free 2
  rw [show nextR (putR x j 0) = suspR x j from rfl]
  generalize suspR x j = z at *
  go_wp2
  obtain ⟨w9, hw9⟩ : ∃ zw, zw = ((v5.setCell ⟨q1, 0, none⟩ (.slice (some ⟨g5, 0, none⟩) ((z).P.length) e5)).setCell ⟨q1, 1, none⟩ (.slice a2 ((z).sems.length) c2)).setCell ⟨q1, 2, none⟩ (.int .i64 (z).now) := ⟨_, rfl⟩
  have fin := HF.out.fin (b' := (some ⟨g5, 0, none⟩)) (d' := e5) (a' := a2) (c' := c2) (z := z) (Below.refl _ _) hv5 hoff
  rw [← hw9] at fin ⊢
  have HFI := Lib.hid fin
  have hrr := fin.r
  have z0 := hrr.cell (i := 0) rfl
  have z1 := hrr.cell (i := 1) rfl
  have z2 := hrr.cell (i := 2) rfl
  clear hw9 fin hrr
  (try simp only [Exit.inBlock, Exit.then, Exit.noGoto])
  refine bodyPost_ret (by rw [results_cell3 rfl]; go_simp; rfl) rfl ?_
  exact ⟨_, _, _, _, rfl, HFI.out.v, HFI.out.b, fun y hy => .inr (by cases hy; exact ⟨HGG.out, HZL.out⟩), fun y hy => .inl hy⟩

theorem st_4b (h : RefV w a1 c1 a2 c2 x) (hn : x.P.length ≤ 100) (hm : x.sems.length ≤ 100) (hnow : x.now ≤ 990000) (n : Int) (a : Nat) (hA : ((actR x : Nat) : Int) = (a : Int) + 1) (ha : a < x.P.length) (hp8 : (gP x a).pr ≤ 8) (hL : atL x 2 (gP x a).pr = []) :
    Calls Try.prog 22 #[refV a1 c1 a2 c2 x, .agg #[.int .i64 (4), .int .i64 (n)]] w (StPost a1 a2 x 0 0 w) := by
  obtain ⟨W, hW⟩ : ∃ W, W = ((w.alloc (.cells #[.slice a1 x.P.length c1, .slice a2 x.sems.length c2, .int .i64 x.now] 41)).alloc (.cells #[.int .i64 (4), .int .i64 (n)] 44)).alloc (.cells #[.slice none 0 0, .slice none 0 0, .int .i64 0] 41) := ⟨_, rfl⟩
  have hF := Fr.start3 h (4) (n)
  have hD : Row W (w.heap.size + 1) 44 [.int .i64 (4), .int .i64 (n)] := by
    rw [hW]
    have := (Row.made (w.alloc (.cells #[.slice a1 x.P.length c1, .slice a2 x.sems.length c2, .int .i64 x.now] 41)) [.int .i64 (4), .int .i64 (n)] 44).alloc (.cells #[.slice none 0 0, .slice none 0 0, .int .i64 0] 41)
    simpa using this
  rw [← hW] at hF
  have HW := Lib.hid hW
  obtain ⟨q0, hq0⟩ : ∃ q, q = w.heap.size := ⟨_, rfl⟩
  obtain ⟨qd, hqd⟩ : ∃ q, q = w.heap.size + 1 := ⟨_, rfl⟩
  obtain ⟨q1, hq1⟩ : ∃ q, q = w.heap.size + 2 := ⟨_, rfl⟩
  have HQ0 := Lib.hid hq0
  have HQ1 := Lib.hid hq1
  have HQD := Lib.hid hqd
  rw [← hq1, ← hq0] at hF
  rw [← hqd] at hD
  have HF := Lib.hid hF
  have HD := Lib.hid hD
  have HA := Lib.hid (c_rActive hF.v hn)
  unfold refV at HA
  rw [hA] at HA
  clear h hW hF hD hq0 hq1 hqd
  unfold refV
  go_enter Try.func22, Try.ntmps22
  go_wp2_with fail
  rw [← HW.out, ← HQ1.out, ← HQD.out, ← HQ0.out]
  refine HA.out.mono ?_
  rintro e v3 ⟨rfl, b3⟩
  have HF := Lib.hid (HF.out.below b3)
  have HD := Lib.hid (HD.out.keep (l := []) (.of_below b3) (by simp))
  clear b3 HA
  have HL := Lib.hid hL
  clear hL
  have hne : ((a : Int) + 1 = 0) = False := eq_false (by omega)
  have hneb : (((a : Int) + 1) == 0) = false := by simp; omega
  have e1 : (a : Int) + 1 - 1 = a := by omega
  obtain ⟨pb, po, rfl, hpb, hpc⟩ := HF.out.v.at (by omega)
  have p1 := (hpc a ha).1
  have hAT := c_rAt (w := v3.drew) ((HF.out.below (bDrew (Below.refl _ v3))).v) hn (by omega) 2 (gP x a).pr hp8 (by omega)
  unfold refV at hAT
  rw [show ((2 : Nat) : Int) = 2 from rfl] at hAT
  have HAT := Lib.hid hAT
  clear hAT hpc
  generalize (gP x a).pr = pp at *
  have k0 := HF.out.r0.cell (i := 0) rfl
  have k1 := HF.out.r0.cell (i := 1) rfl
  have k2 := HF.out.r0.cell (i := 2) rfl
  have d0 := HD.out.cell (i := 0) rfl
  have d1 := HD.out.cell (i := 1) rfl
  go_wp2_with fail
  refine wp_region_planH (fun z => z.cell? ⟨q0, 0, none⟩ = some (.slice (some ⟨pb, po, none⟩) x.P.length c1) ∧ z.cell? ⟨q0, 1, none⟩ = some (.slice a2 x.sems.length c2) ∧ z.cell? ⟨q0, 2, none⟩ = some (.int .i64 x.now) ∧ z.cell? ⟨pb, po + a * 3, none⟩ = some (.int .i64 pp)) [(0, true), (1, true), (2, true), (3, true), (4, true), (5, true), (6, true), (7, true), (8, false), (9, true), (10, true)] (by kernel_rfl) (by kernel_rfl) (fun _ _ _ _ _ h => h) ⟨k0, k1, k2, p1⟩ ?_
  (repeat (refine wpPlanH_free rfl (fun K hK => ?_); go_simp; (try go_bits); refine hK _ ?_; clear hK K))
  refine wpPlanH_load (.agg #[.slice (some ⟨pb, po, none⟩) x.P.length c1, .slice a2 x.sems.length c2, .int .i64 x.now]) rfl rfl (fun x hS => by obtain ⟨s0, s1, s2, s3⟩ := hS; go_simp) (fun K hK => ?_)
  refine hK _ ?_
  clear hK K
  (repeat (refine wpPlanH_free rfl (fun K hK => ?_); go_simp; (try go_bits); refine hK _ ?_; clear hK K))
  refine wpPlanH_load (.slice (some ⟨pb, po, none⟩) x.P.length c1) rfl rfl (fun x hS => by obtain ⟨s0, s1, s2, s3⟩ := hS; go_simp) (fun K hK => ?_)
  refine hK _ ?_
  clear hK K
  (repeat (refine wpPlanH_free rfl (fun K hK => ?_); go_simp; (try go_bits); refine hK _ ?_; clear hK K))
  refine wpPlanH_load (.int .i64 pp) rfl rfl (fun x hS => by obtain ⟨s0, s1, s2, s3⟩ := hS; go_simp) (fun K hK => ?_)
  refine hK _ ?_
  clear hK K
  (repeat (refine wpPlanH_free rfl (fun K hK => ?_); go_simp; (try go_bits); refine hK _ ?_; clear hK K))
  refine wpPlanH_sole rfl ?_
  have HS : v3.drew.cell? ⟨q0, 0, none⟩ = some (.slice (some ⟨pb, po, none⟩) x.P.length c1) ∧ v3.drew.cell? ⟨q0, 1, none⟩ = some (.slice a2 x.sems.length c2) ∧ v3.drew.cell? ⟨q0, 2, none⟩ = some (.int .i64 x.now) ∧ v3.drew.cell? ⟨pb, po + a * 3, none⟩ = some (.int .i64 pp) := ⟨k0, k1, k2, p1⟩
  clear k0 k1 k2 d0 d1 p1
  go_wp2_with fail
  refine HAT.out.mono ?_
  rw [HL.out]
  rintro e v4 ⟨v, rfl, own, bel⟩
  obtain ⟨av, cv, rfl, -, -, -⟩ := owns_reads own
  have hS4 := And.intro (cellKeep bel HS.1) (And.intro (cellKeep bel HS.2.1) (And.intro (cellKeep bel HS.2.2.1) (cellKeep bel HS.2.2.2)))
  have hb4 : Below v3.heap.size v3 v4 := bNext (bDrew (Below.refl _ v3)) bel
  have HF := Lib.hid (HF.out.below hb4)
  have HD := Lib.hid (HD.out.keep (l := []) (.of_below hb4) (by simp))
  clear own bel hb4 HS HAT
  go_wp2
  refine ⟨hS4, ?_⟩
  clear hS4
  (repeat (refine wpPlanH_free rfl (fun K hK => ?_); go_simp; (try go_bits); refine hK _ ?_; clear hK K))
  refine wpPlanH_nil ?_
  have k0 := HF.out.r0.cell (i := 0) rfl
  have k1 := HF.out.r0.cell (i := 1) rfl
  have k2 := HF.out.r0.cell (i := 2) rfl
  have d0 := HD.out.cell (i := 0) rfl
  have d1 := HD.out.cell (i := 1) rfl
  have y0 := HF.out.r1.cell (i := 0) rfl
  have y1 := HF.out.r1.cell (i := 1) rfl
  have y2 := HF.out.r1.cell (i := 2) rfl
  have g0 := HF.out.r1.free 0
  have g1 := HF.out.r1.free 1
  have g2 := HF.out.r1.free 2
  go_wp2
  obtain ⟨w9, hw9⟩ : ∃ zw, zw = ((v4.setCell ⟨q1, 0, none⟩ (.slice (some ⟨pb, po, none⟩) ((x).P.length) c1)).setCell ⟨q1, 1, none⟩ (.slice a2 ((x).sems.length) c2)).setCell ⟨q1, 2, none⟩ (.int .i64 (x).now) := ⟨_, rfl⟩
  have fin := HF.out.fin (b' := (some ⟨pb, po, none⟩)) (d' := c1) (a' := a2) (c' := c2) (z := x) (Below.refl _ _) HF.out.v HF.out.o
  rw [← hw9] at fin ⊢
  have HFI := Lib.hid fin
  have hrr := fin.r
  have z0 := hrr.cell (i := 0) rfl
  have z1 := hrr.cell (i := 1) rfl
  have z2 := hrr.cell (i := 2) rfl
  clear hw9 fin hrr
  (try simp only [Exit.inBlock, Exit.then, Exit.noGoto])
  refine bodyPost_ret (by rw [results_cell3 rfl]; go_simp; rfl) rfl ?_
  exact ⟨_, _, _, _, rfl, HFI.out.v, HFI.out.b, fun y hy => .inl hy, fun y hy => .inl hy⟩

theorem st_4c (h : RefV w a1 c1 a2 c2 x) (hn : x.P.length ≤ 100) (hm : x.sems.length ≤ 100) (hnow : x.now ≤ 990000) (n : Int) (a : Nat) (hA : ((actR x : Nat) : Int) = (a : Int) + 1) (ha : a < x.P.length) (hp8 : (gP x a).pr ≤ 8) (p : Int) (t : List Int) (hL : atL x 2 (gP x a).pr = p :: t) (hms : (nextR (putR x a 2)).sems = x.sems) :
    Calls Try.prog 22 #[refV a1 c1 a2 c2 x, .agg #[.int .i64 (4), .int .i64 (n)]] w (StPost a1 a2 (nextR (putR x a 2)) 0 0 w) := by
  obtain ⟨W, hW⟩ : ∃ W, W = ((w.alloc (.cells #[.slice a1 x.P.length c1, .slice a2 x.sems.length c2, .int .i64 x.now] 41)).alloc (.cells #[.int .i64 (4), .int .i64 (n)] 44)).alloc (.cells #[.slice none 0 0, .slice none 0 0, .int .i64 0] 41) := ⟨_, rfl⟩
  have hF := Fr.start3 h (4) (n)
  have hD : Row W (w.heap.size + 1) 44 [.int .i64 (4), .int .i64 (n)] := by
    rw [hW]
    have := (Row.made (w.alloc (.cells #[.slice a1 x.P.length c1, .slice a2 x.sems.length c2, .int .i64 x.now] 41)) [.int .i64 (4), .int .i64 (n)] 44).alloc (.cells #[.slice none 0 0, .slice none 0 0, .int .i64 0] 41)
    simpa using this
  rw [← hW] at hF
  have HW := Lib.hid hW
  obtain ⟨q0, hq0⟩ : ∃ q, q = w.heap.size := ⟨_, rfl⟩
  obtain ⟨qd, hqd⟩ : ∃ q, q = w.heap.size + 1 := ⟨_, rfl⟩
  obtain ⟨q1, hq1⟩ : ∃ q, q = w.heap.size + 2 := ⟨_, rfl⟩
  have HQ0 := Lib.hid hq0
  have HQ1 := Lib.hid hq1
  have HQD := Lib.hid hqd
  rw [← hq1, ← hq0] at hF
  rw [← hqd] at hD
  have HF := Lib.hid hF
  have HD := Lib.hid hD
  have HA := Lib.hid (c_rActive hF.v hn)
  unfold refV at HA
  rw [hA] at HA
  clear h hW hF hD hq0 hq1 hqd
  unfold refV
  go_enter Try.func22, Try.ntmps22
  go_wp2_with fail
  rw [← HW.out, ← HQ1.out, ← HQD.out, ← HQ0.out]
  refine HA.out.mono ?_
  rintro e v3 ⟨rfl, b3⟩
  have HF := Lib.hid (HF.out.below b3)
  have HD := Lib.hid (HD.out.keep (l := []) (.of_below b3) (by simp))
  clear b3 HA
  have HZL := Lib.hid (show 0 < (nextR (putR x a 2)).P.length from by rw [nextR_len, put_len]; omega)
  have HMS := Lib.hid hms
  clear hms
  have HL := Lib.hid hL
  clear hL
  have hne : ((a : Int) + 1 = 0) = False := eq_false (by omega)
  have hneb : (((a : Int) + 1) == 0) = false := by simp; omega
  have e1 : (a : Int) + 1 - 1 = a := by omega
  obtain ⟨pb, po, rfl, hpb, hpc⟩ := HF.out.v.at (by omega)
  have p1 := (hpc a ha).1
  have hAT := c_rAt (w := v3.drew) ((HF.out.below (bDrew (Below.refl _ v3))).v) hn (by omega) 2 (gP x a).pr hp8 (by omega)
  unfold refV at hAT
  rw [show ((2 : Nat) : Int) = 2 from rfl] at hAT
  have HAT := Lib.hid hAT
  clear hAT hpc
  generalize (gP x a).pr = pp at *
  have k0 := HF.out.r0.cell (i := 0) rfl
  have k1 := HF.out.r0.cell (i := 1) rfl
  have k2 := HF.out.r0.cell (i := 2) rfl
  have d0 := HD.out.cell (i := 0) rfl
  have d1 := HD.out.cell (i := 1) rfl
  go_wp2_with fail
  refine wp_region_planH (fun z => z.cell? ⟨q0, 0, none⟩ = some (.slice (some ⟨pb, po, none⟩) x.P.length c1) ∧ z.cell? ⟨q0, 1, none⟩ = some (.slice a2 x.sems.length c2) ∧ z.cell? ⟨q0, 2, none⟩ = some (.int .i64 x.now) ∧ z.cell? ⟨pb, po + a * 3, none⟩ = some (.int .i64 pp)) [(0, true), (1, true), (2, true), (3, true), (4, true), (5, true), (6, true), (7, true), (8, false), (9, true), (10, true)] (by kernel_rfl) (by kernel_rfl) (fun _ _ _ _ _ h => h) ⟨k0, k1, k2, p1⟩ ?_
  (repeat (refine wpPlanH_free rfl (fun K hK => ?_); go_simp; (try go_bits); refine hK _ ?_; clear hK K))
  refine wpPlanH_load (.agg #[.slice (some ⟨pb, po, none⟩) x.P.length c1, .slice a2 x.sems.length c2, .int .i64 x.now]) rfl rfl (fun x hS => by obtain ⟨s0, s1, s2, s3⟩ := hS; go_simp) (fun K hK => ?_)
  refine hK _ ?_
  clear hK K
  (repeat (refine wpPlanH_free rfl (fun K hK => ?_); go_simp; (try go_bits); refine hK _ ?_; clear hK K))
  refine wpPlanH_load (.slice (some ⟨pb, po, none⟩) x.P.length c1) rfl rfl (fun x hS => by obtain ⟨s0, s1, s2, s3⟩ := hS; go_simp) (fun K hK => ?_)
  refine hK _ ?_
  clear hK K
  (repeat (refine wpPlanH_free rfl (fun K hK => ?_); go_simp; (try go_bits); refine hK _ ?_; clear hK K))
  refine wpPlanH_load (.int .i64 pp) rfl rfl (fun x hS => by obtain ⟨s0, s1, s2, s3⟩ := hS; go_simp) (fun K hK => ?_)
  refine hK _ ?_
  clear hK K
  (repeat (refine wpPlanH_free rfl (fun K hK => ?_); go_simp; (try go_bits); refine hK _ ?_; clear hK K))
  refine wpPlanH_sole rfl ?_
  have HS : v3.drew.cell? ⟨q0, 0, none⟩ = some (.slice (some ⟨pb, po, none⟩) x.P.length c1) ∧ v3.drew.cell? ⟨q0, 1, none⟩ = some (.slice a2 x.sems.length c2) ∧ v3.drew.cell? ⟨q0, 2, none⟩ = some (.int .i64 x.now) ∧ v3.drew.cell? ⟨pb, po + a * 3, none⟩ = some (.int .i64 pp) := ⟨k0, k1, k2, p1⟩
  clear k0 k1 k2 d0 d1 p1
  go_wp2_with fail
  refine HAT.out.mono ?_
  rw [HL.out]
  rintro e v4 ⟨v, rfl, own, bel⟩
  obtain ⟨av, cv, rfl, -, -, -⟩ := owns_reads own
  have hS4 := And.intro (cellKeep bel HS.1) (And.intro (cellKeep bel HS.2.1) (And.intro (cellKeep bel HS.2.2.1) (cellKeep bel HS.2.2.2)))
  have hb4 : Below v3.heap.size v3 v4 := bNext (bDrew (Below.refl _ v3)) bel
  have HF := Lib.hid (HF.out.below hb4)
  have HD := Lib.hid (HD.out.keep (l := []) (.of_below hb4) (by simp))
  clear own bel hb4 HS HAT
  go_wp2
  refine ⟨hS4, ?_⟩
  clear hS4
  have hpos : (0 : Int) < (t.length : Int) + 1 := by omega
  (repeat (refine wpPlanH_free rfl (fun K hK => ?_); go_simp; (try go_bits); refine hK _ ?_; clear hK K))
  refine wpPlanH_nil ?_
  have HPT := Lib.hid (c_rPut' HF.out.v hn (by omega) a (2) ha (by omega) (2) (by omega))
  have k0 := HF.out.r0.cell (i := 0) rfl
  have k1 := HF.out.r0.cell (i := 1) rfl
  have k2 := HF.out.r0.cell (i := 2) rfl
  have d0 := HD.out.cell (i := 0) rfl
  have d1 := HD.out.cell (i := 1) rfl
  go_wp2_with fail
  refine HPT.out.mono ?_
  rintro e v4 ⟨g4, e4, rfl, hv, hb, hg⟩
  have hNX := c_rNext hv (by rw [put_len]; exact hn) (by show x.now + 1 ≤ _; omega)
  unfold refV at hNX
  have HNX := Lib.hid hNX
  clear hNX
  go_wp2_with fail
  refine HNX.out.mono ?_
  rintro e v5 ⟨b5, e5, rfl, hv5, hb5, hbg⟩
  obtain ⟨g5, rfl, hg5⟩ := some_grow hbg hg hb.size
  have HGG := Lib.hid (show w.heap.size ≤ g5 from Nat.le_trans HF.out.b.size hg5)
  have hb45 := bNext hb hb5
  clear HPT HNX hv hb hb5 hg hbg k0 k1 k2 d0 d1
  unfold refV
  have HF1 := Lib.hid (HF.out.store hb45 hg5 hv5 HMS.out)
  have HF2 := Lib.hid (HF.out.below hb45)
  generalize nextR (putR x a 2) = z at *
  have k0 := HF2.out.r0.cell (i := 0) rfl
  have k1 := HF2.out.r0.cell (i := 1) rfl
  have k2 := HF2.out.r0.cell (i := 2) rfl
  have f0 := HF2.out.r0.free 0
  have f1 := HF2.out.r0.free 1
  have f2 := HF2.out.r0.free 2
  have y0 := HF2.out.r1.cell (i := 0) rfl
  have y1 := HF2.out.r1.cell (i := 1) rfl
  have y2 := HF2.out.r1.cell (i := 2) rfl
  have g0 := HF2.out.r1.free 0
  have g1 := HF2.out.r1.free 1
  have g2 := HF2.out.r1.free 2
  have hq01 : q0 ≠ q1 := by have := HF2.out.q'; omega
  have hq10 : q1 ≠ q0 := fun e => hq01 e.symm
  go_wp2
  obtain ⟨v6, hv6⟩ : ∃ zw, zw = ((v5.setCell ⟨q0, 0, none⟩ (.slice (some ⟨g5, 0, none⟩) z.P.length e5)).setCell ⟨q0, 1, none⟩ (.slice a2 z.sems.length c2)).setCell ⟨q0, 2, none⟩ (.int .i64 z.now) := ⟨_, rfl⟩
  rw [← hv6] at HF1 ⊢
  have HF := Lib.hid HF1.out
  clear hv6
  obtain ⟨w9, hw9⟩ : ∃ zw, zw = ((v6.setCell ⟨q1, 0, none⟩ (.slice (some ⟨g5, 0, none⟩) ((z).P.length) e5)).setCell ⟨q1, 1, none⟩ (.slice a2 ((z).sems.length) c2)).setCell ⟨q1, 2, none⟩ (.int .i64 (z).now) := ⟨_, rfl⟩
  have fin := HF.out.fin (b' := (some ⟨g5, 0, none⟩)) (d' := e5) (a' := a2) (c' := c2) (z := z) (Below.refl _ _) HF.out.v HF.out.o
  rw [← hw9] at fin ⊢
  have HFI := Lib.hid fin
  have hrr := fin.r
  have z0 := hrr.cell (i := 0) rfl
  have z1 := hrr.cell (i := 1) rfl
  have z2 := hrr.cell (i := 2) rfl
  clear hw9 fin hrr
  (try simp only [Exit.inBlock, Exit.then, Exit.noGoto])
  refine bodyPost_ret (by rw [results_cell3 rfl]; go_simp; rfl) rfl ?_
  exact ⟨_, _, _, _, rfl, HFI.out.v, HFI.out.b, fun y hy => .inr (by cases hy; exact ⟨HGG.out, HZL.out⟩), fun y hy => .inl hy⟩

theorem st_5b (h : RefV w a1 c1 a2 c2 x) (hn : x.P.length ≤ 100) (hm : x.sems.length ≤ 100) (hnow : x.now ≤ 990000) (n : Int) (A : Int) (hA : ((actR x : Nat) : Int) = A) (hf : x.sems.length < 100) :
    Calls Try.prog 22 #[refV a1 c1 a2 c2 x, .agg #[.int .i64 (5), .int .i64 (n)]] w (StPost a1 a2 (semR x) ((x.sems.length : Int) + 1) 0 w) := by
  obtain ⟨W, hW⟩ : ∃ W, W = ((w.alloc (.cells #[.slice a1 x.P.length c1, .slice a2 x.sems.length c2, .int .i64 x.now] 41)).alloc (.cells #[.int .i64 (5), .int .i64 (n)] 44)).alloc (.cells #[.slice none 0 0, .slice none 0 0, .int .i64 0] 41) := ⟨_, rfl⟩
  have hF := Fr.start3 h (5) (n)
  have hD : Row W (w.heap.size + 1) 44 [.int .i64 (5), .int .i64 (n)] := by
    rw [hW]
    have := (Row.made (w.alloc (.cells #[.slice a1 x.P.length c1, .slice a2 x.sems.length c2, .int .i64 x.now] 41)) [.int .i64 (5), .int .i64 (n)] 44).alloc (.cells #[.slice none 0 0, .slice none 0 0, .int .i64 0] 41)
    simpa using this
  rw [← hW] at hF
  have HW := Lib.hid hW
  obtain ⟨q0, hq0⟩ : ∃ q, q = w.heap.size := ⟨_, rfl⟩
  obtain ⟨qd, hqd⟩ : ∃ q, q = w.heap.size + 1 := ⟨_, rfl⟩
  obtain ⟨q1, hq1⟩ : ∃ q, q = w.heap.size + 2 := ⟨_, rfl⟩
  have HQ0 := Lib.hid hq0
  have HQ1 := Lib.hid hq1
  have HQD := Lib.hid hqd
  rw [← hq1, ← hq0] at hF
  rw [← hqd] at hD
  have HF := Lib.hid hF
  have HD := Lib.hid hD
  have HA := Lib.hid (c_rActive hF.v hn)
  unfold refV at HA
  rw [hA] at HA
  clear h hW hF hD hq0 hq1 hqd
  unfold refV
  go_enter Try.func22, Try.ntmps22
  go_wp2_with fail
  rw [← HW.out, ← HQ1.out, ← HQD.out, ← HQ0.out]
  refine HA.out.mono ?_
  rintro e v3 ⟨rfl, b3⟩
  have HF := Lib.hid (HF.out.below b3)
  have HD := Lib.hid (HD.out.keep (l := []) (.of_below b3) (by simp))
  clear b3 HA
  have HZL := Lib.hid (show 0 < (semR x).sems.length from by show 0 < (x.sems ++ [0]).length; simp)
  have hf2 : ¬ (100 : Int) ≤ (x.sems.length : Int) := by omega
  have h1c : ∀ u ∈ [(.int .i64 0 : Value)], u.oneCell' = true := by intro u hu; simp at hu; subst hu; rfl
  have k0 := HF.out.r0.cell (i := 0) rfl
  have k1 := HF.out.r0.cell (i := 1) rfl
  have k2 := HF.out.r0.cell (i := 2) rfl
  have d0 := HD.out.cell (i := 0) rfl
  have d1 := HD.out.cell (i := 1) rfl
  go_wp2_with (at_builtin; refine wpList_app rfl _ _ 35 rfl v3.heap.size 3 (.int .i64 0) 1 8 Try.underlying35 inf_int rfl (by decide) _ 0 [] rfl (World.ownsRow_nil _ _ _ _) a2 x.sems.length c2 (intsN x.sems) rfl (by rw [intsN_len, Nat.mul_one]) HF.out.v.rs (intsN_one _) (by unfold maxLen; omega) (by omega) (Nat.le_refl _) ?_)
  intro u1 v4 own1 gr1
  have hb1 : Below v3.heap.size v3 v4 := (Below.refl _ _).grown gr1 (Nat.le_refl _) (fun k hk => by simp [Value.ownBlock] at hk)
  have own1 : v4.ownsRow v3.heap.size 3 1 u1 x.sems.length (intsN x.sems) := by simpa using own1
  have HO1 := Lib.hid own1
  have HB1 := Lib.hid hb1
  have hlt1 := own1.lt
  have HF4 := Lib.hid (HF.out.below hb1)
  have HD4 := Lib.hid (HD.out.keep (l := []) (.of_below hb1) (by simp))
  clear own1 gr1 hb1 k0 k1 k2 d0 d1
  go_wp2_with (at_builtin; refine wpList_app rfl _ _ 35 rfl v3.heap.size 3 (.int .i64 0) 1 8 Try.underlying35 inf_int rfl (by decide) _ x.sems.length _ rfl (HO1.out.alloc _) _ 1 1 [.int .i64 0] rfl rfl (Reads.madeAt rfl) h1c (by unfold maxLen; omega) (by omega) (by have := HB1.out.size; simp; omega) ?_)
  intro u2 v5 own2 gr2
  have hb2 : Below v3.heap.size v3 v5 := (HB1.out.alloc HB1.out.size _).grown gr2 (by have := HB1.out.size; simp; omega) (fun k hk => (hlt1 k hk).1)
  obtain ⟨a5, c5, rfl, hR5, -, ha5⟩ := owns_reads own2
  have HR5 := Lib.hid (show Reads v5 a5 c5 (intsN (x.sems ++ [0])) from by unfold intsN; rw [List.map_append]; exact hR5)
  have HA5 := Lib.hid ha5
  have HFv := Lib.hid HF.out
  have HF := Lib.hid (HF.out.below hb2)
  have HD := Lib.hid (HD.out.keep (l := []) (.of_below hb2) (by simp))
  have hsl : (semR x).sems.length = x.sems.length + 1 := by show (x.sems ++ [0]).length = _; simp
  have hpl : (semR x).P.length = x.P.length := rfl
  have hnw : (semR x).now = x.now := rfl
  have hvz : RefV v5 a1 c1 a5 c5 (semR x) := ⟨HF.out.v.rp, HR5.out⟩
  have hoff : Off a1 a5 (semR x) [q0, q1] := ⟨HF.out.o.1, fun hp u hu hm => by
    have h1 := (HA5.out u hu).1
    have h2 := HFv.out.r0.lt
    have h3 := HFv.out.r1.lt
    simp at hm
    omega⟩
  clear own2 gr2 hb2 hR5 ha5 hlt1
  have k0 := HF.out.r0.cell (i := 0) rfl
  have k1 := HF.out.r0.cell (i := 1) rfl
  have k2 := HF.out.r0.cell (i := 2) rfl
  have d0 := HD.out.cell (i := 0) rfl
  have d1 := HD.out.cell (i := 1) rfl
  have y0 := HF.out.r1.cell (i := 0) rfl
  have y1 := HF.out.r1.cell (i := 1) rfl
  have y2 := HF.out.r1.cell (i := 2) rfl
  have g0 := HF.out.r1.free 0
  have g1 := HF.out.r1.free 1
  have g2 := HF.out.r1.free 2
  go_wp2
  obtain ⟨w9, hw9⟩ : ∃ zw, zw = ((v5.setCell ⟨q1, 0, none⟩ (.slice a1 (x.P.length) c1)).setCell ⟨q1, 1, none⟩ (.slice a5 (x.sems.length + 1) c5)).setCell ⟨q1, 2, none⟩ (.int .i64 x.now) := ⟨_, rfl⟩
  have fin := HF.out.fin (b' := a1) (d' := c1) (a' := a5) (c' := c5) (z := semR x) (Below.refl _ _) hvz hoff
  rw [hsl, hpl, hnw] at fin
  rw [← hw9] at fin ⊢
  have HFI := Lib.hid fin
  have hrr := fin.r
  unfold refC at hrr
  rw [hsl, hpl, hnw] at hrr
  have z0 := hrr.cell (i := 0) rfl
  have z1 := hrr.cell (i := 1) rfl
  have z2 := hrr.cell (i := 2) rfl
  clear hw9 fin hrr
  (try simp only [Exit.inBlock, Exit.then, Exit.noGoto])
  refine bodyPost_ret (by rw [results_cell3 rfl]; go_simp; rfl) rfl ?_
  exact ⟨_, _, _, _, by unfold refV; rw [hsl, hpl, hnw], HFI.out.v, HFI.out.b, fun y hy => .inl hy, fun y hy => .inr ⟨Nat.le_trans HFv.out.b.size (HA5.out y hy).1, HZL.out⟩⟩

theorem st_1d (h : RefV w a1 c1 a2 c2 x) (hn : x.P.length ≤ 100) (hm : x.sems.length ≤ 100) (hnow : x.now ≤ 990000) (n : Nat) (A : Int) (hA : ((actR x : Nat) : Int) = A) (h1 : 1 ≤ n) (h8 : n ≤ 8) (hf : x.P.length < 100) :
    Calls Try.prog 22 #[refV a1 c1 a2 c2 x, .agg #[.int .i64 (1), .int .i64 ((n : Int))]] w (StPost a1 a2 (spawnR x n) ((x.P.length : Int) + 1) 0 w) := by
  obtain ⟨W, hW⟩ : ∃ W, W = ((w.alloc (.cells #[.slice a1 x.P.length c1, .slice a2 x.sems.length c2, .int .i64 x.now] 41)).alloc (.cells #[.int .i64 (1), .int .i64 ((n : Int))] 44)).alloc (.cells #[.slice none 0 0, .slice none 0 0, .int .i64 0] 41) := ⟨_, rfl⟩
  have hF := Fr.start3 h (1) ((n : Int))
  have hD : Row W (w.heap.size + 1) 44 [.int .i64 (1), .int .i64 ((n : Int))] := by
    rw [hW]
    have := (Row.made (w.alloc (.cells #[.slice a1 x.P.length c1, .slice a2 x.sems.length c2, .int .i64 x.now] 41)) [.int .i64 (1), .int .i64 ((n : Int))] 44).alloc (.cells #[.slice none 0 0, .slice none 0 0, .int .i64 0] 41)
    simpa using this
  rw [← hW] at hF
  have HW := Lib.hid hW
  obtain ⟨q0, hq0⟩ : ∃ q, q = w.heap.size := ⟨_, rfl⟩
  obtain ⟨qd, hqd⟩ : ∃ q, q = w.heap.size + 1 := ⟨_, rfl⟩
  obtain ⟨q1, hq1⟩ : ∃ q, q = w.heap.size + 2 := ⟨_, rfl⟩
  have HQ0 := Lib.hid hq0
  have HQ1 := Lib.hid hq1
  have HQD := Lib.hid hqd
  rw [← hq1, ← hq0] at hF
  rw [← hqd] at hD
  have HF := Lib.hid hF
  have HD := Lib.hid hD
  have HA := Lib.hid (c_rActive hF.v hn)
  unfold refV at HA
  rw [hA] at HA
  clear h hW hF hD hq0 hq1 hqd
  unfold refV
  go_enter Try.func22, Try.ntmps22
  go_wp2_with fail
  rw [← HW.out, ← HQ1.out, ← HQD.out, ← HQ0.out]
  refine HA.out.mono ?_
  rintro e v3 ⟨rfl, b3⟩
  have HF := Lib.hid (HF.out.below b3)
  have HD := Lib.hid (HD.out.keep (l := []) (.of_below b3) (by simp))
  clear b3 HA
  have HZL := Lib.hid (show 0 < (spawnR x n).P.length from by rw [spawn_len]; omega)
  have hf2 : ¬ (100 : Int) ≤ (x.P.length : Int) := by omega
  have h1c : ∀ u ∈ [(.int .i64 (n : Int) : Value), .int .i64 0, .int .i64 0], u.oneCell' = true := by intro u hu; simp at hu; rcases hu with rfl | rfl | rfl <;> rfl
  have k0 := HF.out.r0.cell (i := 0) rfl
  have k1 := HF.out.r0.cell (i := 1) rfl
  have k2 := HF.out.r0.cell (i := 2) rfl
  have d0 := HD.out.cell (i := 0) rfl
  have d1 := HD.out.cell (i := 1) rfl
  go_wp2_with (at_builtin; refine wpList_app rfl _ _ 39 rfl v3.heap.size 74 (.agg #[.int .i64 0, .int .i64 0, .int .i64 0]) 3 24 Try.underlying39 inf_proc rfl (by decide) _ 0 [] rfl (World.ownsRow_nil _ _ _ _) a1 x.P.length c1 _ rfl (flatP_len _) HF.out.v.rp (flatP_one _) (by unfold maxLen; omega) (by omega) (Nat.le_refl _) ?_)
  intro u1 v4 own1 gr1
  have hb1 : Below v3.heap.size v3 v4 := (Below.refl _ _).grown gr1 (Nat.le_refl _) (fun k hk => by simp [Value.ownBlock] at hk)
  have own1 : v4.ownsRow v3.heap.size 74 3 u1 x.P.length (flatP x.P) := by simpa using own1
  have HO1 := Lib.hid own1
  have HB1 := Lib.hid hb1
  have hlt1 := own1.lt
  have HF4 := Lib.hid (HF.out.below hb1)
  have HD4 := Lib.hid (HD.out.keep (l := []) (.of_below hb1) (by simp))
  have dd0 := HD4.out.cell (i := 0) rfl
  have dd1 := HD4.out.cell (i := 1) rfl
  clear own1 gr1 hb1 k0 k1 k2 d0 d1
  go_wp2_with (at_builtin; refine wpList_app rfl _ _ 39 rfl v3.heap.size 74 (.agg #[.int .i64 0, .int .i64 0, .int .i64 0]) 3 24 Try.underlying39 inf_proc rfl (by decide) _ x.P.length _ rfl (HO1.out.alloc _) _ 1 1 [.int .i64 (n : Int), .int .i64 0, .int .i64 0] rfl rfl (Reads.madeAt rfl) h1c (by unfold maxLen; omega) (by omega) (by have := HB1.out.size; simp; omega) ?_)
  intro u2 v5 own2 gr2
  have hb2 : Below v3.heap.size v3 v5 := (HB1.out.alloc HB1.out.size _).grown gr2 (by have := HB1.out.size; simp; omega) (fun k hk => (hlt1 k hk).1)
  obtain ⟨a5, c5, rfl, hR5, -, ha5⟩ := owns_reads own2
  have HR5 := Lib.hid (show Reads v5 a5 c5 (flatP (x.P ++ [⟨n, 0, 0⟩])) from by unfold flatP; rw [List.flatMap_append]; exact hR5)
  have HA5 := Lib.hid ha5
  have HFv := Lib.hid HF.out
  have HF := Lib.hid (HF.out.below hb2)
  have HD := Lib.hid (HD.out.keep (l := []) (.of_below hb2) (by simp))
  have hpl : (spawnR x n).P.length = x.P.length + 1 := spawn_len x n
  have hsl : (spawnR x n).sems.length = x.sems.length := rfl
  have hnw : (spawnR x n).now = x.now := rfl
  have hvz : RefV v5 a5 c5 a2 c2 (spawnR x n) := ⟨HR5.out, HF.out.v.rs⟩
  have hoff : Off a5 a2 (spawnR x n) [q0, q1] := ⟨fun hp u hu hm => by
    have h1 := (HA5.out u hu).1
    have h2 := HFv.out.r0.lt
    have h3 := HFv.out.r1.lt
    simp at hm
    omega, HF.out.o.2⟩
  clear own2 gr2 hb2 hR5 ha5 hlt1 dd0 dd1
  have k0 := HF.out.r0.cell (i := 0) rfl
  have k1 := HF.out.r0.cell (i := 1) rfl
  have k2 := HF.out.r0.cell (i := 2) rfl
  have d0 := HD.out.cell (i := 0) rfl
  have d1 := HD.out.cell (i := 1) rfl
  have y0 := HF.out.r1.cell (i := 0) rfl
  have y1 := HF.out.r1.cell (i := 1) rfl
  have y2 := HF.out.r1.cell (i := 2) rfl
  have g0 := HF.out.r1.free 0
  have g1 := HF.out.r1.free 1
  have g2 := HF.out.r1.free 2
  go_wp2
  obtain ⟨w9, hw9⟩ : ∃ zw, zw = ((v5.setCell ⟨q1, 0, none⟩ (.slice a5 (x.P.length + 1) c5)).setCell ⟨q1, 1, none⟩ (.slice a2 (x.sems.length) c2)).setCell ⟨q1, 2, none⟩ (.int .i64 x.now) := ⟨_, rfl⟩
  have fin := HF.out.fin (b' := a5) (d' := c5) (a' := a2) (c' := c2) (z := spawnR x n) (Below.refl _ _) hvz hoff
  rw [hpl, hsl, hnw] at fin
  rw [← hw9] at fin ⊢
  have HFI := Lib.hid fin
  have hrr := fin.r
  unfold refC at hrr
  rw [hpl, hsl, hnw] at hrr
  have z0 := hrr.cell (i := 0) rfl
  have z1 := hrr.cell (i := 1) rfl
  have z2 := hrr.cell (i := 2) rfl
  clear hw9 fin hrr
  (try simp only [Exit.inBlock, Exit.then, Exit.noGoto])
  refine bodyPost_ret (by rw [results_cell3 rfl]; go_simp; rfl) rfl ?_
  exact ⟨_, _, _, _, by unfold refV; rw [hpl, hsl, hnw], HFI.out.v, HFI.out.b, fun y hy => .inr ⟨Nat.le_trans HFv.out.b.size (HA5.out y hy).1, HZL.out⟩, fun y hy => .inl hy⟩

theorem st_7e (h : RefV w a1 c1 a2 c2 x) (hn : x.P.length ≤ 100) (hm : x.sems.length ≤ 100) (hnow : x.now ≤ 990000) (k : Int) (k1 : k ≠ 1) (k2 : k ≠ 2) (k3 : k ≠ 3) (k4 : k ≠ 4) (k5 : k ≠ 5) (k6 : k ≠ 6) (j a : Nat) (hA : ((actR x : Nat) : Int) = (a : Int) + 1) (hj : j < x.sems.length) (ha : a < x.P.length) (hs : x.sems.getD j 0 = 0) (hms : (nextR (putR x a (3 + j))).sems = x.sems) :
    Calls Try.prog 22 #[refV a1 c1 a2 c2 x, .agg #[.int .i64 (k), .int .i64 ((j : Int) + 1)]] w (StPost a1 a2 (nextR (putR x a (3 + j))) 0 0 w) := by
  obtain ⟨W, hW⟩ : ∃ W, W = ((w.alloc (.cells #[.slice a1 x.P.length c1, .slice a2 x.sems.length c2, .int .i64 x.now] 41)).alloc (.cells #[.int .i64 (k), .int .i64 ((j : Int) + 1)] 44)).alloc (.cells #[.slice none 0 0, .slice none 0 0, .int .i64 0] 41) := ⟨_, rfl⟩
  have hF := Fr.start3 h (k) ((j : Int) + 1)
  have hD : Row W (w.heap.size + 1) 44 [.int .i64 (k), .int .i64 ((j : Int) + 1)] := by
    rw [hW]
    have := (Row.made (w.alloc (.cells #[.slice a1 x.P.length c1, .slice a2 x.sems.length c2, .int .i64 x.now] 41)) [.int .i64 (k), .int .i64 ((j : Int) + 1)] 44).alloc (.cells #[.slice none 0 0, .slice none 0 0, .int .i64 0] 41)
    simpa using this
  rw [← hW] at hF
  have HW := Lib.hid hW
  obtain ⟨q0, hq0⟩ : ∃ q, q = w.heap.size := ⟨_, rfl⟩
  obtain ⟨qd, hqd⟩ : ∃ q, q = w.heap.size + 1 := ⟨_, rfl⟩
  obtain ⟨q1, hq1⟩ : ∃ q, q = w.heap.size + 2 := ⟨_, rfl⟩
  have HQ0 := Lib.hid hq0
  have HQ1 := Lib.hid hq1
  have HQD := Lib.hid hqd
  rw [← hq1, ← hq0] at hF
  rw [← hqd] at hD
  have HF := Lib.hid hF
  have HD := Lib.hid hD
  have HA := Lib.hid (c_rActive hF.v hn)
  unfold refV at HA
  rw [hA] at HA
  clear h hW hF hD hq0 hq1 hqd
  unfold refV
  go_enter Try.func22, Try.ntmps22
  go_wp2_with fail
  rw [← HW.out, ← HQ1.out, ← HQD.out, ← HQ0.out]
  refine HA.out.mono ?_
  rintro e v3 ⟨rfl, b3⟩
  have HF := Lib.hid (HF.out.below b3)
  have HD := Lib.hid (HD.out.keep (l := []) (.of_below b3) (by simp))
  clear b3 HA
  have HZL := Lib.hid (show 0 < (nextR (putR x a (3 + j))).P.length from by rw [nextR_len, put_len]; omega)
  have HMS := Lib.hid hms
  clear hms
  have hne : ((a : Int) + 1 = 0) = False := eq_false (by omega)
  have hneb : (((a : Int) + 1) == 0) = false := by simp; omega
  have e1 : (j : Int) + 1 - 1 = j := by omega
  obtain ⟨sb, so, rfl, hsb, hsc⟩ := HF.out.v.rs.at (by simp; omega)
  have ps : v3.cell? ⟨sb, so + j, none⟩ = some (.int .i64 (0)) := by have := hsc j _ (intsN_get hj); rw [hs] at this; exact this
  clear hsc
  clear hs
  have HPT := Lib.hid (c_rPut' HF.out.v hn (by omega) a (3 + j) ha (by omega) (2 + ((j : Int) + 1)) (by omega))
  have kq0 := HF.out.r0.cell (i := 0) rfl
  have kq1 := HF.out.r0.cell (i := 1) rfl
  have kq2 := HF.out.r0.cell (i := 2) rfl
  have d0 := HD.out.cell (i := 0) rfl
  have d1 := HD.out.cell (i := 1) rfl
  go_wp2_with fail
  refine HPT.out.mono ?_
  rintro e v4 ⟨g4, e4, rfl, hv, hb, hg⟩
  have hNX := c_rNext hv (by rw [put_len]; exact hn) (by show x.now + 1 ≤ _; omega)
  unfold refV at hNX
  have HNX := Lib.hid hNX
  clear hNX
  go_wp2_with fail
  refine HNX.out.mono ?_
  rintro e v5 ⟨b5, e5, rfl, hv5, hb5, hbg⟩
  obtain ⟨g5, rfl, hg5⟩ := some_grow hbg hg hb.size
  have HGG := Lib.hid (show w.heap.size ≤ g5 from Nat.le_trans HF.out.b.size hg5)
  have hb45 := bNext hb hb5
  clear HPT HNX hv hb hb5 hg hbg kq0 kq1 kq2 d0 d1
  unfold refV
  clear ps
  have hoff := HF.out.off hg5 HMS.out
  have HF := Lib.hid (HF.out.below hb45)
  have y0 := HF.out.r1.cell (i := 0) rfl
  have y1 := HF.out.r1.cell (i := 1) rfl
  have y2 := HF.out.r1.cell (i := 2) rfl
  have g0 := HF.out.r1.free 0
  have g1 := HF.out.r1.free 1
  have g2 := HF.out.r1.free 2
  generalize nextR (putR x a (3 + j)) = z at *
  go_wp2
  obtain ⟨w9, hw9⟩ : ∃ zw, zw = ((v5.setCell ⟨q1, 0, none⟩ (.slice (some ⟨g5, 0, none⟩) ((z).P.length) e5)).setCell ⟨q1, 1, none⟩ (.slice (some ⟨sb, so, none⟩) ((z).sems.length) c2)).setCell ⟨q1, 2, none⟩ (.int .i64 (z).now) := ⟨_, rfl⟩
  have fin := HF.out.fin (b' := (some ⟨g5, 0, none⟩)) (d' := e5) (a' := (some ⟨sb, so, none⟩)) (c' := c2) (z := z) (Below.refl _ _) hv5 hoff
  rw [← hw9] at fin ⊢
  have HFI := Lib.hid fin
  have hrr := fin.r
  have z0 := hrr.cell (i := 0) rfl
  have z1 := hrr.cell (i := 1) rfl
  have z2 := hrr.cell (i := 2) rfl
  clear hw9 fin hrr
  (try simp only [Exit.inBlock, Exit.then, Exit.noGoto])
  refine bodyPost_ret (by rw [results_cell3 rfl]; go_simp; rfl) rfl ?_
  exact ⟨_, _, _, _, rfl, HFI.out.v, HFI.out.b, fun y hy => .inr (by cases hy; exact ⟨HGG.out, HZL.out⟩), fun y hy => .inl hy⟩

theorem st_7d (h : RefV w a1 c1 a2 c2 x) (hn : x.P.length ≤ 100) (hm : x.sems.length ≤ 100) (hnow : x.now ≤ 990000) (k : Int) (k1 : k ≠ 1) (k2 : k ≠ 2) (k3 : k ≠ 3) (k4 : k ≠ 4) (k5 : k ≠ 5) (k6 : k ≠ 6) (j a s : Nat) (hA : ((actR x : Nat) : Int) = (a : Int) + 1) (hj : j < x.sems.length) (hs : x.sems.getD j 0 = s + 1) (hs6 : s ≤ 1000000) :
    Calls Try.prog 22 #[refV a1 c1 a2 c2 x, .agg #[.int .i64 (k), .int .i64 ((j : Int) + 1)]] w (StPost a1 a2 (sigsR x j s) 0 0 w) := by
  obtain ⟨W, hW⟩ : ∃ W, W = ((w.alloc (.cells #[.slice a1 x.P.length c1, .slice a2 x.sems.length c2, .int .i64 x.now] 41)).alloc (.cells #[.int .i64 (k), .int .i64 ((j : Int) + 1)] 44)).alloc (.cells #[.slice none 0 0, .slice none 0 0, .int .i64 0] 41) := ⟨_, rfl⟩
  have hF := Fr.start3 h (k) ((j : Int) + 1)
  have hD : Row W (w.heap.size + 1) 44 [.int .i64 (k), .int .i64 ((j : Int) + 1)] := by
    rw [hW]
    have := (Row.made (w.alloc (.cells #[.slice a1 x.P.length c1, .slice a2 x.sems.length c2, .int .i64 x.now] 41)) [.int .i64 (k), .int .i64 ((j : Int) + 1)] 44).alloc (.cells #[.slice none 0 0, .slice none 0 0, .int .i64 0] 41)
    simpa using this
  rw [← hW] at hF
  have HW := Lib.hid hW
  obtain ⟨q0, hq0⟩ : ∃ q, q = w.heap.size := ⟨_, rfl⟩
  obtain ⟨qd, hqd⟩ : ∃ q, q = w.heap.size + 1 := ⟨_, rfl⟩
  obtain ⟨q1, hq1⟩ : ∃ q, q = w.heap.size + 2 := ⟨_, rfl⟩
  have HQ0 := Lib.hid hq0
  have HQ1 := Lib.hid hq1
  have HQD := Lib.hid hqd
  rw [← hq1, ← hq0] at hF
  rw [← hqd] at hD
  have HF := Lib.hid hF
  have HD := Lib.hid hD
  have HA := Lib.hid (c_rActive hF.v hn)
  unfold refV at HA
  rw [hA] at HA
  clear h hW hF hD hq0 hq1 hqd
  unfold refV
  go_enter Try.func22, Try.ntmps22
  go_wp2_with fail
  rw [← HW.out, ← HQ1.out, ← HQD.out, ← HQ0.out]
  refine HA.out.mono ?_
  rintro e v3 ⟨rfl, b3⟩
  have HF := Lib.hid (HF.out.below b3)
  have HD := Lib.hid (HD.out.keep (l := []) (.of_below b3) (by simp))
  clear b3 HA
  have HZL := Lib.hid (show 0 < (sigsR x j s).sems.length from by show 0 < (x.sems.set j s).length; simp; omega)
  have hne : ((a : Int) + 1 = 0) = False := eq_false (by omega)
  have hneb : (((a : Int) + 1) == 0) = false := by simp; omega
  have e1 : (j : Int) + 1 - 1 = j := by omega
  obtain ⟨sb, so, rfl, hsb, hsc⟩ := HF.out.v.rs.at (by simp; omega)
  have ps : v3.cell? ⟨sb, so + j, none⟩ = some (.int .i64 (((s + 1 : Nat) : Int))) := by have := hsc j _ (intsN_get hj); rw [hs] at this; exact this
  clear hsc
  clear hs
  rw [show ((s + 1 : Nat) : Int) = (s : Int) + 1 from by omega] at ps
  have hspos : (0 : Int) < (s : Int) + 1 := by omega
  have es : (s : Int) + 1 - 1 = s := by omega
  have kq0 := HF.out.r0.cell (i := 0) rfl
  have kq1 := HF.out.r0.cell (i := 1) rfl
  have kq2 := HF.out.r0.cell (i := 2) rfl
  have d0 := HD.out.cell (i := 0) rfl
  have d1 := HD.out.cell (i := 1) rfl
  have HSG := Lib.hid (c_rSignals (w := v3.drew) ((HF.out.below (bDrew (Below.refl _ v3))).v) hn hm j (s) hj)
  have hsq1 : sb ≠ q1 := fun e => HF.out.o.2 (by omega) _ rfl (by simp [e])
  have HSQ := Lib.hid hsq1
  clear hsq1
  go_wp2_with fail
  refine wp_region_planH (fun z => z.cell? ⟨q0, 0, none⟩ = some (.slice a1 x.P.length c1) ∧ z.cell? ⟨q0, 1, none⟩ = some (.slice (some ⟨sb, so, none⟩) x.sems.length c2) ∧ z.cell? ⟨q0, 2, none⟩ = some (.int .i64 x.now) ∧ z.cell? ⟨qd, 1, none⟩ = some (.int .i64 ((j : Int) + 1)) ∧ z.cell? ⟨sb, so + j, none⟩ = some (.int .i64 ((s : Int) + 1))) [(0, true), (1, true), (2, true), (3, true), (4, true), (5, true), (6, true), (7, true), (8, true), (9, true), (10, true), (11, false), (12, false), (13, true), (14, true)] (by kernel_rfl) (by kernel_rfl) (fun _ _ _ _ _ h => h) ⟨kq0, kq1, kq2, d1, ps⟩ ?_
  have HS : v3.drew.cell? ⟨q0, 0, none⟩ = some (.slice a1 x.P.length c1) ∧ v3.drew.cell? ⟨q0, 1, none⟩ = some (.slice (some ⟨sb, so, none⟩) x.sems.length c2) ∧ v3.drew.cell? ⟨q0, 2, none⟩ = some (.int .i64 x.now) ∧ v3.drew.cell? ⟨qd, 1, none⟩ = some (.int .i64 ((j : Int) + 1)) ∧ v3.drew.cell? ⟨sb, so + j, none⟩ = some (.int .i64 ((s : Int) + 1)) := ⟨kq0, kq1, kq2, d1, ps⟩
  clear kq0 kq1 kq2 d0 d1 ps
  (repeat (refine wpPlanH_free rfl (fun K hK => ?_); go_simp; (try go_bits); refine hK _ ?_; clear hK K))
  refine wpPlanH_load (.agg #[.slice a1 x.P.length c1, .slice (some ⟨sb, so, none⟩) x.sems.length c2, .int .i64 x.now]) rfl rfl (fun x hS => by obtain ⟨s0, s1, s2, s3, s4⟩ := hS; go_simp) (fun K hK => ?_)
  refine hK _ ?_
  clear hK K
  (repeat (refine wpPlanH_free rfl (fun K hK => ?_); go_simp; (try go_bits); refine hK _ ?_; clear hK K))
  refine wpPlanH_load (.int .i64 ((j : Int) + 1)) rfl rfl (fun x hS => by obtain ⟨s0, s1, s2, s3, s4⟩ := hS; go_simp) (fun K hK => ?_)
  refine hK _ ?_
  clear hK K
  (repeat (refine wpPlanH_free rfl (fun K hK => ?_); go_simp; (try go_bits); refine hK _ ?_; clear hK K))
  refine wpPlanH_load (.slice (some ⟨sb, so, none⟩) x.sems.length c2) rfl rfl (fun x hS => by obtain ⟨s0, s1, s2, s3, s4⟩ := hS; go_simp) (fun K hK => ?_)
  refine hK _ ?_
  clear hK K
  (repeat (refine wpPlanH_free rfl (fun K hK => ?_); go_simp; (try go_bits); refine hK _ ?_; clear hK K))
  refine wpPlanH_load (.int .i64 ((j : Int) + 1)) rfl rfl (fun x hS => by obtain ⟨s0, s1, s2, s3, s4⟩ := hS; go_simp) (fun K hK => ?_)
  refine hK _ ?_
  clear hK K
  (repeat (refine wpPlanH_free rfl (fun K hK => ?_); go_simp; (try go_bits); refine hK _ ?_; clear hK K))
  refine wpPlanH_load (.int .i64 ((s : Int) + 1)) rfl rfl (fun x hS => by obtain ⟨s0, s1, s2, s3, s4⟩ := hS; go_simp) (fun K hK => ?_)
  refine hK _ ?_
  clear hK K
  (repeat (refine wpPlanH_free rfl (fun K hK => ?_); go_simp; (try go_bits); refine hK _ ?_; clear hK K))
  refine wpPlanH_sole rfl ?_
  have hSG := HSG.out
  unfold refV at hSG
  skip
  have HSG := Lib.hid hSG
  clear hSG
  go_wp2_with fail
  refine HSG.out.mono ?_
  rintro e v6 ⟨g6, e6, rfl, hv6, hb6, hg6⟩
  have hS6 := And.intro (cellKeep hb6 HS.1) (And.intro (cellKeep hb6 HS.2.1) (And.intro (cellKeep hb6 HS.2.2.1) (And.intro (cellKeep hb6 HS.2.2.2.1) (cellKeep hb6 HS.2.2.2.2))))
  have hb6' : Below v3.heap.size v3 v6 := bNext (bDrew (Below.refl _ v3)) hb6
  have hg6' : v3.heap.size ≤ g6 := hg6
  have hoff : Off a1 (some ⟨g6, 0, none⟩) (sigsR x j (s)) [q0, q1] := ⟨HF.out.o.1, fun hp u hu hm => by
    cases hu
    have h2 := HF.out.r0.lt
    have h3 := HF.out.r1.lt
    simp at hm
    omega⟩
  have HFq := Lib.hid HF.out
  have HF := Lib.hid (HF.out.below hb6')
  have HGG := Lib.hid (show w.heap.size ≤ g6 from Nat.le_trans HFq.out.b.size hg6')
  clear hb6 hb6' hg6 hg6' HS HSG
  unfold refV
  go_wp2
  refine ⟨hS6, ?_⟩
  have HS6 := Lib.hid hS6
  clear hS6
  have y0 := HF.out.r1.cell (i := 0) rfl
  have y1 := HF.out.r1.cell (i := 1) rfl
  have y2 := HF.out.r1.cell (i := 2) rfl
  have g0 := HF.out.r1.free 0
  have g1 := HF.out.r1.free 1
  have g2 := HF.out.r1.free 2
  generalize sigsR x j (s) = z at *
  refine wpPlanH_sole rfl ?_
  go_wp2
  obtain ⟨w8, hw8⟩ : ∃ zw, zw = ((v6.setCell ⟨q1, 0, none⟩ (.slice a1 z.P.length c1)).setCell ⟨q1, 1, none⟩ (.slice (some ⟨g6, 0, none⟩) z.sems.length e6)).setCell ⟨q1, 2, none⟩ (.int .i64 z.now) := ⟨_, rfl⟩
  have U8 : Upd [q1] v6 w8 := by rw [hw8]; exact (((Upd.refl [q1] _).setCell (by simp) _).setCell (by simp) _).setCell (by simp) _
  have fin := HF.out.fin (b' := a1) (d' := c1) (a' := some ⟨g6, 0, none⟩) (c' := e6) (z := z) (Below.refl _ _) hv6 hoff
  rw [← hw8] at fin ⊢
  have n0 : q0 ∉ [q1] := by have := HF.out.q'; simp; omega
  have nd : qd ∉ [q1] := by have h1 := HQD.out; have h2 := HQ1.out; simp; omega
  have ns : sb ∉ [q1] := by simp; exact HSQ.out
  refine ⟨⟨cellU U8 HS6.out.1 n0, cellU U8 HS6.out.2.1 n0, cellU U8 HS6.out.2.2.1 n0, cellU U8 HS6.out.2.2.2.1 nd, cellU U8 HS6.out.2.2.2.2 ns⟩, ?_⟩
  have HFI := Lib.hid fin
  have z0 := fin.r.cell (i := 0) rfl
  have z1 := fin.r.cell (i := 1) rfl
  have z2 := fin.r.cell (i := 2) rfl
  clear hw8 fin U8 n0 nd ns y0 y1 y2 g0 g1 g2
  (repeat (refine wpPlanH_free rfl (fun K hK => ?_); go_simp; (try go_bits); refine hK _ ?_; clear hK K))
  refine wpPlanH_nil ?_
  (try simp only [Exit.then])
  go_wp2
  refine bodyPost_ret (by rw [results_cell3 rfl]; go_simp; rfl) rfl ?_
  exact ⟨_, _, _, _, rfl, HFI.out.v, HFI.out.b, fun y hy => .inl hy, fun y hy => .inr (by cases hy; exact ⟨HGG.out, HZL.out⟩)⟩

theorem st_6c (h : RefV w a1 c1 a2 c2 x) (hn : x.P.length ≤ 100) (hm : x.sems.length ≤ 100) (hnow : x.now ≤ 990000) (j s : Nat) (A : Int) (hA : ((actR x : Nat) : Int) = A) (hj : j < x.sems.length) (hs : x.sems.getD j 0 = s) (hs6 : s ≤ 1000000) (hL : atL x (3 + j) 0 = []) :
    Calls Try.prog 22 #[refV a1 c1 a2 c2 x, .agg #[.int .i64 (6), .int .i64 ((j : Int) + 1)]] w (StPost a1 a2 (sigsR x j (s + 1)) 0 0 w) := by
  obtain ⟨W, hW⟩ : ∃ W, W = ((w.alloc (.cells #[.slice a1 x.P.length c1, .slice a2 x.sems.length c2, .int .i64 x.now] 41)).alloc (.cells #[.int .i64 (6), .int .i64 ((j : Int) + 1)] 44)).alloc (.cells #[.slice none 0 0, .slice none 0 0, .int .i64 0] 41) := ⟨_, rfl⟩
  have hF := Fr.start3 h (6) ((j : Int) + 1)
  have hD : Row W (w.heap.size + 1) 44 [.int .i64 (6), .int .i64 ((j : Int) + 1)] := by
    rw [hW]
    have := (Row.made (w.alloc (.cells #[.slice a1 x.P.length c1, .slice a2 x.sems.length c2, .int .i64 x.now] 41)) [.int .i64 (6), .int .i64 ((j : Int) + 1)] 44).alloc (.cells #[.slice none 0 0, .slice none 0 0, .int .i64 0] 41)
    simpa using this
  rw [← hW] at hF
  have HW := Lib.hid hW
  obtain ⟨q0, hq0⟩ : ∃ q, q = w.heap.size := ⟨_, rfl⟩
  obtain ⟨qd, hqd⟩ : ∃ q, q = w.heap.size + 1 := ⟨_, rfl⟩
  obtain ⟨q1, hq1⟩ : ∃ q, q = w.heap.size + 2 := ⟨_, rfl⟩
  have HQ0 := Lib.hid hq0
  have HQ1 := Lib.hid hq1
  have HQD := Lib.hid hqd
  rw [← hq1, ← hq0] at hF
  rw [← hqd] at hD
  have HF := Lib.hid hF
  have HD := Lib.hid hD
  have HA := Lib.hid (c_rActive hF.v hn)
  unfold refV at HA
  rw [hA] at HA
  clear h hW hF hD hq0 hq1 hqd
  unfold refV
  go_enter Try.func22, Try.ntmps22
  go_wp2_with fail
  rw [← HW.out, ← HQ1.out, ← HQD.out, ← HQ0.out]
  refine HA.out.mono ?_
  rintro e v3 ⟨rfl, b3⟩
  have HF := Lib.hid (HF.out.below b3)
  have HD := Lib.hid (HD.out.keep (l := []) (.of_below b3) (by simp))
  clear b3 HA
  have HZL := Lib.hid (show 0 < (sigsR x j (s + 1)).sems.length from by show 0 < (x.sems.set j (s + 1)).length; simp; omega)
  have HL := Lib.hid hL
  clear hL
  have e1 : (j : Int) + 1 - 1 = j := by omega
  have hAT := c_rAt HF.out.v hn (by omega) (3 + j) 0 (by omega) (by omega)
  unfold refV at hAT
  rw [show ((3 + j : Nat) : Int) = 2 + ((j : Int) + 1) from by omega, show ((0 : Nat) : Int) = 0 from rfl, HL.out] at hAT
  have HAT := Lib.hid hAT
  clear hAT
  have kq0 := HF.out.r0.cell (i := 0) rfl
  have kq1 := HF.out.r0.cell (i := 1) rfl
  have kq2 := HF.out.r0.cell (i := 2) rfl
  have d0 := HD.out.cell (i := 0) rfl
  have d1 := HD.out.cell (i := 1) rfl
  go_wp2_with fail
  refine HAT.out.mono ?_
  rintro e v4 ⟨v, rfl, own, bel⟩
  obtain ⟨av, cv, rfl, -, -, -⟩ := owns_reads own
  have HF := Lib.hid (HF.out.below bel)
  have HD := Lib.hid (HD.out.keep (l := []) (.of_below bel) (by simp))
  clear kq0 kq1 kq2 d0 d1 own bel HAT
  obtain ⟨sb, so, rfl, hsb, hsc⟩ := HF.out.v.rs.at (by simp; omega)
  have ps : v4.cell? ⟨sb, so + j, none⟩ = some (.int .i64 ((s : Int))) := by have := hsc j _ (intsN_get hj); rw [hs] at this; exact this
  clear hsc
  clear hs
  have kq0 := HF.out.r0.cell (i := 0) rfl
  have kq1 := HF.out.r0.cell (i := 1) rfl
  have kq2 := HF.out.r0.cell (i := 2) rfl
  have d0 := HD.out.cell (i := 0) rfl
  have d1 := HD.out.cell (i := 1) rfl
  have HSG := Lib.hid (c_rSignals (w := v4.drew) ((HF.out.below (bDrew (Below.refl _ v4))).v) hn hm j (s + 1) hj)
  have hsq1 : sb ≠ q1 := fun e => HF.out.o.2 (by omega) _ rfl (by simp [e])
  have HSQ := Lib.hid hsq1
  clear hsq1
  go_wp2_with fail
  refine wp_region_planH (fun z => z.cell? ⟨q0, 0, none⟩ = some (.slice a1 x.P.length c1) ∧ z.cell? ⟨q0, 1, none⟩ = some (.slice (some ⟨sb, so, none⟩) x.sems.length c2) ∧ z.cell? ⟨q0, 2, none⟩ = some (.int .i64 x.now) ∧ z.cell? ⟨qd, 1, none⟩ = some (.int .i64 ((j : Int) + 1)) ∧ z.cell? ⟨sb, so + j, none⟩ = some (.int .i64 (s : Int))) [(0, true), (1, true), (2, true), (3, true), (4, true), (5, true), (6, true), (7, true), (8, true), (9, true), (10, true), (11, false), (12, false), (13, true), (14, true)] (by kernel_rfl) (by kernel_rfl) (fun _ _ _ _ _ h => h) ⟨kq0, kq1, kq2, d1, ps⟩ ?_
  have HS : v4.drew.cell? ⟨q0, 0, none⟩ = some (.slice a1 x.P.length c1) ∧ v4.drew.cell? ⟨q0, 1, none⟩ = some (.slice (some ⟨sb, so, none⟩) x.sems.length c2) ∧ v4.drew.cell? ⟨q0, 2, none⟩ = some (.int .i64 x.now) ∧ v4.drew.cell? ⟨qd, 1, none⟩ = some (.int .i64 ((j : Int) + 1)) ∧ v4.drew.cell? ⟨sb, so + j, none⟩ = some (.int .i64 (s : Int)) := ⟨kq0, kq1, kq2, d1, ps⟩
  clear kq0 kq1 kq2 d0 d1 ps
  (repeat (refine wpPlanH_free rfl (fun K hK => ?_); go_simp; (try go_bits); refine hK _ ?_; clear hK K))
  refine wpPlanH_load (.agg #[.slice a1 x.P.length c1, .slice (some ⟨sb, so, none⟩) x.sems.length c2, .int .i64 x.now]) rfl rfl (fun x hS => by obtain ⟨s0, s1, s2, s3, s4⟩ := hS; go_simp) (fun K hK => ?_)
  refine hK _ ?_
  clear hK K
  (repeat (refine wpPlanH_free rfl (fun K hK => ?_); go_simp; (try go_bits); refine hK _ ?_; clear hK K))
  refine wpPlanH_load (.int .i64 ((j : Int) + 1)) rfl rfl (fun x hS => by obtain ⟨s0, s1, s2, s3, s4⟩ := hS; go_simp) (fun K hK => ?_)
  refine hK _ ?_
  clear hK K
  (repeat (refine wpPlanH_free rfl (fun K hK => ?_); go_simp; (try go_bits); refine hK _ ?_; clear hK K))
  refine wpPlanH_load (.slice (some ⟨sb, so, none⟩) x.sems.length c2) rfl rfl (fun x hS => by obtain ⟨s0, s1, s2, s3, s4⟩ := hS; go_simp) (fun K hK => ?_)
  refine hK _ ?_
  clear hK K
  (repeat (refine wpPlanH_free rfl (fun K hK => ?_); go_simp; (try go_bits); refine hK _ ?_; clear hK K))
  refine wpPlanH_load (.int .i64 ((j : Int) + 1)) rfl rfl (fun x hS => by obtain ⟨s0, s1, s2, s3, s4⟩ := hS; go_simp) (fun K hK => ?_)
  refine hK _ ?_
  clear hK K
  (repeat (refine wpPlanH_free rfl (fun K hK => ?_); go_simp; (try go_bits); refine hK _ ?_; clear hK K))
  refine wpPlanH_load (.int .i64 (s : Int)) rfl rfl (fun x hS => by obtain ⟨s0, s1, s2, s3, s4⟩ := hS; go_simp) (fun K hK => ?_)
  refine hK _ ?_
  clear hK K
  (repeat (refine wpPlanH_free rfl (fun K hK => ?_); go_simp; (try go_bits); refine hK _ ?_; clear hK K))
  refine wpPlanH_sole rfl ?_
  have hSG := HSG.out
  unfold refV at hSG
  rw [show ((s + 1 : Nat) : Int) = (s : Int) + 1 from by omega] at hSG
  have HSG := Lib.hid hSG
  clear hSG
  go_wp2_with fail
  refine HSG.out.mono ?_
  rintro e v6 ⟨g6, e6, rfl, hv6, hb6, hg6⟩
  have hS6 := And.intro (cellKeep hb6 HS.1) (And.intro (cellKeep hb6 HS.2.1) (And.intro (cellKeep hb6 HS.2.2.1) (And.intro (cellKeep hb6 HS.2.2.2.1) (cellKeep hb6 HS.2.2.2.2))))
  have hb6' : Below v4.heap.size v4 v6 := bNext (bDrew (Below.refl _ v4)) hb6
  have hg6' : v4.heap.size ≤ g6 := hg6
  have hoff : Off a1 (some ⟨g6, 0, none⟩) (sigsR x j (s + 1)) [q0, q1] := ⟨HF.out.o.1, fun hp u hu hm => by
    cases hu
    have h2 := HF.out.r0.lt
    have h3 := HF.out.r1.lt
    simp at hm
    omega⟩
  have HFq := Lib.hid HF.out
  have HF := Lib.hid (HF.out.below hb6')
  have HGG := Lib.hid (show w.heap.size ≤ g6 from Nat.le_trans HFq.out.b.size hg6')
  clear hb6 hb6' hg6 hg6' HS HSG
  unfold refV
  go_wp2
  refine ⟨hS6, ?_⟩
  have HS6 := Lib.hid hS6
  clear hS6
  have y0 := HF.out.r1.cell (i := 0) rfl
  have y1 := HF.out.r1.cell (i := 1) rfl
  have y2 := HF.out.r1.cell (i := 2) rfl
  have g0 := HF.out.r1.free 0
  have g1 := HF.out.r1.free 1
  have g2 := HF.out.r1.free 2
  generalize sigsR x j (s + 1) = z at *
  refine wpPlanH_sole rfl ?_
  go_wp2
  obtain ⟨w8, hw8⟩ : ∃ zw, zw = ((v6.setCell ⟨q1, 0, none⟩ (.slice a1 z.P.length c1)).setCell ⟨q1, 1, none⟩ (.slice (some ⟨g6, 0, none⟩) z.sems.length e6)).setCell ⟨q1, 2, none⟩ (.int .i64 z.now) := ⟨_, rfl⟩
  have U8 : Upd [q1] v6 w8 := by rw [hw8]; exact (((Upd.refl [q1] _).setCell (by simp) _).setCell (by simp) _).setCell (by simp) _
  have fin := HF.out.fin (b' := a1) (d' := c1) (a' := some ⟨g6, 0, none⟩) (c' := e6) (z := z) (Below.refl _ _) hv6 hoff
  rw [← hw8] at fin ⊢
  have n0 : q0 ∉ [q1] := by have := HF.out.q'; simp; omega
  have nd : qd ∉ [q1] := by have h1 := HQD.out; have h2 := HQ1.out; simp; omega
  have ns : sb ∉ [q1] := by simp; exact HSQ.out
  refine ⟨⟨cellU U8 HS6.out.1 n0, cellU U8 HS6.out.2.1 n0, cellU U8 HS6.out.2.2.1 n0, cellU U8 HS6.out.2.2.2.1 nd, cellU U8 HS6.out.2.2.2.2 ns⟩, ?_⟩
  have HFI := Lib.hid fin
  have z0 := fin.r.cell (i := 0) rfl
  have z1 := fin.r.cell (i := 1) rfl
  have z2 := fin.r.cell (i := 2) rfl
  clear hw8 fin U8 n0 nd ns y0 y1 y2 g0 g1 g2
  (repeat (refine wpPlanH_free rfl (fun K hK => ?_); go_simp; (try go_bits); refine hK _ ?_; clear hK K))
  refine wpPlanH_nil ?_
  (try simp only [Exit.then])
  go_wp2
  refine bodyPost_ret (by rw [results_cell3 rfl]; go_simp; rfl) rfl ?_
  exact ⟨_, _, _, _, rfl, HFI.out.v, HFI.out.b, fun y hy => .inl hy, fun y hy => .inr (by cases hy; exact ⟨HGG.out, HZL.out⟩)⟩

theorem st_6d (h : RefV w a1 c1 a2 c2 x) (hn : x.P.length ≤ 100) (hm : x.sems.length ≤ 100) (hnow : x.now ≤ 990000) (j k : Nat) (t : List Int) (A : Int) (hA : ((actR x : Nat) : Int) = A) (hj : j < x.sems.length) (hk : k < x.P.length) (hL : atL x (3 + j) 0 = ((k : Int) + 1) :: t) (hms : (madeR x k).sems = x.sems) :
    Calls Try.prog 22 #[refV a1 c1 a2 c2 x, .agg #[.int .i64 (6), .int .i64 ((j : Int) + 1)]] w (StPost a1 a2 (madeR x k) 0 0 w) := by
  obtain ⟨W, hW⟩ : ∃ W, W = ((w.alloc (.cells #[.slice a1 x.P.length c1, .slice a2 x.sems.length c2, .int .i64 x.now] 41)).alloc (.cells #[.int .i64 (6), .int .i64 ((j : Int) + 1)] 44)).alloc (.cells #[.slice none 0 0, .slice none 0 0, .int .i64 0] 41) := ⟨_, rfl⟩
  have hF := Fr.start3 h (6) ((j : Int) + 1)
  have hD : Row W (w.heap.size + 1) 44 [.int .i64 (6), .int .i64 ((j : Int) + 1)] := by
    rw [hW]
    have := (Row.made (w.alloc (.cells #[.slice a1 x.P.length c1, .slice a2 x.sems.length c2, .int .i64 x.now] 41)) [.int .i64 (6), .int .i64 ((j : Int) + 1)] 44).alloc (.cells #[.slice none 0 0, .slice none 0 0, .int .i64 0] 41)
    simpa using this
  rw [← hW] at hF
  have HW := Lib.hid hW
  obtain ⟨q0, hq0⟩ : ∃ q, q = w.heap.size := ⟨_, rfl⟩
  obtain ⟨qd, hqd⟩ : ∃ q, q = w.heap.size + 1 := ⟨_, rfl⟩
  obtain ⟨q1, hq1⟩ : ∃ q, q = w.heap.size + 2 := ⟨_, rfl⟩
  have HQ0 := Lib.hid hq0
  have HQ1 := Lib.hid hq1
  have HQD := Lib.hid hqd
  rw [← hq1, ← hq0] at hF
  rw [← hqd] at hD
  have HF := Lib.hid hF
  have HD := Lib.hid hD
  have HA := Lib.hid (c_rActive hF.v hn)
  unfold refV at HA
  rw [hA] at HA
  clear h hW hF hD hq0 hq1 hqd
  unfold refV
  go_enter Try.func22, Try.ntmps22
  go_wp2_with fail
  rw [← HW.out, ← HQ1.out, ← HQD.out, ← HQ0.out]
  refine HA.out.mono ?_
  rintro e v3 ⟨rfl, b3⟩
  have HF := Lib.hid (HF.out.below b3)
  have HD := Lib.hid (HD.out.keep (l := []) (.of_below b3) (by simp))
  clear b3 HA
  have HL := Lib.hid hL
  clear hL
  have HMS := Lib.hid hms
  clear hms
  have HLEN := Lib.hid (show t.length ≤ 100 from by have h1 := atL_len x (3 + j) 0; rw [HL.out] at h1; simp at h1; omega)
  have hAT := c_rAt HF.out.v hn (by omega) (3 + j) 0 (by omega) (by omega)
  unfold refV at hAT
  rw [show ((3 + j : Nat) : Int) = 2 + ((j : Int) + 1) from by omega, show ((0 : Nat) : Int) = 0 from rfl, HL.out] at hAT
  have HAT := Lib.hid hAT
  clear hAT
  have k0 := HF.out.r0.cell (i := 0) rfl
  have k1 := HF.out.r0.cell (i := 1) rfl
  have k2 := HF.out.r0.cell (i := 2) rfl
  have d0 := HD.out.cell (i := 0) rfl
  have d1 := HD.out.cell (i := 1) rfl
  go_wp2_with fail
  refine HAT.out.mono ?_
  rintro e v4 ⟨v, rfl, own, bel⟩
  obtain ⟨av, cv, rfl, hR4, -, -⟩ := owns_reads own
  obtain ⟨lb, lo, rfl, _, hc4⟩ := hR4.at (by simp)
  have kl : v4.cell? ⟨lb, lo, none⟩ = some (.int .i64 ((k : Int) + 1)) := hc4 0 _ rfl
  have HF := Lib.hid (HF.out.below bel)
  have HD := Lib.hid (HD.out.keep (l := []) (.of_below bel) (by simp))
  have hpos : (0 : Int) < (t.length : Int) + 1 := by omega
  clear k0 k1 k2 d0 d1 own bel HAT hR4 hc4
  have k0 := HF.out.r0.cell (i := 0) rfl
  have k1 := HF.out.r0.cell (i := 1) rfl
  have k2 := HF.out.r0.cell (i := 2) rfl
  have d0 := HD.out.cell (i := 0) rfl
  have d1 := HD.out.cell (i := 1) rfl
  have HMD := Lib.hid (c_rMade (w := v4.drew) ((HF.out.below (bDrew (Below.refl _ v4))).v) hn (by omega) k hk)
  go_wp2_with fail
  refine wp_region_U (fun z => z.cell? ⟨q0, 0, none⟩ = some (.slice a1 x.P.length c1) ∧ z.cell? ⟨q0, 1, none⟩ = some (.slice a2 x.sems.length c2) ∧ z.cell? ⟨q0, 2, none⟩ = some (.int .i64 x.now) ∧ z.cell? ⟨lb, lo, none⟩ = some (.int .i64 ((k : Int) + 1))) [0, 1, 2, 3, 4] (.load 0 (.load 1 (.load 2 (.load 3 (.sole 4 (.late 5 (.free 6 (.free 7 .fin)))))))) (by kernel_rfl) (by kernel_rfl) (fun _ _ _ _ _ h => h) ?_
  have HS : (fun z : World => z.cell? ⟨q0, 0, none⟩ = some (.slice a1 x.P.length c1) ∧ z.cell? ⟨q0, 1, none⟩ = some (.slice a2 x.sems.length c2) ∧ z.cell? ⟨q0, 2, none⟩ = some (.int .i64 x.now) ∧ z.cell? ⟨lb, lo, none⟩ = some (.int .i64 ((k : Int) + 1))) v4.drew := ⟨k0, k1, k2, kl⟩
  clear k0 k1 k2 d0 d1 kl
  refine wpU_load (.agg #[.slice a1 x.P.length c1, .slice a2 x.sems.length c2, .int .i64 x.now]) HS rfl rfl (fun x hS => by obtain ⟨s0, s1, s2, s3⟩ := hS; go_simp) (fun K hK => ?_)
  refine hK _ ?_
  clear hK K
  (repeat (refine wpU_pure HS rfl (fun K hK => ?_); go_simp; (try go_bits); refine hK _ ?_; clear hK K))
  refine wpU_load (.int .i64 ((k : Int) + 1)) HS rfl rfl (fun x hS => by obtain ⟨s0, s1, s2, s3⟩ := hS; go_simp) (fun K hK => ?_)
  refine hK _ ?_
  clear hK K
  (repeat (refine wpU_pure HS rfl (fun K hK => ?_); go_simp; (try go_bits); refine hK _ ?_; clear hK K))
  refine wpU_sole rfl ?_
  have hMD := HMD.out
  unfold refV at hMD
  have HMD := Lib.hid hMD
  clear hMD
  go_wp2_with fail
  refine HMD.out.mono ?_
  rintro e v6 ⟨b6, e6, rfl, hv6, hb6, hbg⟩
  have hS6 := And.intro (cellKeep hb6 HS.1) (And.intro (cellKeep hb6 HS.2.1) (And.intro (cellKeep hb6 HS.2.2.1) (cellKeep hb6 HS.2.2.2)))
  have hb6' : Below v4.heap.size v4 v6 := bNext (bDrew (Below.refl _ v4)) hb6
  have hoff : Off b6 a2 (madeR x k) [q0, q1] := by
    rcases hbg with rfl | ⟨g, rfl, hg⟩
    · exact ⟨fun _ => HF.out.o.1 (by omega), fun hp => HF.out.o.2 (by have := HMS.out; rw [this] at hp; exact hp)⟩
    · exact HF.out.off hg HMS.out
  have HNA : Hid (NewAt w a1 b6 (madeR x k).P.length) := fun y hy => by
    rcases hbg with h | ⟨g, h, hg⟩
    · rw [h] at hy; exact .inl hy
    · rw [h] at hy; cases hy; exact .inr ⟨Nat.le_trans HF.out.b.size hg, by rw [madeR_len]; omega⟩
  have HF := Lib.hid (HF.out.below hb6')
  clear hb6 hb6' hbg HS HMD
  unfold refV
  generalize madeR x k = z at *
  go_wp2
  refine ⟨hS6, ?_⟩
  clear hS6
  have y0 := HF.out.r1.cell (i := 0) rfl
  have y1 := HF.out.r1.cell (i := 1) rfl
  have y2 := HF.out.r1.cell (i := 2) rfl
  have g0 := HF.out.r1.free 0
  have g1 := HF.out.r1.free 1
  have g2 := HF.out.r1.free 2
  refine wpU_late rfl ?_
  go_wp2
  (repeat (refine wpU_free rfl (fun K hK => ?_); go_simp; (try go_bits); refine hK _ ?_; clear hK K))
  refine wpU_fin ?_
  go_wp2
  obtain ⟨w9, hw9⟩ : ∃ zw, zw = ((v6.setCell ⟨q1, 0, none⟩ (.slice b6 ((z).P.length) e6)).setCell ⟨q1, 1, none⟩ (.slice a2 ((z).sems.length) c2)).setCell ⟨q1, 2, none⟩ (.int .i64 (z).now) := ⟨_, rfl⟩
  have fin := HF.out.fin (b' := b6) (d' := e6) (a' := a2) (c' := c2) (z := z) (Below.refl _ _) hv6 hoff
  rw [← hw9] at fin ⊢
  have HFI := Lib.hid fin
  have hrr := fin.r
  have z0 := hrr.cell (i := 0) rfl
  have z1 := hrr.cell (i := 1) rfl
  have z2 := hrr.cell (i := 2) rfl
  clear hw9 fin hrr
  (try simp only [Exit.inBlock, Exit.then, Exit.noGoto])
  refine bodyPost_ret (by rw [results_cell3 rfl]; go_simp; rfl) rfl ?_
  exact ⟨_, _, _, _, rfl, HFI.out.v, HFI.out.b, fun y hy => HNA.out y hy, fun y hy => .inl hy⟩

end

end Go.Proofs.Ytbkaafbkmcgfjaa
