/-
  The document's answer of chapter 20: signals.
-/
import Derived.Test.YtbkaafbkmcgfjaaSchedY
namespace Go.Proofs.Ytbkaafbkmcgfjaa
open Go.RowKit
set_option linter.unusedVariables false
set_option maxHeartbeats 4000000
set_option maxRecDepth 20000

def intsN (l : List Nat) : List Value := l.map (fun (n : Nat) => .int .i64 (n : Int))
theorem intsN_get {l : List Nat} {j : Nat} (h : j < l.length) : (intsN l)[j]? = some (.int .i64 (l.getD j 0 : Nat)) := by
  unfold intsN
  rw [List.getElem?_map, List.getElem?_eq_getElem h, List.getD_eq_getElem?_getD, List.getElem?_eq_getElem h]; rfl
theorem intsN_one (l : List Nat) : ∀ u ∈ intsN l, u.oneCell' = true := by
  intro u hu
  obtain ⟨y, _, rfl⟩ := List.mem_map.1 hu
  rfl
theorem intsN_len (l : List Nat) : (intsN l).length = l.length := by simp [intsN]
theorem intsN_set (l : List Nat) (j v : Nat) : (intsN l).set j (.int .i64 v) = intsN (l.set j v) := by simp [intsN]

def GPost (a1 : Option Addr) (c1 : Nat) (x' : RS) (w : World) (e : Ending) (w' : World) : Prop :=
  ∃ g c2, e = .returned (refV a1 c1 (some ⟨g, 0, none⟩) c2 x') ∧ RefV w' a1 c1 (some ⟨g, 0, none⟩) c2 x' ∧ Below w.heap.size w w' ∧ w.heap.size ≤ g

theorem c_rSignals {w : World} {a1 a2 : Option Addr} {c1 c2 : Nat} {x : RS} (h : RefV w a1 c1 a2 c2 x) (hn : x.P.length ≤ 100) (hm : x.sems.length ≤ 100) (j v : Nat) (hj : j < x.sems.length) :
    Calls Try.prog 40 #[refV a1 c1 a2 c2 x, .int .i64 ((j : Int) + 1), .int .i64 v] w (GPost a1 c1 (sigsR x j v) w) := by
  obtain ⟨W, hW⟩ : ∃ W, W = (w.alloc (.cells #[.slice a1 x.P.length c1, .slice a2 x.sems.length c2, .int .i64 x.now] 41)).alloc (.cells #[.slice none 0 0, .slice none 0 0, .int .i64 0] 41) := ⟨_, rfl⟩
  have hF := Fr.start h
  rw [← hW] at hF
  have hsz : W.heap.size = w.heap.size + 2 := by rw [hW]; simp
  have HW := Lib.hid hW
  obtain ⟨q0, hq0⟩ : ∃ q, q = w.heap.size := ⟨_, rfl⟩
  obtain ⟨q1, hq1⟩ : ∃ q, q = w.heap.size + 1 := ⟨_, rfl⟩
  have HQ0 := Lib.hid hq0
  have HQ1 := Lib.hid hq1
  have HSZ := Lib.hid hsz
  rw [← hq1, ← hq0] at hF
  have HF := Lib.hid hF
  have HF0 := Lib.hid HF.out
  have hjj : (j : Int) + 1 - 1 = (j : Int) := by omega
  clear h hW hF hq0 hq1 hsz
  unfold refV
  go_enter Try.func40, Try.ntmps40
  go_wp2_with (at_builtin; refine wpList_app rfl _ _ 35 rfl (w.heap.size + 2) 3 (.int .i64 0) 1 8 Try.underlying35 inf_int rfl (by decide) _ 0 [] rfl (World.ownsRow_nil _ _ _ _) a2 x.sems.length c2 (intsN x.sems) rfl (by rw [intsN_len, Nat.mul_one]) (HW.out ▸ HF.out.v.rs) (intsN_one _) (by unfold maxLen; omega) (by omega) (by simp) ?_)
  intro v' w2 own gr
  rw [← HW.out] at gr
  rw [← HQ1.out, ← HQ0.out]
  rw [← HQ0.out] at own
  have u2 : Upd [] W w2 := by have := grown_upd gr; simpa [Value.ownBlock] using this
  obtain ⟨g, cap, cur, rfl, hgb, hrow, htk, hnc, hcm, hcl⟩ := owns_block own (by omega)
  rw [Nat.mul_one] at hcl htk
  have htk : cur.take x.sems.length = intsN x.sems := by simpa using htk
  have hnc : x.sems.length ≤ cap := by simpa using hnc
  have hb2 : Below W.heap.size W w2 := u2.below (Nat.le_refl _) (by simp)
  have HF := Lib.hid (HF.out.below hb2)
  have hg0 : g ≠ q0 := by omega
  have hg1 : g ≠ q1 := by have := HQ1.out; have := HQ0.out; omega
  have hjc : j < cur.length := by rw [hcl]; omega
  have kc1 : w2.cell? ⟨g, j, none⟩ = some (cur[j]'hjc) := hrow.cell (List.getElem?_eq_getElem hjc)
  have kf1 := hrow.free j
  have kq0 := HF.out.r0.cell (i := 0) rfl
  have kq2 := HF.out.r0.cell (i := 2) rfl
  have y0 := HF.out.r1.cell (i := 0) rfl
  have y1 := HF.out.r1.cell (i := 1) rfl
  have y2 := HF.out.r1.cell (i := 2) rfl
  have g0 := HF.out.r1.free 0
  have g1 := HF.out.r1.free 1
  have g2 := HF.out.r1.free 2
  have hq01 : q0 ≠ q1 := by have := HQ1.out; have := HQ0.out; omega
  have hq10 : q1 ≠ q0 := fun e => hq01 e.symm
  have HRow := Lib.hid hrow
  have HTK := Lib.hid htk
  have HGB := Lib.hid hgb
  have HB2 := Lib.hid hb2
  generalize cur[j] = z1 at *
  clear own gr u2 hrow htk hcm hb2 hgb
  go_wp2
  obtain ⟨w3, hw3⟩ : ∃ zw, zw = w2.setCell ⟨g, j, none⟩ (.int .i64 v) := ⟨_, rfl⟩
  obtain ⟨w9, hw9⟩ : ∃ zw, zw = ((w3.setCell ⟨q1, 0, none⟩ (.slice a1 x.P.length c1)).setCell ⟨q1, 1, none⟩ (.slice (some ⟨g, 0, none⟩) x.sems.length cap)).setCell ⟨q1, 2, none⟩ (.int .i64 x.now) := ⟨_, rfl⟩
  have U3 : Upd [g] w2 w3 := by rw [hw3]; exact (Upd.refl [g] w2).setCell (by simp) _
  have RG : Row w3 g 3 (cur.set j (.int .i64 v)) := by rw [hw3]; exact HRow.out.set _ _
  have R1 : Row w9 q1 41 [.slice a1 x.P.length c1, .slice (some ⟨g, 0, none⟩) x.sems.length cap, .int .i64 x.now] := by
    rw [hw9]
    exact (((HF.out.r1.keep U3 (by simp; exact fun e => hg1 e.symm)).set 0 _).set 1 _).set 2 _
  have U9 : Upd [q1] w3 w9 := by rw [hw9]; exact (((Upd.refl [q1] w3).setCell (by simp) _).setCell (by simp) _).setCell (by simp) _
  rw [← hw3, ← hw9]
  have HU := Lib.hid ((U3.mono (m := [g, q1]) (by simp)).trans (U9.mono (m := [g, q1]) (by simp)))
  have HRG := Lib.hid (RG.keep U9 (by simpa using hg1))
  have z0 := R1.cell (i := 0) rfl
  have z1' := R1.cell (i := 1) rfl
  have z2' := R1.cell (i := 2) rfl
  clear hw3 hw9 U3 U9 RG R1 kc1 kf1 kq0 kq2 y0 y1 y2 g0 g1 g2
  (try simp only [Exit.inBlock, Exit.then])
  refine bodyPost_ret (by rw [results_cell20 rfl]; go_simp; rfl) rfl ?_
  have hsz := HSZ.out
  have hq0 := HQ0.out
  have hq1 := HQ1.out
  have hgb := HGB.out
  refine ⟨g, cap, ?_, ⟨?_, ?_⟩, ?_, by omega⟩
  · unfold refV
    rw [show (sigsR x j v).sems.length = x.sems.length from List.length_set]
    rfl
  · show Reads w9 a1 c1 (flatP x.P)
    have hr := HF.out.v.rp
    by_cases hp : 0 < x.P.length
    · exact HU.out.reads hr (fun y hy hm => by
        simp at hm
        rcases hm with hm | hm
        · obtain ⟨b, o, ha, hb, _⟩ := HF0.out.v.rp.at (by rw [flatP_len]; omega)
          rw [ha] at hy; cases hy
          simp at hm
          omega
        · exact HF.out.o.1 hp y hy (by simp [hm]))
    · have e : x.P = [] := List.eq_nil_of_length_eq_zero (by omega)
      rw [e] at hr ⊢
      exact reads_nil hr
  · show Reads w9 (some ⟨g, 0, none⟩) cap (intsN (x.sems.set j v))
    rw [← intsN_set]
    refine HRG.out.reads (fun i u hu => ?_)
    rw [Nat.zero_add]
    rw [← HTK.out, ← List.take_set, List.getElem?_take] at hu
    split at hu
    · exact hu
    · cases hu
  · rw [← hq0]
    exact HF.out.b.trans (HU.out.below (by rw [hq0]; exact HF.out.b.size) (fun y hy => by simp at hy; omega))

end Go.Proofs.Ytbkaafbkmcgfjaa
