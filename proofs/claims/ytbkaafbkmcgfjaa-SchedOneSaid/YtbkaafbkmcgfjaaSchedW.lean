/-
  The document's answer of chapter 20: put.
-/
import Derived.Test.YtbkaafbkmcgfjaaSchedV
namespace Go.Proofs.Ytbkaafbkmcgfjaa
open Go.RowKit
set_option linter.unusedVariables false
set_option maxHeartbeats 4000000
set_option maxRecDepth 20000

theorem results_cell20 {fn : Func} {p : Tmp} {ty : TypeId} (h : fn.results = #[.cell p ty]) (tmps : Array Value) (P : Program) (w : World) :
    (results fn tmps).run P w = ((asAddr (tmps.getD p undef)).run P w).andThen fun a w₁ => (loadVar ty a).run P w₁ := by
  simp only [results, h]
  simp [Sem.run_bind, Result.andThen]

theorem inf_proc : (Try.prog.info? 74).map (fun i => (i.zero, i.size, i.bytes)) = some (some (.agg #[.int .i64 0, .int .i64 0, .int .i64 0]), 3, 24) := by kernel_rfl
theorem flatP_one (P : List Pr) : ∀ u ∈ flatP P, u.oneCell' = true := by
  intro u hu
  obtain ⟨q, _, hq⟩ := List.mem_flatMap.1 hu
  unfold cellsP at hq
  simp at hq
  rcases hq with rfl | rfl | rfl <;> rfl
theorem flatP_set : ∀ {P : List Pr} {k : Nat} {q : Pr} (w s : Nat), P[k]? = some q → ((flatP P).set (k * 3 + 1) (.int .i64 w)).set (k * 3 + 2) (.int .i64 s) = flatP (P.set k ⟨q.pr, w, s⟩)
  | [], k, q, w, s, h => by simp at h
  | p :: P, 0, q, w, s, h => by
    simp at h
    subst h
    rfl
  | p :: P, k + 1, q, w, s, h => by
    have ih := flatP_set (P := P) (k := k) (q := q) w s (by simpa using h)
    show ((cellsP p ++ flatP P).set ((k + 1) * 3 + 1) _).set ((k + 1) * 3 + 2) _ = cellsP p ++ flatP (P.set k _)
    rw [← ih, List.set_append_right _ _ (by show 3 ≤ _; omega), List.set_append_right _ _ (by show 3 ≤ _; omega)]
    congr 2
    · congr 1
      show (k + 1) * 3 + 1 - 3 = _
      omega
    · show (k + 1) * 3 + 2 - 3 = _
      omega

theorem owns_block {w : World} {base : Nat} {e : TypeId} {size : Nat} {v : Value} {n : Nat} {xs : List Value} (h : w.ownsRow base e size v n xs) (hn : 0 < n) :
    ∃ g c cur, v = .slice (some ⟨g, 0, none⟩) n c ∧ base ≤ g ∧ Row w g e cur ∧ cur.take (n * size) = xs ∧ n ≤ c ∧ c ≤ maxLen ∧ cur.length = c * size := by
  rcases h.2 with ⟨_, rfl⟩ | ⟨g, cap, cur, rfl, hb, hg, hnc, hm, hs, ht⟩
  · omega
  · exact ⟨g, cap, cur.toList, rfl, hb, by unfold Row; simpa using hg, by simpa using ht, hnc, hm, by simpa using hs⟩

/-- Another state of the document's comes back; what lay below stays. -/
def RPost (a1 a2 : Option Addr) (c2 : Nat) (x' : RS) (w : World) (e : Ending) (w' : World) : Prop :=
  ∃ b1 d1, e = .returned (refV b1 d1 a2 c2 x') ∧ RefV w' b1 d1 a2 c2 x' ∧ Below w.heap.size w w' ∧ (b1 = a1 ∨ ∃ g, b1 = some ⟨g, 0, none⟩ ∧ w.heap.size ≤ g)

def PPost (a2 : Option Addr) (c2 : Nat) (x' : RS) (w : World) (e : Ending) (w' : World) : Prop :=
  ∃ g c1, e = .returned (refV (some ⟨g, 0, none⟩) c1 a2 c2 x') ∧ RefV w' (some ⟨g, 0, none⟩) c1 a2 c2 x' ∧ Below w.heap.size w w' ∧ w.heap.size ≤ g

theorem c_rPut {w : World} {a1 a2 : Option Addr} {c1 c2 : Nat} {x : RS} (h : RefV w a1 c1 a2 c2 x) (hn : x.P.length ≤ 100) (hnow : x.now ≤ 1000000) (k wv : Nat) (hk : k < x.P.length) (hwv : wv ≤ 200) :
    Calls Try.prog 38 #[refV a1 c1 a2 c2 x, .int .i64 ((k : Int) + 1), .int .i64 wv] w (PPost a2 c2 (putR x k wv) w) := by
  obtain ⟨W, hW⟩ : ∃ W, W = (w.alloc (.cells #[.slice a1 x.P.length c1, .slice a2 x.sems.length c2, .int .i64 x.now] 41)).alloc (.cells #[.slice none 0 0, .slice none 0 0, .int .i64 0] 41) := ⟨_, rfl⟩
  have hb : Below w.heap.size w W := by rw [hW]; exact ((Below.refl _ _).alloc (Nat.le_refl _) _).alloc (by simp) _
  have hr : Row W w.heap.size 41 (refC a1 c1 a2 c2 x) := by rw [hW]; exact (Row.made w (refC a1 c1 a2 c2 x) 41).alloc _
  have hr1 : Row W (w.heap.size + 1) 41 [.slice none 0 0, .slice none 0 0, .int .i64 0] := by
    rw [hW]
    have := Row.made (w.alloc (.cells #[.slice a1 x.P.length c1, .slice a2 x.sems.length c2, .int .i64 x.now] 41)) [.slice none 0 0, .slice none 0 0, .int .i64 0] 41
    simpa using this
  have hsz : W.heap.size = w.heap.size + 2 := by rw [hW]; simp
  have HV := Lib.hid (h.below hb)
  have hS0 : 0 < x.sems.length → ∀ y, a2 = some y → y.block < w.heap.size := fun hp y hy => by
    obtain ⟨b, o, ha, hb, _⟩ := h.rs.at (by simpa using hp)
    rw [ha] at hy; cases hy; exact hb
  have HS0 := Lib.hid hS0
  have HB := Lib.hid hb
  have k0 := hr.cell (i := 0) rfl
  have hPS := Lib.hid (flatP_set wv (x.now + 1) (gP_get hk))
  have HW := Lib.hid hW
  obtain ⟨q0, hq0⟩ : ∃ q, q = w.heap.size := ⟨_, rfl⟩
  have HQ0 := Lib.hid hq0
  rw [← hq0] at hr hr1 k0 hsz HB HS0
  have HR0 := Lib.hid hr
  have HR1 := Lib.hid hr1
  have HSZ := Lib.hid hsz
  have hkk : (k : Int) + 1 - 1 = (k : Int) := by omega
  clear h hb hr hr1 hsz hW hq0 hS0
  unfold refV
  go_enter Try.func38, Try.ntmps38
  go_wp2_with (at_builtin; refine wpList_app rfl _ _ 39 rfl (w.heap.size + 2) 74 (.agg #[.int .i64 0, .int .i64 0, .int .i64 0]) 3 24 Try.underlying39 inf_proc rfl (by decide) _ 0 [] rfl (World.ownsRow_nil _ _ _ _) a1 x.P.length c1 _ rfl (flatP_len _) (HW.out ▸ HV.out.rp) (flatP_one _) (by unfold maxLen; omega) (by omega) (by simp) ?_)
  intro v' w2 own gr
  rw [← HW.out] at gr
  rw [← HQ0.out] at own ⊢
  have u2 : Upd [] W w2 := by have := grown_upd gr; simpa [Value.ownBlock] using this
  obtain ⟨g, cap, cur, rfl, hgb, hrow, htk, hnc, hcm, hcl⟩ := owns_block own (by omega)
  have r0 := HR0.out.keep u2 (by simp)
  have r1 := HR1.out.keep u2 (by simp)
  have hg0 : g ≠ q0 := by omega
  have hg1 : g ≠ q0 + 1 := by omega
  have hcur : cur.length = cap * 3 := hcl
  have hk3 : k * 3 + 2 < cur.length := by rw [hcur]; omega
  have kc1 : w2.cell? ⟨g, k * 3 + 1, none⟩ = some (cur[k * 3 + 1]'(by omega)) := hrow.cell (List.getElem?_eq_getElem (by omega))
  have kf1 := hrow.free (k * 3 + 1)
  have kq2 := r0.cell (i := 2) rfl
  have kq1 := r0.cell (i := 1) rfl
  have y0 := r1.cell (i := 0) rfl
  have y1 := r1.cell (i := 1) rfl
  have y2 := r1.cell (i := 2) rfl
  have g0 := r1.free 0
  have g1 := r1.free 1
  have g2 := r1.free 2
  have hq01 : q0 + 1 ≠ q0 := by omega
  have hq10 : q0 ≠ q0 + 1 := by omega
  have kc2 : w2.cell? ⟨g, k * 3 + 2, none⟩ = some (cur[k * 3 + 2]'(by omega)) := hrow.cell (List.getElem?_eq_getElem (by omega))
  have kf2 := hrow.free (k * 3 + 2)
  have HU2 := Lib.hid u2
  have HRow := Lib.hid hrow
  have HTK := Lib.hid htk
  have HR0 := Lib.hid r0
  have HR1 := Lib.hid r1
  have HCM := Lib.hid (And.intro hnc (And.intro hcm hcur))
  have HK3 := Lib.hid hk3
  generalize cur[k * 3 + 1] = z1 at *
  generalize cur[k * 3 + 2] = z2 at *
  clear own gr u2 hrow htk r0 r1 hcm hcl hcur hk3 k0
  go_wp2
  obtain ⟨w3, hw3⟩ : ∃ z, z = (w2.setCell ⟨g, k * 3 + 1, none⟩ (.int .i64 wv)).setCell ⟨g, k * 3 + 2, none⟩ (.int .i64 ((x.now : Int) + 1)) := ⟨_, rfl⟩
  obtain ⟨w9, hw9⟩ : ∃ z, z = ((w3.setCell ⟨q0 + 1, 0, none⟩ (.slice (some ⟨g, 0, none⟩) x.P.length cap)).setCell ⟨q0 + 1, 1, none⟩ (.slice a2 x.sems.length c2)).setCell ⟨q0 + 1, 2, none⟩ (.int .i64 ((x.now : Int) + 1)) := ⟨_, rfl⟩
  have U3 : Upd [g] w2 w3 := by rw [hw3]; exact ((Upd.refl [g] w2).setCell (by simp) _).setCell (by simp) _
  have RG : Row w3 g 74 ((cur.set (k * 3 + 1) (.int .i64 wv)).set (k * 3 + 2) (.int .i64 ((x.now : Int) + 1))) := by rw [hw3]; exact (HRow.out.set _ _).set _ _
  have R1 : Row w9 (q0 + 1) 41 [.slice (some ⟨g, 0, none⟩) x.P.length cap, .slice a2 x.sems.length c2, .int .i64 ((x.now : Int) + 1)] := by
    rw [hw9]
    exact (((HR1.out.keep U3 (by simp; omega)).set 0 _).set 1 _).set 2 _
  have U9 : Upd [q0 + 1] w3 w9 := by rw [hw9]; exact (((Upd.refl [q0 + 1] w3).setCell (by simp) _).setCell (by simp) _).setCell (by simp) _
  rw [← hw3, ← hw9]
  have RG9 := RG.keep U9 (by simp; omega)
  have HU := Lib.hid ((U3.mono (m := [g, q0 + 1]) (by simp)).trans (U9.mono (m := [g, q0 + 1]) (by simp)))
  have HRG := Lib.hid RG9
  have z0 := R1.cell (i := 0) rfl
  have z1' := R1.cell (i := 1) rfl
  have z2' := R1.cell (i := 2) rfl
  clear hw3 hw9 U3 U9 RG R1 RG9 kc1 kf1 kc2 kf2 kq1 kq2 y0 y1 y2 g0 g1 g2
  (try simp only [Exit.inBlock, Exit.then])
  refine bodyPost_ret (by rw [results_cell20 rfl]; go_simp; rfl) rfl ?_
  have hsz := HSZ.out
  have UU : Upd [g, q0 + 1] W w9 := (HU2.out.mono (m := [g, q0 + 1]) (by simp)).trans HU.out
  refine ⟨g, cap, ?_, ⟨?_, ?_⟩, ?_, by rw [← HQ0.out]; omega⟩
  · unfold refV
    rw [put_len, put_sems]
    show _ = Ending.returned (.agg #[_, _, .int .i64 ((x.now + 1 : Nat) : Int)])
    rw [show ((x.now + 1 : Nat) : Int) = (x.now : Int) + 1 from by omega]
  · show Reads w9 (some ⟨g, 0, none⟩) cap (flatP (x.P.set k _))
    rw [← hPS.out]
    refine HRG.out.reads (fun i u hu => ?_)
    rw [Nat.zero_add]
    rw [← HTK.out, ← List.take_set, ← List.take_set, List.getElem?_take] at hu
    split at hu
    · rw [show ((x.now + 1 : Nat) : Int) = (x.now : Int) + 1 from by omega] at hu; exact hu
    · cases hu
  · show Reads w9 a2 c2 (x.sems.map _)
    by_cases hp : 0 < x.sems.length
    · exact UU.reads HV.out.rs (fun y hy hm => by
        have := HS0.out hp y hy
        simp at hm
        omega)
    · have : x.sems = [] := List.eq_nil_of_length_eq_zero (by omega)
      have hr := HV.out.rs
      rw [this] at hr ⊢
      rcases hr with h | ⟨y, rfl, _⟩
      · exact .inl h
      · exact .inr ⟨y, rfl, fun i u hu => by simp at hu⟩
  · rw [← HQ0.out]
    exact HB.out.trans (UU.below (by omega) (fun y hy => by simp at hy; omega))

end Go.Proofs.Ytbkaafbkmcgfjaa
