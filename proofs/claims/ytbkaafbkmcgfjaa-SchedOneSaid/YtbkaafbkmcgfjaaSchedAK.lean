/-
  For the law One: the row of priorities, and the row of what was seen, beside a scheduler.
-/
import Derived.Test.YtbkaafbkmcgfjaaSchedAH
namespace Go.Proofs.Ytbkaafbkmcgfjaa
open Go.RowKit
set_option linter.unusedVariables false
set_option maxHeartbeats 1000000

theorem ready_nat {B : Nat} {x : RS} (h : Inv B x) {p j : Nat} (hp : 1 ≤ p) (hj : j < (atL x 2 p).length) :
    ∃ I A : Nat, 1 ≤ I ∧ I ≤ x.P.length ∧ 1 ≤ A ∧ A ≤ x.P.length ∧ (atL x 2 p).getD j 0 = (I : Int) ∧ (0 :: prs x).getD I 0 = (p : Int) ∧ actR x = A ∧ (p : Int) ≤ (0 :: prs x).getD A 0 ∧
      ¬ D2 x p ((atL x 2 p).take j) I ∧ D2 x p ((atL x 2 p).take (j + 1)) I := by
  obtain ⟨i, a, h1, h2, h3, h4, h5, h6, h7, h8⟩ := ready_one h hp hj
  exact ⟨i + 1, a + 1, by omega, by omega, by omega, by omega, by rw [h3]; rfl, h4, h5, h6, h7, h8⟩
theorem wait_nat {B : Nat} {x : RS} (h : Inv B x) {k j : Nat} (hj : j < (atL x (3 + k) 0).length) :
    ∃ I : Nat, 1 ≤ I ∧ I ≤ x.P.length ∧ (atL x (3 + k) 0).getD j 0 = (I : Int) ∧ x.sems.getD k 0 = 0 ∧ ¬ D3 x k ((atL x (3 + k) 0).take j) I ∧ D3 x k ((atL x (3 + k) 0).take (j + 1)) I := by
  obtain ⟨i, h1, h2, h3, h4, h5⟩ := wait_one h hj
  exact ⟨i + 1, by omega, by omega, by rw [h2]; rfl, h3, h4, h5⟩

theorem D2_take {x : RS} {p j q : Nat} {l : List Int} (h : D2 x p (l.take j) q) : D2 x p (l.take (j + 1)) q :=
  h.imp id (fun ⟨i, h1, h2, h3, h4⟩ => ⟨i, h1, h2, h3, h4.imp id (fun h5 => ⟨h5.1, take_sub h5.2⟩)⟩)
theorem D3_take {x : RS} {p j q : Nat} {l : List Int} (h : D3 x p (l.take j) q) : D3 x p (l.take (j + 1)) q :=
  h.imp id (fun ⟨i, h1, h2, h3⟩ => ⟨i, h1, h2, h3.imp id (fun ⟨k, h4, h5⟩ => ⟨k, h4, h5.imp id (fun h6 => ⟨h6.1, take_sub h6.2⟩)⟩)⟩)

theorem own_some {w : World} {base : Nat} {e : TypeId} {v : Value} {n : Nat} {xs : List Value} (h : w.ownsRow base e 1 v n xs) (hn : 0 < n) : ∃ g c, v = .slice (some ⟨g, 0, none⟩) n c := by
  rcases h.2 with ⟨rfl, rfl⟩ | ⟨g, cap, cur, rfl, -⟩
  · omega
  · exact ⟨g, cap, rfl⟩

/-- The row of priorities, behind a nought. -/
def PO (M bp cp : Nat) (l : List Nat) (n : Nat) (ps : List Int) (w : World) : Prop :=
  ps.length = n ∧ w.ownsRow M 3 1 (.slice (some ⟨bp, 0, none⟩) (n + 1) cp) (n + 1) ((0 :: ps).map (Value.int .i64)) ∧ bp ∉ l

section
variable {M bp cp n g B : Nat} {l : List Nat} {ps ls : List Int} {w w' w0 : World} {K : Lay} {x : RS}
theorem PO.lt (h : PO M bp cp l n ps w) : M ≤ bp ∧ bp < w.heap.size := h.2.1.lt bp rfl
theorem PO.cell (h : PO M bp cp l n ps w) {I : Nat} (hI : I ≤ n) : w.cell? ⟨bp, I, none⟩ = some (.int .i64 ((0 :: ps).getD I 0)) := by
  obtain ⟨a, c, e, hr, -, -⟩ := owns_reads h.2.1
  cases e
  obtain ⟨b, o, e, -, hc⟩ := hr.at (by simp)
  cases e
  have := hc I _ (getD_map8 (show I < (0 :: ps).length by have := h.1; simp; omega))
  rwa [Nat.zero_add] at this
theorem PO.keep (h : PO M bp cp l n ps w) {m : List Nat} (u : Upd m w w') (hb : bp ∉ m) : PO M bp cp l n ps w' :=
  ⟨h.1, u.owns h.2.1 (fun k hk => (Option.some.inj hk) ▸ hb), h.2.2⟩
theorem PO.below (h : PO M bp cp l n ps w) (hb : Below w.heap.size w w') : PO M bp cp l n ps w' := h.keep (m := []) (.of_below hb) (by simp)
theorem PO.mov {l' : List Nat} (h : PO M bp cp l n ps w) (hm : Mov l w l' w') : PO M bp cp l' n ps w' :=
  ⟨h.1, (h.keep hm.up h.2.2).2.1, fun hk => (hm.own bp hk).elim h.2.2 (fun h2 => by have := h.lt; omega)⟩

structure OX (w0 : World) (M B bp cp n g : Nat) (K : Lay) (x : RS) (ls : List Int) (w : World) : Prop where
  sx : SX w M M B K x
  po : PO M bp cp K.B n (prs x) w
  row : Row w g 3 (ls.map (Value.int .i64))
  gk : g ∉ K.B
  bg : bp ≠ g
  mg : M ≤ g
  bel : Below M w0 w
theorem OX.below (h : OX w0 M B bp cp n g K x ls w) (hb : Below w.heap.size w w') : OX w0 M B bp cp n g K x ls w' :=
  ⟨h.sx.below hb, h.po.below hb, h.row.keep (l := []) (.of_below hb) (by simp), h.gk, h.bg, h.mg, bBel h.bel h.sx (Nat.le_refl _) hb⟩
theorem OX.upd (h : OX w0 M B bp cp n g K x ls w) (I : Nat) (v : Value) : Upd [g] w (w.setCell ⟨g, I, none⟩ v) := (Upd.refl [g] w).setCell (by simp) _
theorem OX.set (h : OX w0 M B bp cp n g K x ls w) (I : Nat) (v : Int) : OX w0 M B bp cp n g K x (ls.set I v) (w.setCell ⟨g, I, none⟩ (.int .i64 v)) := by
  have u := h.upd I (.int .i64 v)
  refine ⟨h.sx.keep u (by simp; exact h.gk), h.po.keep u (by simp; exact h.bg), ?_, h.gk, h.bg, h.mg, h.bel.trans (u.below h.sx.bs (by simp; exact h.mg))⟩
  have := h.row.set I (.int .i64 v)
  rwa [← List.map_set] at this
theorem OX.seen (h : OX w0 M B bp cp n g K x ls w) {I : Nat} (hI : I < ls.length) : w.cell? ⟨g, I, none⟩ = some (.int .i64 (ls.getD I 0)) := h.row.cell (getD_map8 hI)
end

end Go.Proofs.Ytbkaafbkmcgfjaa
