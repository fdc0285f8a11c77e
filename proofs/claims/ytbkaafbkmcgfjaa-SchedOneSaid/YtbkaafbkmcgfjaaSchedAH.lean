/-
  Plain law: no process stands in two places; how often each was seen.
-/
import Derived.Test.YtbkaafbkmcgfjaaSchedAG
namespace Go.Proofs.Ytbkaafbkmcgfjaa
set_option linter.unusedVariables false
set_option maxHeartbeats 1000000

/-- How often each was seen: not yet, or once where this holds of it. -/
def SeenAt (n : Nat) (ls : List Int) (D : Nat → Prop) : Prop := ls.length = n + 1 ∧ ∀ q, q ≤ n → ls.getD q 0 = 0 ∨ (ls.getD q 0 = 1 ∧ D q)

theorem SeenAt.start (n : Nat) : SeenAt n (List.replicate (n + 1) 0) (fun _ => False) :=
  ⟨by simp, fun q hq => .inl (by rw [List.getD_eq_getElem?_getD, List.getElem?_replicate]; split <;> rfl)⟩
theorem SeenAt.mono {n : Nat} {ls : List Int} {D E : Nat → Prop} (h : SeenAt n ls D) (hD : ∀ q, D q → E q) : SeenAt n ls E :=
  ⟨h.1, fun q hq => (h.2 q hq).imp id (fun h2 => ⟨h2.1, hD q h2.2⟩)⟩
theorem SeenAt.zero {n : Nat} {ls : List Int} {D : Nat → Prop} (h : SeenAt n ls D) {q : Nat} (hq : q ≤ n) (hn : ¬ D q) : ls.getD q 0 = 0 := by
  rcases h.2 q hq with h2 | h2
  · exact h2
  · exact absurd h2.2 hn
theorem SeenAt.inc {n : Nat} {ls : List Int} {D E : Nat → Prop} (h : SeenAt n ls D) {q : Nat} (hq : q ≤ n) (hD : ∀ i, D i → E i) (hE : E q) : SeenAt n (ls.set q 1) E := by
  refine ⟨by rw [List.length_set]; exact h.1, fun i hi => ?_⟩
  by_cases hiq : i = q
  · subst hiq
    refine .inr ⟨?_, hE⟩
    rw [List.getD_eq_getElem?_getD, List.getElem?_set_self (by have := h.1; omega)]; rfl
  · rw [List.getD_eq_getElem?_getD, List.getElem?_set_ne (Ne.symm hiq), ← List.getD_eq_getElem?_getD]
    exact (h.2 i hi).imp id (fun h2 => ⟨h2.1, hD i h2.2⟩)
theorem SeenAt.le {n : Nat} {ls : List Int} {D : Nat → Prop} (h : SeenAt n ls D) {q : Nat} (hq : q ≤ n) : ls.getD q 0 ≤ 1 ∧ 0 ≤ ls.getD q 0 := by
  rcases h.2 q hq with h2 | h2
  · omega
  · omega

def D2 (x : RS) (p : Nat) (l : List Int) (q : Nat) : Prop := q = actR x ∨ ∃ i, q = i + 1 ∧ i < x.P.length ∧ (gP x i).wh = 2 ∧ ((gP x i).pr < p ∨ ((gP x i).pr = p ∧ (q : Int) ∈ l))
def D3 (x : RS) (j : Nat) (l : List Int) (q : Nat) : Prop := q = actR x ∨ ∃ i, q = i + 1 ∧ i < x.P.length ∧ ((gP x i).wh = 2 ∨ ∃ k, (gP x i).wh = 3 + k ∧ (k < j ∨ (k = j ∧ (q : Int) ∈ l)))

theorem D2.next {x : RS} {p : Nat} {l : List Int} {q : Nat} (h : D2 x p l q) : D2 x (p + 1) [] q := by
  rcases h with h | ⟨i, h1, h2, h3, h4⟩
  · exact .inl h
  · exact .inr ⟨i, h1, h2, h3, .inl (by omega)⟩
theorem D2.wait {x : RS} {p : Nat} {l : List Int} {q : Nat} (h : D2 x p l q) : D3 x 0 [] q := by
  rcases h with h | ⟨i, h1, h2, h3, h4⟩
  · exact .inl h
  · exact .inr ⟨i, h1, h2, .inl h3⟩
theorem D3.next {x : RS} {p : Nat} {l : List Int} {q : Nat} (h : D3 x p l q) : D3 x (p + 1) [] q := by
  rcases h with h | ⟨i, h1, h2, h3⟩
  · exact .inl h
  · refine .inr ⟨i, h1, h2, ?_⟩
    rcases h3 with h3 | ⟨k, h3, h4⟩
    · exact .inl h3
    · exact .inr ⟨k, h3, .inl (by omega)⟩

theorem act_le (x : RS) : actR x ≤ x.P.length := by
  rcases act_cases x with ⟨h, _⟩ | ⟨a, h1, _, h2⟩
  · omega
  · omega
theorem not_act {x : RS} {i : Nat} (hw : (gP x i).wh ≠ 1) : i + 1 ≠ actR x := fun e => by
  rcases act_cases x with ⟨h, _⟩ | ⟨a, h1, h2, h3⟩
  · omega
  · obtain rfl : i = a := by omega
    exact hw h2
theorem nodup_take {l : List Int} (h : l.Nodup) {j : Nat} (hj : j < l.length) : l.getD j 0 ∉ l.take j := by
  rw [List.getD_eq_getElem?_getD, List.getElem?_eq_getElem hj]
  intro hm
  obtain ⟨i, hi, e⟩ := List.getElem_of_mem hm
  have hi2 : i < j := by simp at hi; omega
  rw [List.getElem_take] at e
  have := (List.getElem_inj h).1 (show l[i]'(by omega) = l[j] from e)
  omega
theorem mem_take_succ {l : List Int} {j : Nat} (hj : j < l.length) : l.getD j 0 ∈ l.take (j + 1) := by
  rw [List.take_add_one, List.getD_eq_getElem?_getD, List.getElem?_eq_getElem hj]
  exact List.mem_append_right _ (by simp)
theorem take_sub {l : List Int} {j : Nat} {q : Int} (h : q ∈ l.take j) : q ∈ l.take (j + 1) := by
  rw [List.take_add_one]
  exact List.mem_append_left _ h

theorem ready_one {B : Nat} {x : RS} (h : Inv B x) {p j : Nat} (hp : 1 ≤ p) (hj : j < (atL x 2 p).length) :
    ∃ i a : Nat, i < x.P.length ∧ a < x.P.length ∧ (atL x 2 p).getD j 0 = (i : Int) + 1 ∧ (0 :: prs x).getD (i + 1) 0 = (p : Int) ∧ actR x = a + 1 ∧ (p : Int) ≤ (0 :: prs x).getD (a + 1) 0 ∧
      ¬ D2 x p ((atL x 2 p).take j) (i + 1) ∧ D2 x p ((atL x 2 p).take (j + 1)) (i + 1) := by
  obtain ⟨i, hi, hq, hw, -, hpr⟩ := mem_atL.1 (getD_mem hj)
  have hpr : (gP x i).pr = p := by rcases hpr with h | h; omega; exact h
  obtain ⟨a, ha, haw, hle⟩ := h.top i hi hw
  refine ⟨i, a, hi, ha, hq, ?_, act_is h.toInv0 ha haw, ?_, ?_, ?_⟩
  · show (prs x).getD i 0 = _
    rw [prs_get hi, hpr]
  · show _ ≤ (prs x).getD a 0
    rw [prs_get ha]; omega
  · rintro (h1 | ⟨i', e1, _, _, h2 | ⟨_, h2⟩⟩)
    · exact not_act (by omega) h1
    · obtain rfl : i = i' := by omega
      omega
    · have := nodup_take (nodup_atL x 2 p) hj
      rw [hq] at this
      exact this (by push_cast at h2; exact h2)
  · refine .inr ⟨i, rfl, hi, hw, .inr ⟨hpr, ?_⟩⟩
    have := mem_take_succ hj
    rw [hq] at this
    push_cast
    exact this

theorem wait_one {B : Nat} {x : RS} (h : Inv B x) {k j : Nat} (hj : j < (atL x (3 + k) 0).length) :
    ∃ i : Nat, i < x.P.length ∧ (atL x (3 + k) 0).getD j 0 = (i : Int) + 1 ∧ x.sems.getD k 0 = 0 ∧ ¬ D3 x k ((atL x (3 + k) 0).take j) (i + 1) ∧ D3 x k ((atL x (3 + k) 0).take (j + 1)) (i + 1) := by
  obtain ⟨i, hi, hq, hw, -, -⟩ := mem_atL.1 (getD_mem hj)
  refine ⟨i, hi, hq, h.sg i k hi hw, ?_, ?_⟩
  · rintro (h1 | ⟨i', e1, _, h2 | ⟨k', h3, h4 | ⟨_, h4⟩⟩⟩)
    · exact not_act (by omega) h1
    · obtain rfl : i = i' := by omega
      omega
    · obtain rfl : i = i' := by omega
      omega
    · have := nodup_take (nodup_atL x (3 + k) 0) hj
      rw [hq] at this
      exact this (by push_cast at h4; exact h4)
  · refine .inr ⟨i, rfl, hi, .inr ⟨k, hw, .inr ⟨rfl, ?_⟩⟩⟩
    have := mem_take_succ hj
    rw [hq] at this
    push_cast
    exact this

end Go.Proofs.Ytbkaafbkmcgfjaa
