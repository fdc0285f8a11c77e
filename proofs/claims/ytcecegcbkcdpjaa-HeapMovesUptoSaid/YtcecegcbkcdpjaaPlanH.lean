/-
  A region that draws its order, carried out by a plan, where some operations read memory that the others leave alone: S says what they read; whatever else comes up must leave S.
-/
import Derived.Test.YtcecegcbkcdpjaaPlan
import Derived.OrdersHeld
namespace Go.Proofs.Ytcecegcbkcdpjaa
open Go.RowKit
set_option linter.unusedVariables false

/-- What a cell holds it holds in every later world. -/
theorem cellKeep {w w' : World} {a : Addr} {v : Value} (h : Below w.heap.size w w') (hc : w.cell? a = some v) : w'.cell? a = some v :=
  (h.cell (World.block_lt_of_cell? w a hc)).trans hc

section
variable {P : Program} {ops : Array Oper} {Q : Exit → Act → World → Prop} {md : Region.Mode} {S : World → Prop}

def wpPlanH (P : Program) (ops : Array Oper) (Q : Exit → Act → World → Prop) (S : World → Prop) : List (Nat × Bool) → Act → World → Prop
  | [], a, w => Q .normal a w
  | (i, true) :: r, a, w => ∃ o, ops[i]? = some o ∧ if Region.wanted o (yielded ops a.tmps) then ∃ v, (∀ w : World, S w → (execOp a.eval o).run P w = .ok (.value v) w) ∧ wpPlanH P ops Q S r (a.put o.dst v) w else wpPlanH P ops Q S r (a.put o.dst undef) w
  | (i, false) :: r, a, w => ∃ o, ops[i]? = some o ∧ wpList P ops (Exit.then (fun a' w' => S w' ∧ wpPlanH P ops Q S r a' w') Q) [o] a w

theorem wpPlanH_nil {a : Act} {w : World} (h : Q .normal a w) : wpPlanH P ops Q S [] a w := h

theorem wpPlanH_free {i : Nat} {r : List (Nat × Bool)} {o : Oper} {a : Act} {w : World} (hi : ops[i]? = some o)
    (h : ∀ K : Act → Prop, (∀ a', wpPlanH P ops Q S r a' w → K a') → if Region.wanted o (yielded ops a.tmps) then flatly P o a K else K (a.put o.dst undef)) :
    wpPlanH P ops Q S ((i, true) :: r) a w := by
  refine ⟨o, hi, ?_⟩
  have := h _ (fun _ h => h)
  split
  · rename_i hw
    rw [if_pos hw] at this
    obtain ⟨v, hv, hn⟩ := this
    exact ⟨v, fun w' _ => hv w', hn⟩
  · rename_i hw
    rw [if_neg hw] at this
    exact this

theorem wpPlanH_load {i : Nat} {r : List (Nat × Bool)} {o : Oper} {a : Act} {w : World} (v : Value) (hi : ops[i]? = some o) (hw : Region.wanted o (yielded ops a.tmps) = true)
    (hv : ∀ w : World, S w → (execOp a.eval o).run P w = .ok (.value v) w) (h : ∀ K : Act → Prop, (∀ a', wpPlanH P ops Q S r a' w → K a') → K (a.put o.dst v)) :
    wpPlanH P ops Q S ((i, true) :: r) a w := by
  refine ⟨o, hi, ?_⟩
  rw [if_pos hw]
  exact ⟨v, hv, h _ (fun _ h => h)⟩

theorem wpPlanH_sole {i : Nat} {r : List (Nat × Bool)} {o : Oper} {a : Act} {w : World} (hi : ops[i]? = some o)
    (h : wpList P ops (Exit.then (fun a' w' => S w' ∧ wpPlanH P ops Q S r a' w') Q) [o] a w) : wpPlanH P ops Q S ((i, false) :: r) a w := ⟨o, hi, h⟩

theorem wpAny_of_planH (hs : Region.noSelect ops = true) (hQ0 : ∀ c a d v w, Q (.panic c) (Act.put a (some d) v) w → Q (.panic c) a w) :
    ∀ (pl : List (Nat × Bool)) (listed : Array Bool) (a : Act) (w : World), planB md ops pl listed = true → S w → wpPlanH P ops Q S pl a w → wpAnyH P md ops Q S pl.length listed a w
  | [], listed, a, w, hB, _, h => by
    simp only [planB, List.isEmpty_iff] at hB
    exact ⟨hB, h⟩
  | (i, true) :: r, listed, a, w, hB, hS, h => by
    simp only [planB, Bool.and_eq_true] at hB
    obtain ⟨⟨hr, hf⟩, hB⟩ := hB
    obtain ⟨o, ho, h⟩ := h
    by_cases hw : Region.wanted o (yielded ops a.tmps) = true
    · rw [if_pos hw] at h
      obtain ⟨v, hv, h⟩ := h
      exact wpAnyH_take (v := v) ho hs hf hr (fun c a w hq => put_any hQ0 c a _ _ w hq) (.inl ⟨hw, hv⟩) hS (wpAny_of_planH hs hQ0 r _ _ _ hB hS h)
    · rw [if_neg hw] at h
      exact wpAnyH_take (v := undef) ho hs hf hr (fun c a w hq => put_any hQ0 c a _ _ w hq) (.inr ⟨by simpa using hw, rfl⟩) hS (wpAny_of_planH hs hQ0 r _ _ _ hB hS h)
  | (i, false) :: r, listed, a, w, hB, hS, h => by
    simp only [planB, Bool.and_eq_true, beq_iff_eq] at hB
    obtain ⟨hr, hB⟩ := hB
    obtain ⟨o, ho, h⟩ := h
    refine wpAnyH_all hr (by simp) (fun j hj => ?_)
    simp only [List.mem_singleton] at hj
    subst hj
    have hop : wpOp P ops Q j (fun a' w' => S w' ∧ wpPlanH P ops Q S r a' w') a w := by
      unfold wpOp
      simp only [ho]
      unfold wpList at h
      split
      · rename_i hw
        rw [if_pos hw] at h
        rcases h with h | ⟨h1, h2⟩
        · refine .inl ?_
          unfold Oper.wp at h ⊢
          generalize (execOp a.eval o).run P w = res at h
          cases res with
          | ok n w' =>
            cases n <;> simp only [Oper.upon] at h ⊢
            case enter f args => exact Calls.mono h (fun e w'' he => by cases e <;> exact he)
            all_goals exact h
          | halt x w' => cases x <;> simp only [Oper.upon] at h ⊢ <;> exact h
        · exact .inr ⟨h1, h2⟩
      · rename_i hw
        rw [if_neg hw] at h
        exact h
    exact wpOp_mono (fun a' w' h' => ⟨h'.1, wpAny_of_planH hs hQ0 r _ a' w' hB h'.1 h'.2⟩) hop

/-- A region that draws, by a plan, over what S says of memory. -/
theorem wp_region_planH {id : Nat} {a : Act} {w : World} {l : List Oper} (S : World → Prop) (pl : List (Nat × Bool)) (hm : P.follows .mixedOrders = true)
    (hB : (Region.noSelect l.toArray && (pl.length == l.length) && planB .any l.toArray pl (Array.replicate l.length false)) = true)
    (hQ : ∀ c a d v w, Q (.panic c) (Act.put a (some d) v) w → Q (.panic c) a w) (hS : S w.drew)
    (h : wpPlanH P l.toArray Q S pl a w.drew) : (Code.region id l.toArray true).wp P Q a w := by
  simp only [Bool.and_eq_true, beq_iff_eq] at hB
  obtain ⟨⟨hs, hl⟩, hB⟩ := hB
  refine wp_region_held (S := S) hm ?_
  have := wpAny_of_planH (md := .any) hs hQ pl (Array.replicate l.length false) a w.drew hB hS h
  simpa [hl] using this

end

end Go.Proofs.Ytcecegcbkcdpjaa
