/-
  A region that draws its order, carried out by a plan: whatever reckons from the frame alone is taken as soon as it may come up; whatever else comes up is the only one that may. So one order stands for all.
-/
import Derived.Test.YtcecegcbkcdpjaaGen
import Derived.Orders
namespace Go.Proofs.Ytcecegcbkcdpjaa
open Go.RowKit

section
variable {P : Program} {ops : Array Oper} {Q : Exit → Act → World → Prop} {md : Region.Mode}

/-- Is the plan one? 'true': taken ahead of all others; 'false': the only one that may come up. -/
def planB (md : Region.Mode) (ops : Array Oper) : List (Nat × Bool) → Array Bool → Bool
  | [], listed => (Region.ready md ops listed).isEmpty
  | (i, true) :: r, listed => (Region.ready md ops listed).contains i && Region.free md ops listed i && planB md ops r (listed.setIfInBounds i true)
  | (i, false) :: r, listed => (Region.ready md ops listed == [i]) && planB md ops r (listed.setIfInBounds i true)

/-- The operation reckons from the frame alone: in every world the same value, and the world stays. -/
def flatly (P : Program) (o : Oper) (a : Act) (next : Act → Prop) : Prop :=
  ∃ v, (∀ w : World, (execOp a.eval o).run P w = .ok (.value v) w) ∧ next (a.put o.dst v)

def wpPlan (P : Program) (ops : Array Oper) (Q : Exit → Act → World → Prop) : List (Nat × Bool) → Act → World → Prop
  | [], a, w => Q .normal a w
  | (i, true) :: r, a, w => ∃ o, ops[i]? = some o ∧ if Region.wanted o (yielded ops a.tmps) then flatly P o a (fun a' => wpPlan P ops Q r a' w) else wpPlan P ops Q r (a.put o.dst undef) w
  | (i, false) :: r, a, w => ∃ o, ops[i]? = some o ∧ wpList P ops (Exit.then (wpPlan P ops Q r) Q) [o] a w

theorem wpPlan_nil {a : Act} {w : World} (h : Q .normal a w) : wpPlan P ops Q [] a w := h

theorem wpPlan_free {i : Nat} {r : List (Nat × Bool)} {o : Oper} {a : Act} {w : World} (hi : ops[i]? = some o)
    (h : ∀ K : Act → Prop, (∀ a', wpPlan P ops Q r a' w → K a') → if Region.wanted o (yielded ops a.tmps) then flatly P o a K else K (a.put o.dst undef)) :
    wpPlan P ops Q ((i, true) :: r) a w := ⟨o, hi, h _ (fun _ h => h)⟩

theorem wpPlan_sole {i : Nat} {r : List (Nat × Bool)} {o : Oper} {a : Act} {w : World} (hi : ops[i]? = some o)
    (h : wpList P ops (Exit.then (wpPlan P ops Q r) Q) [o] a w) : wpPlan P ops Q ((i, false) :: r) a w := ⟨o, hi, h⟩

theorem put_any (hQ0 : ∀ c a d v w, Q (.panic c) (Act.put a (some d) v) w → Q (.panic c) a w) (c : List PanicEntry) (a : Act) (d : Option Tmp) (v : Value) (w : World) (h : Q (.panic c) (Act.put a d v) w) : Q (.panic c) a w := by
  cases d with
  | none => exact h
  | some d => exact hQ0 c a d v w h

theorem wpAny_of_plan (hs : Region.noSelect ops = true) (hQ0 : ∀ c a d v w, Q (.panic c) (Act.put a (some d) v) w → Q (.panic c) a w) :
    ∀ (pl : List (Nat × Bool)) (listed : Array Bool) (a : Act) (w : World), planB md ops pl listed = true → wpPlan P ops Q pl a w → wpAny P md ops Q pl.length listed a w
  | [], listed, a, w, hB, h => by
    simp only [planB, List.isEmpty_iff] at hB
    exact ⟨hB, h⟩
  | (i, true) :: r, listed, a, w, hB, h => by
    simp only [planB, Bool.and_eq_true] at hB
    obtain ⟨⟨hr, hf⟩, hB⟩ := hB
    obtain ⟨o, ho, h⟩ := h
    by_cases hw : Region.wanted o (yielded ops a.tmps) = true
    · rw [if_pos hw] at h
      obtain ⟨v, hv, h⟩ := h
      exact wpAny_take (v := v) ho hs hf hr (fun c a w hq => put_any hQ0 c a _ _ w hq) (.inl ⟨hw, hv⟩) (wpAny_of_plan hs hQ0 r _ _ _ hB h)
    · rw [if_neg hw] at h
      exact wpAny_take (v := undef) ho hs hf hr (fun c a w hq => put_any hQ0 c a _ _ w hq) (.inr ⟨by simpa using hw, rfl⟩) (wpAny_of_plan hs hQ0 r _ _ _ hB h)
  | (i, false) :: r, listed, a, w, hB, h => by
    simp only [planB, Bool.and_eq_true, beq_iff_eq] at hB
    obtain ⟨hr, hB⟩ := hB
    obtain ⟨o, ho, h⟩ := h
    refine wpAny_all hr (by simp) (fun j hj => ?_)
    simp only [List.mem_singleton] at hj
    subst hj
    have hop : wpOp P ops Q j (wpPlan P ops Q r) a w := by
      unfold wpOp
      simp only [ho]
      unfold wpList at h
      split
      · rename_i hw
        rw [if_pos hw] at h
        rcases h with h | ⟨h1, h2⟩
        · refine .inl ?_
          unfold Oper.wp at h ⊢
          generalize (execOp a.eval o).run P w = res at h
          cases res with
          | ok n w' =>
            cases n <;> simp only [Oper.upon] at h ⊢
            case enter f args => exact Calls.mono h (fun e w'' he => by cases e <;> exact he)
            all_goals exact h
          | halt x w' => cases x <;> simp only [Oper.upon] at h ⊢ <;> exact h
        · exact .inr ⟨h1, h2⟩
      · rename_i hw
        rw [if_neg hw] at h
        exact h
    exact wpOp_mono (fun a' w' h' => wpAny_of_plan hs hQ0 r _ a' w' hB h') hop

/-- A region that draws, by a plan. -/
theorem wp_region_plan {id : Nat} {a : Act} {w : World} {l : List Oper} (pl : List (Nat × Bool)) (hm : P.follows .mixedOrders = true)
    (hB : (Region.noSelect l.toArray && (pl.length == l.length) && planB .any l.toArray pl (Array.replicate l.length false)) = true)
    (hQ : ∀ c a d v w, Q (.panic c) (Act.put a (some d) v) w → Q (.panic c) a w)
    (h : wpPlan P l.toArray Q pl a w.drew) : (Code.region id l.toArray true).wp P Q a w := by
  simp only [Bool.and_eq_true, beq_iff_eq] at hB
  obtain ⟨⟨hs, hl⟩, hB⟩ := hB
  refine wp_region_any hm ?_
  have := wpAny_of_plan (md := .any) hs hQ pl (Array.replicate l.length false) a w.drew hB h
  simpa [hl] using this

end

attribute [go_sem] flatly

end Go.Proofs.Ytcecegcbkcdpjaa
