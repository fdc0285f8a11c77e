/-
  A region that draws its order, by a plan with a fork: where just two operations may come up, both ways are walked.
-/
import Derived.Test.YtpbokmmobepolaaPlan
namespace Go.Proofs.Ytpbokmmobepolaa
open Go.RowKit
set_option linter.unusedVariables false

inductive PT where
  | fin | free (i : Nat) (r : PT) | sole (i : Nat) (r : PT) | two (i j : Nat) (p q : PT)

section
variable {P : Program} {ops : Array Oper} {Q : Exit → Act → World → Prop} {md : Region.Mode}

def planT (md : Region.Mode) (ops : Array Oper) : PT → Nat → Array Bool → Bool
  | .fin, 0, listed => (Region.ready md ops listed).isEmpty
  | .free i r, n + 1, listed => (Region.ready md ops listed).contains i && Region.free md ops listed i && planT md ops r n (listed.setIfInBounds i true)
  | .sole i r, n + 1, listed => (Region.ready md ops listed == [i]) && planT md ops r n (listed.setIfInBounds i true)
  | .two i j p q, n + 1, listed => (Region.ready md ops listed == [i, j]) && planT md ops p n (listed.setIfInBounds i true) && planT md ops q n (listed.setIfInBounds j true)
  | _, _, _ => false

def wpTree (P : Program) (ops : Array Oper) (Q : Exit → Act → World → Prop) : PT → Act → World → Prop
  | .fin, a, w => Q .normal a w
  | .free i r, a, w => ∃ o, ops[i]? = some o ∧ if Region.wanted o (yielded ops a.tmps) then flatly P o a (fun a' => wpTree P ops Q r a' w) else wpTree P ops Q r (a.put o.dst undef) w
  | .sole i r, a, w => ∃ o, ops[i]? = some o ∧ wpList P ops (Exit.then (wpTree P ops Q r) Q) [o] a w
  | .two i j p q, a, w => (∃ o, ops[i]? = some o ∧ wpList P ops (Exit.then (wpTree P ops Q p) Q) [o] a w) ∧ ∃ o, ops[j]? = some o ∧ wpList P ops (Exit.then (wpTree P ops Q q) Q) [o] a w

theorem wpTree_fin {a : Act} {w : World} (h : Q .normal a w) : wpTree P ops Q .fin a w := h
theorem wpTree_free {i : Nat} {r : PT} {o : Oper} {a : Act} {w : World} (hi : ops[i]? = some o)
    (h : ∀ K : Act → Prop, (∀ a', wpTree P ops Q r a' w → K a') → if Region.wanted o (yielded ops a.tmps) then flatly P o a K else K (a.put o.dst undef)) :
    wpTree P ops Q (.free i r) a w := ⟨o, hi, h _ (fun _ h => h)⟩
theorem wpTree_sole {i : Nat} {r : PT} {o : Oper} {a : Act} {w : World} (hi : ops[i]? = some o) (h : wpList P ops (Exit.then (wpTree P ops Q r) Q) [o] a w) : wpTree P ops Q (.sole i r) a w := ⟨o, hi, h⟩
theorem wpTree_two {i j : Nat} {p q : PT} {o o' : Oper} {a : Act} {w : World} (hi : ops[i]? = some o) (hj : ops[j]? = some o')
    (h : wpList P ops (Exit.then (wpTree P ops Q p) Q) [o] a w) (h' : wpList P ops (Exit.then (wpTree P ops Q q) Q) [o'] a w) : wpTree P ops Q (.two i j p q) a w := ⟨⟨o, hi, h⟩, o', hj, h'⟩

theorem wpOp_of_list {next : Act → World → Prop} {i : Nat} {o : Oper} {a : Act} {w : World} (ho : ops[i]? = some o) (h : wpList P ops (Exit.then next Q) [o] a w) : wpOp P ops Q i next a w := by
  unfold wpOp
  simp only [ho]
  unfold wpList at h
  split
  · rename_i hw
    rw [if_pos hw] at h
    rcases h with h | ⟨h1, h2⟩
    · refine .inl ?_
      unfold Oper.wp at h ⊢
      generalize (execOp a.eval o).run P w = res at h
      cases res with
      | ok n w' =>
        cases n <;> simp only [Oper.upon] at h ⊢
        case enter f args => exact Calls.mono h (fun e w'' he => by cases e <;> exact he)
        all_goals exact h
      | halt x w' => cases x <;> simp only [Oper.upon] at h ⊢ <;> exact h
    · exact .inr ⟨h1, h2⟩
  · rename_i hw
    rw [if_neg hw] at h
    exact h

theorem wpAny_of_tree (hs : Region.noSelect ops = true) (hQ0 : ∀ c a d v w, Q (.panic c) (Act.put a (some d) v) w → Q (.panic c) a w) :
    ∀ (pl : PT) (n : Nat) (listed : Array Bool) (a : Act) (w : World), planT md ops pl n listed = true → wpTree P ops Q pl a w → wpAny P md ops Q n listed a w
  | .fin, 0, listed, a, w, hB, h => by
    simp only [planT, List.isEmpty_iff] at hB
    exact ⟨hB, h⟩
  | .fin, n + 1, listed, a, w, hB, h => by simp [planT] at hB
  | .free i r, 0, listed, a, w, hB, h => by simp [planT] at hB
  | .sole i r, 0, listed, a, w, hB, h => by simp [planT] at hB
  | .two i j p q, 0, listed, a, w, hB, h => by simp [planT] at hB
  | .free i r, n + 1, listed, a, w, hB, h => by
    simp only [planT, Bool.and_eq_true] at hB
    obtain ⟨⟨hr, hf⟩, hB⟩ := hB
    obtain ⟨o, ho, h⟩ := h
    by_cases hw : Region.wanted o (yielded ops a.tmps) = true
    · rw [if_pos hw] at h
      obtain ⟨v, hv, h⟩ := h
      exact wpAny_take (v := v) ho hs hf hr (fun c a w hq => put_any hQ0 c a _ _ w hq) (.inl ⟨hw, hv⟩) (wpAny_of_tree hs hQ0 r n _ _ _ hB h)
    · rw [if_neg hw] at h
      exact wpAny_take (v := undef) ho hs hf hr (fun c a w hq => put_any hQ0 c a _ _ w hq) (.inr ⟨by simpa using hw, rfl⟩) (wpAny_of_tree hs hQ0 r n _ _ _ hB h)
  | .sole i r, n + 1, listed, a, w, hB, h => by
    simp only [planT, Bool.and_eq_true, beq_iff_eq] at hB
    obtain ⟨hr, hB⟩ := hB
    obtain ⟨o, ho, h⟩ := h
    refine wpAny_all hr (by simp) (fun k hk => ?_)
    simp only [List.mem_singleton] at hk
    subst hk
    exact wpOp_mono (fun a' w' h' => wpAny_of_tree hs hQ0 r n _ a' w' hB h') (wpOp_of_list ho h)
  | .two i j p q, n + 1, listed, a, w, hB, h => by
    simp only [planT, Bool.and_eq_true, beq_iff_eq] at hB
    obtain ⟨⟨hr, hB⟩, hB'⟩ := hB
    obtain ⟨⟨o, ho, h⟩, o', ho', h'⟩ := h
    refine wpAny_all hr (by simp) (fun k hk => ?_)
    simp only [List.mem_cons, List.not_mem_nil, or_false] at hk
    rcases hk with rfl | rfl
    · exact wpOp_mono (fun a' w' h' => wpAny_of_tree hs hQ0 p n _ a' w' hB h') (wpOp_of_list ho h)
    · exact wpOp_mono (fun a' w' h' => wpAny_of_tree hs hQ0 q n _ a' w' hB' h') (wpOp_of_list ho' h')

theorem wp_region_tree {id : Nat} {a : Act} {w : World} {l : List Oper} (pl : PT) (hm : P.follows .mixedOrders = true)
    (hB : (Region.noSelect l.toArray && planT .any l.toArray pl l.length (Array.replicate l.length false)) = true)
    (hQ : ∀ c a d v w, Q (.panic c) (Act.put a (some d) v) w → Q (.panic c) a w)
    (h : wpTree P l.toArray Q pl a w.drew) : (Code.region id l.toArray true).wp P Q a w := by
  simp only [Bool.and_eq_true] at hB
  obtain ⟨hs, hB⟩ := hB
  refine wp_region_any hm ?_
  have := wpAny_of_tree (md := .any) hs hQ pl l.length (Array.replicate l.length false) a w.drew hB h
  simpa using this

end

end Go.Proofs.Ytpbokmmobepolaa
