/-
  Plain laws: several resumed are as if one behind the other; what is not there; priorities and how many semaphores.
-/
import Derived.Test.YtbkaafbkmcgfjaaSchedAE
namespace Go.Proofs.Ytbkaafbkmcgfjaa
set_option linter.unusedVariables false
set_option maxHeartbeats 1000000

theorem rsE_val (x : RS) (ls : List Int) : rsE x ls = 0 ∨ rsE x ls = 2 ∨ rsE x ls = 4 := by
  unfold rsE resE
  split
  · split
    · exact .inl rfl
    · exact .inr (.inl rfl)
  · exact .inr (.inr rfl)

theorem many_one {B : Nat} {x : RS} (h : Inv B x) {ls : List Int} (hE : rsE x ls = 0) {j : Nat} (hj : j < ls.length) :
    rsE (madeL x (ls.take j)) [ls.getD j 0] = 0 ∧ rsR (madeL x (ls.take j)) [ls.getD j 0] = madeL x (ls.take (j + 1)) := by
  have hE' : resE (ssR x) ls = 0 := hE
  obtain ⟨-, -, h3, -, h5⟩ := resume_ss h hE' j (by omega)
  have hA : allIn (ssR x) ls = true := by
    unfold resE at hE'
    split at hE'
    · assumption
    · simp at hE'
  have hO : okAll (ssR x) ls = true := by
    unfold resE at hE'
    rw [if_pos hA] at hE'
    split at hE'
    · assumption
    · simp at hE'
  obtain ⟨a1, a2⟩ := allIn_get hA hj
  obtain ⟨o1, o2⟩ := okAll_get hO hj
  rw [madeL_snoc x hj]
  obtain ⟨k, hk⟩ : ∃ k : Nat, ls.getD j 0 = (k : Int) + 1 := ⟨(ls.getD j 0 - 1).toNat, by omega⟩
  rw [hk] at a1 a2 o1 o2 ⊢
  rw [show ((k : Int) + 1 - 1).toNat = k from by omega] at o1 ⊢
  have hkn : k < x.P.length := by
    have : (ssR x).prior.length = x.P.length := by simp [ssR]
    omega
  rw [idle_get hkn] at o1
  have hw := h5 k hkn o2 (of_decide_eq_true o1)
  have e0 : rsE (madeL x (ls.take j)) [(k : Int) + 1] = 0 := by
    rw [rsE_one, if_pos (by rw [h3]; omega), show ((k : Int) + 1 - 1).toNat = k from by omega, if_pos hw]
  refine ⟨e0, ?_⟩
  unfold rsR
  rw [if_pos e0]
  show madeR _ ((k : Int) + 1 - 1).toNat = _
  rw [show ((k : Int) + 1 - 1).toNat = k from by omega]

theorem none_res {B : Nat} {x : RS} (h : Inv B x) {n : Int} (hn : ¬ (1 ≤ n ∧ n ≤ 100)) :
    (rsE x [n] = 4 ∧ rsR x [n] = x) ∧ (suE x n = 4 ∧ suR x n = x) ∧ (siE x n = 4 ∧ siR x n = x) ∧ (waE x n = 4 ∧ waR x n = x) := by
  have h1 := h.n
  have h2 := h.m
  have e1 : rsE x [n] = 4 := by rw [rsE_one, if_neg (by omega)]
  have e2 : suE x n = 4 := if_neg (by omega)
  have e3 : siE x n = 4 := if_neg (by omega)
  have e4 : waE x n = 4 := if_neg (by omega)
  refine ⟨⟨e1, ?_⟩, ⟨e2, ?_⟩, ⟨e3, ?_⟩, ⟨e4, ?_⟩⟩
  · unfold rsR; rw [e1, if_neg (by decide)]
  · unfold suR; rw [e2, if_neg (by decide)]
  · unfold siR; rw [e3, if_neg (by decide)]
  · unfold waR; rw [if_neg (by omega)]

theorem none_sp {x : RS} (h : x.P.length < 100) : spE x 3 = 0 ∧ spV x 3 = (x.P.length : Int) + 1 ∧ (spR x 3).P.length = x.P.length + 1 := by
  have hE : spE x 3 = 0 := by unfold spE; rw [if_neg (by decide), if_neg (by omega)]
  refine ⟨hE, ?_, ?_⟩
  · unfold spV; rw [if_pos hE]
  · unfold spR; rw [if_pos hE, spawn_len]
theorem none_full {x : RS} (h : 100 ≤ x.P.length) : spE x 3 = 3 ∧ spV x 3 = 0 ∧ spR x 3 = x := by
  have hE : spE x 3 = 3 := by unfold spE; rw [if_neg (by decide), if_pos h]
  refine ⟨hE, ?_, ?_⟩
  · unfold spV; rw [hE, if_neg (by decide)]
  · unfold spR; rw [hE, if_neg (by decide)]

/-! ### Priorities -/

def prs (x : RS) : List Int := x.P.map fun q => (q.pr : Int)
theorem prs_len (x : RS) : (prs x).length = x.P.length := by simp [prs]
theorem prs_get {x : RS} {k : Nat} (hk : k < x.P.length) : (prs x).getD k 0 = ((gP x k).pr : Int) := by
  unfold prs
  rw [List.getD_eq_getElem?_getD, List.getElem?_map, gP_get hk]; rfl
theorem prs_put (x : RS) (k w : Nat) : prs (putR x k w) = prs x := by
  unfold prs putR
  apply List.ext_getElem?
  intro i
  simp only [List.getElem?_map]
  by_cases hi : i = k
  · subst hi
    by_cases hl : i < x.P.length
    · rw [List.getElem?_set_self hl, gP_get hl]; rfl
    · rw [List.getElem?_eq_none (by simp; omega), List.getElem?_eq_none (by omega)]
  · rw [List.getElem?_set_ne (Ne.symm hi)]
theorem prs_nextF : ∀ (i : Nat) (x : RS), prs (nextRF i x) = prs x
  | 0, x => rfl
  | i + 1, x => by
    unfold nextRF
    split
    · split
      · exact prs_nextF i x
      · exact prs_put _ _ _
    · rfl
theorem prs_next (x : RS) : prs (nextR x) = prs x := prs_nextF 8 x
theorem prs_made (x : RS) (k : Nat) : prs (madeR x k) = prs x := by
  unfold madeR
  split
  · rw [prs_put, prs_put]
  · split
    · rw [prs_put, prs_put, prs_put]
    · rw [prs_put]

theorem st_prs (x : RS) (k n : Int) : prs (stR x k n) = if k = 1 ∧ stE x k n = 0 then prs x ++ [n] else prs x := by
  by_cases k1 : k = 1
  · subst k1
    by_cases hE : stE x 1 n = 0
    · have hE2 : spE x n = 0 := hE
      rw [if_pos ⟨rfl, hE⟩]
      show prs (spR x n) = _
      unfold spR
      rw [if_pos hE2]
      have hn : 1 ≤ n := by
        unfold spE at hE2
        split at hE2
        · omega
        · omega
      unfold prs spawnR
      rw [List.map_append]
      show _ ++ [((n.toNat : Nat) : Int)] = _
      rw [show ((n.toNat : Nat) : Int) = n from by omega]
    · rw [if_neg (fun h => hE h.2)]
      show prs (spR x n) = _
      unfold spR
      rw [if_neg (show ¬ spE x n = 0 from hE)]
  rw [if_neg (fun h => k1 h.1)]
  unfold stR
  rw [if_neg k1]
  split
  · unfold rsR; split
    · exact prs_made x _
    · rfl
  split
  · unfold suR suspR; split
    · rw [prs_next, prs_put]
    · rfl
  split
  · unfold yieldR; split
    · rfl
    · split
      · rfl
      · rw [prs_next, prs_put]
  split
  · unfold smR; split
    · rfl
    · rfl
  split
  · unfold siR; split
    · unfold sigR
      split
      · rfl
      · exact prs_made x _
    · rfl
  · unfold waR; split
    · unfold waitR
      split
      · rfl
      · split
        · rfl
        · rw [prs_next, prs_put]
    · rfl

theorem sems_nextF : ∀ (i : Nat) (x : RS), (nextRF i x).sems = x.sems
  | 0, x => rfl
  | i + 1, x => by
    unfold nextRF
    split
    · split
      · exact sems_nextF i x
      · rfl
    · rfl
theorem sems_made (x : RS) (k : Nat) : (madeR x k).sems = x.sems := by
  unfold madeR
  split
  · rfl
  · split <;> rfl
theorem st_sems (x : RS) (k n : Int) : (stR x k n).sems.length = if k = 5 ∧ stE x k n = 0 then x.sems.length + 1 else x.sems.length := by
  by_cases k5 : k = 5
  · subst k5
    by_cases hE : stE x 5 n = 0
    · rw [if_pos ⟨rfl, hE⟩]
      show (smR x).sems.length = _
      unfold smR
      rw [if_pos (show smE x = 0 from hE)]
      show (x.sems ++ [0]).length = _
      simp
    · rw [if_neg (fun h => hE h.2)]
      show (smR x).sems.length = _
      unfold smR
      rw [if_neg (show ¬ smE x = 0 from hE)]
  rw [if_neg (fun h => k5 h.1)]
  unfold stR
  split
  · unfold spR; split <;> rfl
  split
  · unfold rsR; split
    · exact congrArg List.length (sems_made x _)
    · rfl
  split
  · unfold suR suspR; split
    · exact congrArg List.length (sems_nextF 8 _)
    · rfl
  split
  · unfold yieldR; split
    · rfl
    · split
      · rfl
      · exact congrArg List.length (sems_nextF 8 _)
  split
  · unfold siR; split
    · unfold sigR
      split
      · show (x.sems.set _ _).length = _; simp
      · exact congrArg List.length (sems_made x _)
    · rfl
  · unfold waR; split
    · unfold waitR
      split
      · rfl
      · split
        · show (x.sems.set _ _).length = _; simp
        · exact congrArg List.length (sems_nextF 8 _)
    · rfl

theorem st_one (x : RS) (n : Int) (h : stE x 1 n = 0) : stV x 1 n = (x.P.length : Int) + 1 := by
  show spV x n = _
  unfold spV
  rw [if_pos (show spE x n = 0 from h)]
theorem st_five (x : RS) (n : Int) (h : stE x 5 n = 0) : stV x 5 n = (x.sems.length : Int) + 1 := by
  show smV x = _
  unfold smV
  rw [if_pos (show smE x = 0 from h)]

end Go.Proofs.Ytbkaafbkmcgfjaa
