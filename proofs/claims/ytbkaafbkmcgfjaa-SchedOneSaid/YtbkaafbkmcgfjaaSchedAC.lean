/-
  The document's answer of chapter 20: Step, whole.
-/
import Derived.Test.YtbkaafbkmcgfjaaSchedAB
namespace Go.Proofs.Ytbkaafbkmcgfjaa
open Go.RowKit
set_option linter.unusedVariables false
set_option maxHeartbeats 1000000

theorem rsE_one {x : RS} (n : Int) : rsE x [n] = if 1 ≤ n ∧ n ≤ x.P.length then (if (gP x (n - 1).toNat).wh = 0 then 0 else 2) else 4 := by
  have hlen : (ssR x).prior.length = x.P.length := by simp [ssR]
  by_cases h1 : 1 ≤ n ∧ n ≤ x.P.length
  · obtain ⟨k, rfl⟩ : ∃ k : Nat, n = (k : Int) + 1 := ⟨(n - 1).toNat, by omega⟩
    have hk : k < x.P.length := by omega
    have e1 : ((k : Int) + 1 - 1).toNat = k := by omega
    rw [if_pos h1, e1]
    by_cases h2 : (gP x k).wh = 0
    · rw [if_pos h2]; exact (rs_one hk h2).1
    · rw [if_neg h2]
      have hA : allIn (ssR x) [(k : Int) + 1] = true := allIn_yes (fun j hj => by
        obtain rfl : j = 0 := by simp at hj; omega
        rw [hlen]; exact h1)
      have hO : okAll (ssR x) [(k : Int) + 1] = false := okAll_no (j := 0) (by simp) (by
        unfold okAt
        simp only [List.getD_cons_zero, List.take_zero]
        rw [e1, idle_get hk]
        simp [h2])
      show resE _ _ = 2
      unfold resE
      rw [if_pos hA, hO]
      simp
  · rw [if_neg h1]
    have hA : allIn (ssR x) [n] = false := allIn_no (j := 0) (by simp) (by rw [hlen]; exact h1)
    show resE _ _ = 4
    unfold resE
    rw [hA]
    simp

theorem c_rStep {w : World} {a1 a2 : Option Addr} {c1 c2 B : Nat} {x : RS} (h : RefV w a1 c1 a2 c2 x) (hI : Inv B x) (hB : B ≤ 1000000) (hnow : x.now ≤ 990000) (k n : Int) :
    Calls Try.prog 22 #[refV a1 c1 a2 c2 x, .agg #[.int .i64 k, .int .i64 n]] w (StPost a1 a2 (stR x k n) (stV x k n) (stE x k n) w) := by
  have hn := hI.n
  have hm := hI.m
  obtain ⟨A, hA⟩ : ∃ A, ((actR x : Nat) : Int) = A := ⟨_, rfl⟩
  by_cases k1 : k = 1
  · subst k1
    show Calls _ _ _ _ (StPost a1 a2 (spR x n) (spV x n) (spE x n) w)
    by_cases h1 : n < 1 ∨ 8 < n
    · have hE : spE x n = 2 := if_pos h1
      unfold spV spR
      rw [hE, if_neg (by decide), if_neg (by decide)]
      rcases h1 with h1 | h1
      · exact st_1a h hn hm hnow n A hA h1
      · exact st_1b h hn hm hnow n A hA h1
    · by_cases h2 : 100 ≤ x.P.length
      · have hE : spE x n = 3 := by unfold spE; rw [if_neg h1, if_pos h2]
        unfold spV spR
        rw [hE, if_neg (by decide), if_neg (by decide)]
        exact st_1c h hn hm hnow n A hA (by omega) (by omega) h2
      · have hE : spE x n = 0 := by unfold spE; rw [if_neg h1, if_neg h2]
        unfold spV spR
        rw [hE, if_pos rfl, if_pos rfl]
        obtain ⟨p, rfl⟩ := Int.eq_ofNat_of_zero_le (show 0 ≤ n by omega)
        exact st_1d h hn hm hnow p A hA (by omega) (by omega) (by omega)
  by_cases k2 : k = 2
  · subst k2
    show Calls _ _ _ _ (StPost a1 a2 (rsR x [n]) 0 (rsE x [n]) w)
    unfold rsR
    rw [rsE_one]
    by_cases h1 : 1 ≤ n ∧ n ≤ x.P.length
    · obtain ⟨j, rfl⟩ : ∃ j : Nat, n = (j : Int) + 1 := ⟨(n - 1).toNat, by omega⟩
      have hj : j < x.P.length := by omega
      rw [if_pos h1, show ((j : Int) + 1 - 1).toNat = j from by omega]
      by_cases h2 : (gP x j).wh = 0
      · rw [if_pos h2, if_pos rfl]
        have hr : madeL x [(j : Int) + 1] = madeR x j := by
          show madeR x ((j : Int) + 1 - 1).toNat = _
          rw [show ((j : Int) + 1 - 1).toNat = j from by omega]
        rw [hr]
        exact st_2d h hn hm hnow j A hA hj h2 (made_one hI hj h2).2.2.2
      · rw [if_neg h2, if_neg (by decide)]
        exact st_2c h hn hm hnow j A hA hj h2
    · rw [if_neg h1, if_neg (by decide)]
      by_cases h2 : n < 1
      · exact st_2a h hn hm hnow n A hA h2
      · exact st_2b h hn hm hnow n A hA (by omega) (by omega)
  by_cases k3 : k = 3
  · subst k3
    show Calls _ _ _ _ (StPost a1 a2 (suR x n) 0 (suE x n) w)
    unfold suR suE
    by_cases h1 : 1 ≤ n ∧ n ≤ x.P.length
    · obtain ⟨j, rfl⟩ : ∃ j : Nat, n = (j : Int) + 1 := ⟨(n - 1).toNat, by omega⟩
      have hj : j < x.P.length := by omega
      rw [if_pos h1, show ((j : Int) + 1 - 1).toNat = j from by omega]
      by_cases h2 : (gP x j).wh = 0
      · rw [if_pos h2, if_neg (by decide)]
        exact st_3c h hn hm hnow j A hA hj h2
      · rw [if_neg h2, if_pos rfl]
        exact st_3d h hn hm hnow j A hA hj h2 (susp_ss hI hj).2.2.2
    · rw [if_neg h1, if_neg (by decide)]
      by_cases h2 : n < 1
      · exact st_3a h hn hm hnow n A hA h2
      · exact st_3b h hn hm hnow n A hA (by omega) (by omega)
  by_cases k4 : k = 4
  · subst k4
    show Calls _ _ _ _ (StPost a1 a2 (yieldR x) 0 (yiE x) w)
    have hy := yield_ss hI
    unfold yiE
    unfold yieldR at hy ⊢
    rcases act_cases x with ⟨h0, _⟩ | ⟨a, ha, hw, h3⟩
    · rw [if_pos h0, if_pos h0]
      exact st_4a h hn hm hnow n (by omega)
    · have h0 : ¬ actR x = 0 := by omega
      rw [if_neg h0] at hy
      rw [if_neg h0, if_neg h0, h3, Nat.add_sub_cancel]
      rw [h3, Nat.add_sub_cancel] at hy
      cases hL : atL x 2 (gP x a).pr with
      | nil =>
        rw [if_pos rfl]
        exact st_4b h hn hm hnow n a (by omega) ha (hI.pr a ha).2 hL
      | cons p t =>
        rw [hL, if_neg (by simp)] at hy
        rw [if_neg (by simp)]
        exact st_4c h hn hm hnow n a (by omega) ha (hI.pr a ha).2 p t hL hy.2.2.2
  by_cases k5 : k = 5
  · subst k5
    show Calls _ _ _ _ (StPost a1 a2 (smR x) (smV x) (smE x) w)
    unfold smV smR
    by_cases h2 : 100 ≤ x.sems.length
    · have hE : smE x = 3 := if_pos h2
      rw [hE, if_neg (by decide), if_neg (by decide)]
      exact st_5a h hn hm hnow n A hA h2
    · have hE : smE x = 0 := if_neg h2
      rw [hE, if_pos rfl, if_pos rfl]
      exact st_5b h hn hm hnow n A hA (by omega)
  by_cases k6 : k = 6
  · subst k6
    show Calls _ _ _ _ (StPost a1 a2 (siR x n) 0 (siE x n) w)
    unfold siR siE
    by_cases h1 : 1 ≤ n ∧ n ≤ x.sems.length
    · obtain ⟨j, rfl⟩ : ∃ j : Nat, n = (j : Int) + 1 := ⟨(n - 1).toNat, by omega⟩
      have hj : j < x.sems.length := by omega
      rw [if_pos h1, if_pos rfl, show ((j : Int) + 1 - 1).toNat = j from by omega]
      unfold sigR
      cases hL : atL x (3 + j) 0 with
      | nil => exact st_6c h hn hm hnow j _ A hA hj rfl (by have := hI.sb j; omega) hL
      | cons p t =>
        obtain ⟨q, hq, rfl, hw, _⟩ := mem_atL.1 (show p ∈ atL x (3 + j) 0 by rw [hL]; simp)
        simp only
        rw [show ((q : Int) + 1 - 1).toNat = q from by omega]
        exact st_6d h hn hm hnow j q t A hA hj hq hL (made_ss hI hq (by omega) (by omega)).2.2.2
    · rw [if_neg h1, if_neg (by decide)]
      by_cases h2 : n < 1
      · exact st_6a h hn hm hnow n A hA h2
      · exact st_6b h hn hm hnow n A hA (by omega) (by omega)
  · have e1 : stR x k n = waR x n := by unfold stR; rw [if_neg k1, if_neg k2, if_neg k3, if_neg k4, if_neg k5, if_neg k6]
    have e2 : stV x k n = 0 := by unfold stV; rw [if_neg k1, if_neg k5]
    have e3 : stE x k n = waE x n := by unfold stE; rw [if_neg k1, if_neg k2, if_neg k3, if_neg k4, if_neg k5, if_neg k6]
    rw [e1, e2, e3]
    unfold waR waE
    by_cases h1 : 1 ≤ n ∧ n ≤ x.sems.length
    · obtain ⟨j, rfl⟩ : ∃ j : Nat, n = (j : Int) + 1 := ⟨(n - 1).toNat, by omega⟩
      have hj : j < x.sems.length := by omega
      rw [if_pos h1, if_pos h1, show ((j : Int) + 1 - 1).toNat = j from by omega]
      have hy := wait_ss hI hj
      unfold waitR at hy ⊢
      rcases act_cases x with ⟨h0, _⟩ | ⟨a, ha, hw, h3⟩
      · rw [if_pos h0, if_pos h0]
        exact st_7c h hn hm hnow k k1 k2 k3 k4 k5 k6 j (by omega) hj
      · have h0 : ¬ actR x = 0 := by omega
        rw [if_neg h0, if_neg h0, h3, Nat.add_sub_cancel]
        by_cases hs : 0 < x.sems.getD j 0
        · rw [if_pos hs]
          exact st_7d h hn hm hnow k k1 k2 k3 k4 k5 k6 j a (x.sems.getD j 0 - 1) (by omega) hj (by omega) (by have := hI.sb j; omega)
        · rw [if_neg hs]
          have hI0 := hI.toInv0.put ha (3 + j) (by omega) (fun e => by omega) (fun q e => by
            have hqj : j = q := by omega
            subst hqj
            omega)
          exact st_7e h hn hm hnow k k1 k2 k3 k4 k5 k6 j a (by omega) hj ha (by omega) (nextR_ss hI0 (act_put_off hI.toInv0 ha (by omega) hw)).2.2.2
    · rw [if_neg h1, if_neg h1]
      by_cases h2 : n < 1
      · exact st_7a h hn hm hnow k k1 k2 k3 k4 k5 k6 n A hA h2
      · exact st_7b h hn hm hnow k k1 k2 k3 k4 k5 k6 n A hA (by omega) (by omega)

end Go.Proofs.Ytbkaafbkmcgfjaa
