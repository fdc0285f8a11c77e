/-
  The plain law of schedulers: what each step does to who stands where.
-/
import Derived.Test.YtbkaafbkmcgfjaaSchedK
namespace Go.Proofs.Ytbkaafbkmcgfjaa
set_option linter.unusedVariables false

theorem SS.same {a b : SS} (h1 : a.prior = b.prior) (h2 : a.idle = b.idle) (h3 : a.ready = b.ready) (h4 : a.ns = b.ns) (h5 : a.sq = b.sq) (h6 : a.sig = b.sig) (h7 : a.act = b.act) : a = b := by
  cases a; cases b; simp_all

theorem gP_get {x : RS} {i : Nat} (hi : i < x.P.length) : x.P[i]? = some (gP x i) := by
  unfold gP
  rw [List.getD_eq_getElem?_getD, List.getElem?_eq_getElem hi]; rfl

theorem put_prior {x : RS} {k : Nat} (hk : k < x.P.length) (w : Nat) : (ssR (putR x k w)).prior = (ssR x).prior := by
  show (x.P.set k _).map _ = x.P.map _
  rw [List.map_set]
  apply List.ext_getElem?
  intro i
  rw [List.getElem?_set]
  split
  · rename_i h
    subst h
    rw [List.length_map, if_pos hk, List.getElem?_map, gP_get hk]; rfl
  · rfl
theorem put_idle (x : RS) (k w : Nat) : (ssR (putR x k w)).idle = (ssR x).idle.set k (decide (w = 0)) := by
  show (x.P.set k _).map _ = (x.P.map _).set k _
  rw [List.map_set]
theorem put_ready {B : Nat} {x : RS} (h : Inv0 B x) {k : Nat} (hk : k < x.P.length) (w : Nat) : (ssR (putR x k w)).ready = fun i => ((ssR x).ready i).filter (fun p => p != (k : Int) + 1) ++ (if w = 2 ∧ (gP x k).pr = i then [(k : Int) + 1] else []) := by
  funext i
  show (if 1 ≤ i ∧ i ≤ 8 then atL (putR x k w) 2 i else []) = (if 1 ≤ i ∧ i ≤ 8 then atL x 2 i else []).filter _ ++ _
  have hp := h.pr k hk
  by_cases hi : 1 ≤ i ∧ i ≤ 8
  · rw [if_pos hi, if_pos hi, atL_put h.si hk]
    congr 1
    by_cases h2 : w = 2 ∧ (gP x k).pr = i
    · rw [if_pos h2, if_pos ⟨h2.1, .inr h2.2⟩]
    · rw [if_neg h2, if_neg (fun e => h2 ⟨e.1, by rcases e.2 with e2 | e2; omega; exact e2⟩)]
  · rw [if_neg hi, if_neg hi, if_neg (fun e => hi (by omega))]; rfl
theorem put_sq {B : Nat} {x : RS} (h : Inv0 B x) {k : Nat} (hk : k < x.P.length) (w : Nat) : (ssR (putR x k w)).sq = fun j => ((ssR x).sq j).filter (fun p => p != (k : Int) + 1) ++ (if w = 3 + j then [(k : Int) + 1] else []) := by
  funext j
  show atL (putR x k w) (3 + j) 0 = (atL x (3 + j) 0).filter _ ++ _
  rw [atL_put h.si hk]
  congr 1
  by_cases h2 : w = 3 + j
  · rw [if_pos h2, if_pos ⟨h2, .inl rfl⟩]
  · rw [if_neg h2, if_neg (fun e => h2 e.1)]

theorem not_ready {x : RS} {k i : Nat} (hw : (gP x k).wh ≠ 2 ∨ (gP x k).pr ≠ i) : (k : Int) + 1 ∉ (ssR x).ready i := by
  intro hm
  change (k : Int) + 1 ∈ (if 1 ≤ i ∧ i ≤ 8 then atL x 2 i else []) at hm
  split at hm
  · rename_i hi
    obtain ⟨k', hk', e, h1, _, h3⟩ := mem_atL.1 hm
    obtain rfl : k = k' := by omega
    rcases hw with hw | hw
    · exact hw h1
    · rcases h3 with h3 | h3
      · omega
      · exact hw h3
  · simp at hm
theorem not_sq {x : RS} {k j : Nat} (hw : (gP x k).wh ≠ 3 + j) : (k : Int) + 1 ∉ (ssR x).sq j := by
  intro hm
  obtain ⟨k', hk', e, h1, _, h3⟩ := mem_atL.1 hm
  obtain rfl : k = k' := by omega
  exact hw h1
theorem sq_filt {x : RS} {k : Nat} (hw : (gP x k).wh ≤ 2) : (fun j => ((ssR x).sq j).filter (fun p => p != (k : Int) + 1)) = (ssR x).sq := by
  funext j
  exact filt_none (not_sq (by omega))

theorem Inv0.put {B : Nat} {x : RS} (h : Inv0 B x) {k : Nat} (hk : k < x.P.length) (w : Nat) (hw : w ≤ 2 + x.sems.length) (h1 : w = 1 → ∀ i, i < x.P.length → (gP x i).wh = 1 → i = k) (hs : ∀ j, w = 3 + j → x.sems.getD j 0 = 0) : Inv0 B (putR x k w) := by
  refine ⟨by rw [put_len]; exact h.n, h.m, fun i hi => ?_, fun i hi => ?_, fun i hi => ?_, fun i j hi hj => ?_, fun i j hi => ?_, h.sb⟩
  all_goals rw [put_len] at *
  · by_cases hik : i = k
    · subst hik; rw [gP_put_same hi]; exact h.pr i hi
    · rw [gP_put_ne hik]; exact h.pr i hi
  · show _ ≤ x.now + 1
    by_cases hik : i = k
    · subst hik; rw [gP_put_same hi]; exact Nat.le_refl _
    · rw [gP_put_ne hik]; have := h.si i hi; omega
  · show _ ≤ 2 + x.sems.length
    by_cases hik : i = k
    · subst hik; rw [gP_put_same hi]; exact hw
    · rw [gP_put_ne hik]; exact h.wh i hi
  · by_cases hik : i = k
    · subst hik
      by_cases hjk : j = i
      · intro _ _; exact hjk.symm
      · rw [gP_put_same hi, gP_put_ne hjk]
        intro e1 e2
        exact absurd (h1 e1 j hj e2) hjk
    · by_cases hjk : j = k
      · subst hjk
        rw [gP_put_same hj, gP_put_ne hik]
        intro e1 e2
        exact h1 e2 i hi e1
      · rw [gP_put_ne hik, gP_put_ne hjk]; exact h.uq i j hi hj
  · show _ → x.sems.getD j 0 = 0
    by_cases hik : i = k
    · subst hik; rw [gP_put_same hi]; exact hs j
    · rw [gP_put_ne hik]; exact h.sg i j hi

theorem act_put {B : Nat} {x : RS} (h : Inv0 B x) {k : Nat} (hk : k < x.P.length) {w : Nat} (hI : Inv0 B (putR x k w)) (hw : w ≠ 1) (hwk : (gP x k).wh ≠ 1) : actR (putR x k w) = actR x := by
  rcases act_cases x with ⟨h1, h2⟩ | ⟨a, ha, h1, h2⟩
  · rw [h1]
    refine act_zero (fun i hi => ?_)
    rw [put_len] at hi
    by_cases hik : i = k
    · subst hik; rw [gP_put_same hi]; exact hw
    · rw [gP_put_ne hik]; exact h2 i hi
  · rw [h2]
    have hak : a ≠ k := fun e => hwk (e ▸ h1)
    exact act_is hI (by rw [put_len]; exact ha) (by rw [gP_put_ne hak]; exact h1)
theorem act_put_one {B : Nat} {x : RS} {k : Nat} (hk : k < x.P.length) (hi : Inv0 B (putR x k 1)) : actR (putR x k 1) = k + 1 :=
  act_is hi (by rw [put_len]; exact hk) (by rw [gP_put_same hk])
theorem act_put_off {B : Nat} {x : RS} (h : Inv0 B x) {k : Nat} (hk : k < x.P.length) {w : Nat} (hw : w ≠ 1) (hwk : (gP x k).wh = 1) : actR (putR x k w) = 0 := by
  refine act_zero (fun i hi => ?_)
  rw [put_len] at hi
  by_cases hik : i = k
  · subst hik; rw [gP_put_same hi]; exact hw
  · rw [gP_put_ne hik]; exact fun e => hik (h.uq i k hi hk e hwk)

theorem set_self {l : List Bool} {k : Nat} {b : Bool} (h : k < l.length → l.getD k false = b) : l.set k b = l := by
  apply List.ext_getElem?
  intro i
  rw [List.getElem?_set]
  split
  · rename_i e
    subst e
    split
    · rename_i hk
      rw [← h hk, List.getD_eq_getElem?_getD, List.getElem?_eq_getElem hk]; rfl
    · rename_i hk
      rw [List.getElem?_eq_none (by omega)]
  · rfl
theorem idle_get {x : RS} {k : Nat} (hk : k < x.P.length) : (ssR x).idle.getD k false = decide ((gP x k).wh = 0) := by
  show (x.P.map _).getD k false = _
  rw [List.getD_eq_getElem?_getD, List.getElem?_map, gP_get hk]; rfl
theorem prior_get {x : RS} {k : Nat} (hk : k < x.P.length) : prI (ssR x) k = ((gP x k).pr : Int) := by
  show (x.P.map _).getD k 0 = _
  rw [List.getD_eq_getElem?_getD, List.getElem?_map, gP_get hk]; rfl
theorem priorN_get {x : RS} {k : Nat} (hk : k < x.P.length) : prN (ssR x) k = (gP x k).pr := by
  unfold prN
  rw [prior_get hk]; omega

/-! ### The next one -/

def nextRF : Nat → RS → RS
  | 0, x => x
  | i + 1, x => if actR x = 0 then (match atL x 2 (i + 1) with
    | [] => nextRF i x
    | p :: _ => putR x (p - 1).toNat 1) else x

theorem next_stay {x : RS} (h : actR x ≠ 0) : ∀ i, nextRF i x = x
  | 0 => rfl
  | i + 1 => by unfold nextRF; rw [if_neg h]

theorem next_ss {B : Nat} {x : RS} (h : Inv0 B x) (ha : actR x = 0) : ∀ (i : Nat), i ≤ 8 → (∀ k, k < x.P.length → (gP x k).wh = 2 → (gP x k).pr ≤ i) → ssR (nextRF i x) = nextF i (ssR x) ∧ Inv B (nextRF i x) ∧ (nextRF i x).P.length = x.P.length ∧ (nextRF i x).sems = x.sems
  | 0, _, ht => ⟨rfl, ⟨h, fun i hi h2 => by have := ht i hi h2; have := h.pr i hi; omega⟩, rfl, rfl⟩
  | i + 1, hi, ht => by
    have hr : (ssR x).ready (i + 1) = atL x 2 (i + 1) := if_pos ⟨by omega, hi⟩
    unfold nextRF nextF
    rw [if_pos ha, hr]
    cases hq : atL x 2 (i + 1) with
    | nil =>
      simp only
      refine next_ss h ha i (by omega) (fun k hk hw => ?_)
      have h1 := ht k hk hw
      have h2 : (gP x k).pr ≠ i + 1 := fun e => by
        have : (k : Int) + 1 ∈ atL x 2 (i + 1) := mem_atL.2 ⟨k, hk, rfl, hw, h.si k hk, .inr e⟩
        rw [hq] at this
        simp at this
      omega
    | cons p l =>
      simp only
      obtain ⟨k, hk, rfl, hw, _, hp⟩ := mem_atL.1 (show p ∈ atL x 2 (i + 1) by rw [hq]; simp)
      have hp : (gP x k).pr = i + 1 := by rcases hp with hp | hp; omega; exact hp
      rw [show ((k : Int) + 1 - 1).toNat = k from by omega]
      have hnone : ∀ j, j < x.P.length → (gP x j).wh ≠ 1 := by
        rcases act_cases x with ⟨_, h2⟩ | ⟨a, _, _, h2⟩
        · exact h2
        · omega
      have hI := h.put hk 1 (by omega) (fun _ j hj e => absurd e (hnone j hj)) (fun j e => by omega)
      refine ⟨?_, ⟨hI, fun j hj h2 => ?_⟩, put_len _ _ _, rfl⟩
      · refine SS.same (put_prior hk 1) ?_ ?_ rfl ?_ rfl ?_
        · rw [put_idle]
          exact set_self (fun hl => by rw [idle_get hk]; simp [hw])
        · rw [put_ready h hk]
          funext j
          show _ = upd (ssR x).ready (i + 1) l j
          rw [if_neg (by omega), List.append_nil]
          by_cases hj : j = i + 1
          · subst hj
            rw [upd_same, hr, hq]
            have := nodup_atL x 2 (i + 1)
            rw [hq] at this
            exact filt_head this
          · rw [upd_ne _ _ hj]
            exact filt_none (not_ready (.inr (by omega)))
        · rw [put_sq h hk]
          funext j
          rw [if_neg (by omega), List.append_nil]
          exact filt_none (not_sq (by omega))
        · show ((actR (putR x k 1) : Nat) : Int) = (k : Int) + 1
          rw [act_put_one hk hI]; rfl
      · rw [put_len] at hj
        by_cases hjk : j = k
        · subst hjk; rw [gP_put_same hj] at h2; simp at h2
        · rw [gP_put_ne hjk] at h2 ⊢
          refine ⟨k, by rw [put_len]; exact hk, by rw [gP_put_same hk], ?_⟩
          rw [gP_put_same hk]
          have := ht j hj h2
          show (gP x j).pr ≤ (gP x k).pr
          omega

def nextR (x : RS) : RS := nextRF 8 x
theorem nextR_ss {B : Nat} {x : RS} (h : Inv0 B x) (ha : actR x = 0) : ssR (nextR x) = nextF 8 (ssR x) ∧ Inv B (nextR x) ∧ (nextR x).P.length = x.P.length ∧ (nextR x).sems = x.sems :=
  next_ss h ha 8 (Nat.le_refl _) (fun k hk _ => (h.pr k hk).2)

/-! ### One is ready made -/

def madeR (x : RS) (k : Nat) : RS :=
  if actR (putR x k 2) = 0 then putR (putR x k 2) k 1
  else if (gP (putR x k 2) k).pr > (gP (putR x k 2) (actR (putR x k 2) - 1)).pr then putR (putR (putR x k 2) (actR (putR x k 2) - 1) 2) k 1
  else putR x k 2

theorem drop_last {l : List Int} {p : Int} (h : p ∉ l) : dropL (l ++ [p]) p = l := by
  unfold dropL
  rw [List.erase_append_right _ h]
  simp

/-- One stands for no semaphore. -/
def offS (s : SS) (k : Nat) : SS := { s with sq := fun j => (s.sq j).filter (fun p => p != (k : Int) + 1) }

theorem made_ss {B : Nat} {x : RS} (h : Inv B x) {k : Nat} (hk : k < x.P.length) (h1 : (gP x k).wh ≠ 1) (h2 : (gP x k).wh ≠ 2) :
    ssR (madeR x k) = makeS (offS (ssR x) k) k ∧ Inv B (madeR x k) ∧ (madeR x k).P.length = x.P.length ∧ (madeR x k).sems = x.sems := by
  have hy := h.toInv0.put hk 2 (by omega) (fun e => by omega) (fun j e => by omega)
  have hay := act_put h.toInv0 hk hy (by omega) h1
  have hky : k < (putR x k 2).P.length := by rw [put_len]; exact hk
  have hgk : gP (putR x k 2) k = ⟨(gP x k).pr, 2, x.now + 1⟩ := gP_put_same hk 2
  have hrn : ∀ i, (k : Int) + 1 ∉ (ssR x).ready i := fun i => not_ready (.inl h2)
  have hrd : (ssR (putR x k 2)).ready = upd (ssR x).ready (gP x k).pr ((ssR x).ready (gP x k).pr ++ [(k : Int) + 1]) := by
    rw [put_ready h.toInv0 hk]
    funext i
    rw [filt_none (hrn i)]
    by_cases hi : i = (gP x k).pr
    · subst hi; rw [upd_same, if_pos ⟨rfl, rfl⟩]
    · rw [upd_ne _ _ hi, if_neg (fun e => hi e.2.symm), List.append_nil]
  have hsq : (ssR (putR x k 2)).sq = fun j => ((ssR x).sq j).filter (fun p => p != (k : Int) + 1) := by
    rw [put_sq h.toInv0 hk]
    funext j
    rw [if_neg (by omega), List.append_nil]
  have hprI : prI (offS (ssR x) k) k = ((gP x k).pr : Int) := prior_get hk
  have hprN : prN (offS (ssR x) k) k = (gP x k).pr := priorN_get hk
  have hm1 : make1 (offS (ssR x) k) k = ssR (putR x k 2) := by
    unfold make1
    rw [hprN]
    refine SS.same (put_prior hk 2).symm ?_ hrd.symm rfl hsq.symm rfl ?_
    · rw [put_idle]; rfl
    · show ((actR x : Nat) : Int) = ((actR (putR x k 2) : Nat) : Int)
      rw [hay]
  have hA : (offS (ssR x) k).act = ((actR x : Nat) : Int) := rfl
  unfold madeR makeS
  rw [hay, hm1, hprI, hprN, hA]
  rcases act_cases x with ⟨ha, hno⟩ | ⟨a, haa, hwa, ha⟩
  · rw [if_pos ha, if_pos (show ((actR x : Nat) : Int) = 0 by omega)]
    have hI := hy.put hky 1 (by show 1 ≤ 2 + x.sems.length; omega) (fun _ j hj e => by
      rw [put_len] at hj
      by_cases hjk : j = k
      · exact hjk
      · rw [gP_put_ne hjk] at e; exact absurd e (hno j hj)) (fun j e => by omega)
    refine ⟨?_, ⟨hI, fun j hj e => ?_⟩, by rw [put_len, put_len], rfl⟩
    · refine SS.same (put_prior hky 1) ?_ ?_ rfl ?_ rfl ?_
      · rw [put_idle]
        exact set_self (fun _ => by rw [idle_get hky, hgk]; rfl)
      · rw [put_ready hy hky]
        funext i
        show _ = upd (ssR (putR x k 2)).ready (gP x k).pr (dropL ((ssR (putR x k 2)).ready (gP x k).pr) ((k : Int) + 1)) i
        rw [if_neg (by omega), List.append_nil]
        by_cases hi : i = (gP x k).pr
        · subst hi
          rw [upd_same, hrd, upd_same, drop_last (hrn _), List.filter_append, filt_none (hrn _)]
          simp
        · rw [upd_ne _ _ hi]
          exact filt_none (not_ready (.inr (by rw [hgk]; exact fun e => hi e.symm)))
      · rw [put_sq hy hky]
        funext j
        rw [if_neg (by omega), List.append_nil]
        exact filt_none (not_sq (by rw [hgk]; show 2 ≠ 3 + j; omega))
      · show ((actR (putR (putR x k 2) k 1) : Nat) : Int) = (k : Int) + 1
        rw [act_put_one hky hI]; rfl
    · rw [put_len, put_len] at hj
      by_cases hjk : j = k
      · subst hjk; rw [gP_put_same hky] at e; simp at e
      · rw [gP_put_ne hjk, gP_put_ne hjk] at e
        obtain ⟨a, ha1, ha2, _⟩ := h.top j hj e
        exact absurd ha2 (hno a ha1)
  · have hak : a ≠ k := fun e => h1 (e ▸ hwa)
    have hga : gP (putR x k 2) a = gP x a := gP_put_ne hak 2
    rw [ha, if_neg (by omega), Nat.add_sub_cancel, if_neg (show ¬ ((a + 1 : Nat) : Int) = 0 by omega), hga, hgk]
    have hact : (((actR x : Nat) : Int) - 1).toNat = a := by omega
    have hpa : prI (offS (ssR x) k) a = ((gP x a).pr : Int) := prior_get haa
    have hpaN : prN (offS (ssR x) k) a = (gP x a).pr := priorN_get haa
    rw [ha] at hact
    rw [hact, hpa, hpaN, show ((a + 1 : Nat) : Int) = (a : Int) + 1 from by omega]
    have hay1 : a < (putR x k 2).P.length := by rw [put_len]; exact haa
    show ssR (if (gP x k).pr > (gP x a).pr then _ else _) = _ ∧ _
    by_cases hc : (gP x k).pr > (gP x a).pr
    · simp only [if_pos hc]
      rw [if_pos (show ((gP x k).pr : Int) > ((gP x a).pr : Int) by omega)]
      have hz := hy.put hay1 2 (by omega) (fun e => by omega) (fun j e => by omega)
      have hkz : k < (putR (putR x k 2) a 2).P.length := by rw [put_len]; exact hky
      have hgkz : gP (putR (putR x k 2) a 2) k = ⟨(gP x k).pr, 2, x.now + 1⟩ := by rw [gP_put_ne (Ne.symm hak)]; exact hgk
      have hnz : ∀ j, j < x.P.length → (gP (putR (putR x k 2) a 2) j).wh ≠ 1 := fun j hj e => by
        by_cases hja : j = a
        · subst hja; rw [gP_put_same hay1] at e; simp at e
        · rw [gP_put_ne hja] at e
          by_cases hjk : j = k
          · subst hjk; rw [hgk] at e; simp at e
          · rw [gP_put_ne hjk] at e
            exact hja (h.uq j a hj haa e hwa)
      have hI := hz.put hkz 1 (by show 1 ≤ 2 + x.sems.length; omega) (fun _ j hj e => by
        rw [put_len, put_len] at hj
        exact absurd e (hnz j hj)) (fun j e => by omega)
      refine ⟨?_, ⟨hI, fun j hj e => ?_⟩, by rw [put_len, put_len, put_len], rfl⟩
      · refine SS.same ((put_prior hkz 1).trans (put_prior hay1 2)) ?_ ?_ rfl ?_ rfl ?_
        · rw [put_idle, put_idle (putR x k 2) a]
          show ((ssR (putR x k 2)).idle.set a _).set k _ = (ssR (putR x k 2)).idle
          have e1 : (ssR (putR x k 2)).idle.set a (decide (2 = 0)) = (ssR (putR x k 2)).idle := set_self (fun _ => by rw [idle_get hay1, hga]; simp [hwa])
          rw [e1]
          exact set_self (fun _ => by rw [idle_get hky, hgk]; rfl)
        · rw [put_ready hz hkz, put_ready hy hay1]
          funext i
          show _ = upd (upd (ssR (putR x k 2)).ready (gP x a).pr ((ssR (putR x k 2)).ready (gP x a).pr ++ [(a : Int) + 1])) (gP x k).pr (dropL (upd (ssR (putR x k 2)).ready (gP x a).pr ((ssR (putR x k 2)).ready (gP x a).pr ++ [(a : Int) + 1]) (gP x k).pr) ((k : Int) + 1)) i
          simp only [hga]
          rw [if_neg (show ¬ (1 = 2 ∧ _) by omega), List.append_nil, filt_none (not_ready (.inl (by rw [hga, hwa]; omega)))]
          rw [upd_ne _ _ (show (gP x k).pr ≠ (gP x a).pr by omega), hrd, upd_same, drop_last (hrn _)]
          by_cases hi : i = (gP x k).pr
          · subst hi
            rw [upd_same, upd_same, if_neg (by omega), List.append_nil, List.filter_append, filt_none (hrn _)]
            simp
          · rw [upd_ne _ _ hi, upd_ne _ _ hi]
            by_cases hia : i = (gP x a).pr
            · subst hia
              rw [upd_same, if_pos (by simp), upd_ne _ _ hi, List.filter_append, filt_none (hrn _)]
              have : ((a : Int) + 1 != (k : Int) + 1) = true := by simp; omega
              simp [this]
            · rw [upd_ne _ _ hia, if_neg (fun e => hia e.2.symm), List.append_nil, upd_ne _ _ hi, filt_none (hrn _)]
        · rw [put_sq hz hkz, put_sq hy hay1]
          funext j
          dsimp only
          rw [if_neg (by omega), if_neg (by omega), List.append_nil, List.append_nil, filt_none (not_sq (by rw [hga, hwa]; omega)), filt_none (not_sq (by rw [hgk]; show 2 ≠ 3 + j; omega))]
          rfl
        · show ((actR _ : Nat) : Int) = (k : Int) + 1
          rw [act_put_one hkz hI]; rfl
      · rw [put_len, put_len, put_len] at hj
        refine ⟨k, by rw [put_len]; exact hkz, by rw [gP_put_same hkz], ?_⟩
        rw [gP_put_same hkz]
        show _ ≤ (gP (putR (putR x k 2) a 2) k).pr
        rw [hgkz]
        by_cases hjk : j = k
        · subst hjk; rw [gP_put_same hkz] at e; simp at e
        · rw [gP_put_ne hjk] at e ⊢
          by_cases hja : j = a
          · subst hja
            rw [gP_put_same hay1]
            show (gP (putR x k 2) j).pr ≤ (gP x k).pr
            rw [hga]; omega
          · rw [gP_put_ne hja, gP_put_ne hjk] at e ⊢
            obtain ⟨b, hb, hb1, hb2⟩ := h.top j hj e
            obtain rfl := h.uq b a hb haa hb1 hwa
            show _ ≤ (gP x k).pr
            omega
    · simp only [if_neg hc]
      rw [if_neg (show ¬ ((gP x k).pr : Int) > ((gP x a).pr : Int) by omega)]
      refine ⟨rfl, ⟨hy, fun j hj e => ?_⟩, put_len _ _ _, rfl⟩
      rw [put_len] at hj
      refine ⟨a, hay1, by rw [hga]; exact hwa, ?_⟩
      rw [hga]
      by_cases hjk : j = k
      · subst hjk; rw [hgk]; show (gP x j).pr ≤ _; omega
      · rw [gP_put_ne hjk] at e ⊢
        obtain ⟨b, hb, hb1, hb2⟩ := h.top j hj e
        obtain rfl := h.uq b a hb haa hb1 hwa
        exact hb2

end Go.Proofs.Ytbkaafbkmcgfjaa
