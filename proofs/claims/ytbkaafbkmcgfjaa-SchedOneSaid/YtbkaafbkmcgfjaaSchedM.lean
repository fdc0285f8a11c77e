/-
  The plain law of schedulers: a process more, a semaphore more, signals and waits, suspended, yielded, resumed ones.
-/
import Derived.Test.YtbkaafbkmcgfjaaSchedL
namespace Go.Proofs.Ytbkaafbkmcgfjaa
set_option linter.unusedVariables false

def spawnR (x : RS) (p : Nat) : RS := { x with P := x.P ++ [⟨p, 0, 0⟩] }
theorem gP_old {x : RS} {i : Nat} (hi : i < x.P.length) (p : Nat) : gP (spawnR x p) i = gP x i := by
  unfold gP spawnR
  simp only [List.getD_eq_getElem?_getD]
  rw [List.getElem?_append_left hi]
theorem gP_new (x : RS) (p : Nat) : gP (spawnR x p) x.P.length = ⟨p, 0, 0⟩ := by
  unfold gP spawnR
  simp
theorem spawn_len (x : RS) (p : Nat) : (spawnR x p).P.length = x.P.length + 1 := by simp [spawnR]
theorem atL_spawn (x : RS) (p : Nat) {wh : Nat} (hw : wh ≠ 0) (pr : Nat) : atL (spawnR x p) wh pr = atL x wh pr := by
  unfold atL
  show (List.range (x.now + 1)).flatMap _ = _
  refine flat_congr (fun t _ => ?_)
  rw [spawn_len, List.range_succ, List.filter_append]
  have e : [x.P.length].filter (condR (spawnR x p) wh pr t) = [] := by
    rw [List.filter_cons, if_neg, List.filter_nil]
    unfold condR
    rw [gP_new]
    simp
    omega
  rw [e, List.append_nil]
  congr 1
  apply List.filter_congr
  intro i hi
  unfold condR
  rw [gP_old (List.mem_range.1 hi)]
theorem Inv.mono {B C : Nat} {x : RS} (h : Inv B x) (hBC : B ≤ C) : Inv C x := ⟨⟨h.n, h.m, h.pr, h.si, h.wh, h.uq, h.sg, fun j => Nat.le_trans (h.sb j) hBC⟩, h.top⟩
theorem lt_spawn {x : RS} {p i : Nat} (hi : i < (spawnR x p).P.length) : i < x.P.length ∨ i = x.P.length := by
  rw [spawn_len] at hi; omega
theorem act_spawn {B : Nat} {x : RS} (h : Inv0 B x) (p : Nat) (h2 : Inv0 B (spawnR x p)) : actR (spawnR x p) = actR x := by
  rcases act_cases x with ⟨h1, hn⟩ | ⟨a, ha, h3, h4⟩
  · rw [h1]
    refine act_zero (fun i hi => ?_)
    rcases lt_spawn hi with hi | rfl
    · rw [gP_old hi]; exact hn i hi
    · rw [gP_new]; simp
  · rw [h4]
    exact act_is h2 (by rw [spawn_len]; omega) (by rw [gP_old ha]; exact h3)
theorem spawn_ss {B : Nat} {x : RS} (h : Inv B x) {p : Nat} (h1 : 1 ≤ p) (h8 : p ≤ 8) (hn : x.P.length < 100) : ssR (spawnR x p) = spawnS (ssR x) p ∧ Inv B (spawnR x p) := by
  have h0 : Inv0 B (spawnR x p) := by
    refine ⟨by rw [spawn_len]; omega, h.m, fun i hi => ?_, fun i hi => ?_, fun i hi => ?_, fun i j hi hj => ?_, fun i j hi => ?_, h.sb⟩
    · rcases lt_spawn hi with hi | rfl
      · rw [gP_old hi]; exact h.pr i hi
      · rw [gP_new]; exact ⟨h1, h8⟩
    · rcases lt_spawn hi with hi | rfl
      · rw [gP_old hi]; exact h.si i hi
      · rw [gP_new]; exact Nat.zero_le _
    · rcases lt_spawn hi with hi | rfl
      · rw [gP_old hi]; exact h.wh i hi
      · rw [gP_new]; exact Nat.zero_le _
    · rcases lt_spawn hi with hi | rfl
      · rcases lt_spawn hj with hj | rfl
        · rw [gP_old hi, gP_old hj]; exact h.uq i j hi hj
        · rw [gP_new]; intro _ e; simp at e
      · rw [gP_new]; intro e; simp at e
    · rcases lt_spawn hi with hi | rfl
      · rw [gP_old hi]; exact h.sg i j hi
      · rw [gP_new]; intro e; simp at e; omega
  refine ⟨SS.same (by simp [ssR, spawnR, spawnS]) (by simp [ssR, spawnR, spawnS]) ?_ rfl ?_ rfl ?_, ⟨h0, fun i hi e => ?_⟩⟩
  · funext i
    show (if 1 ≤ i ∧ i ≤ 8 then atL (spawnR x p) 2 i else []) = (if 1 ≤ i ∧ i ≤ 8 then atL x 2 i else [])
    rw [atL_spawn x p (by omega)]
  · funext j
    exact atL_spawn x p (by omega) 0
  · show ((actR (spawnR x p) : Nat) : Int) = ((actR x : Nat) : Int)
    rw [act_spawn h.toInv0 p h0]
  · rcases lt_spawn hi with hi | rfl
    · rw [gP_old hi] at e ⊢
      obtain ⟨a, ha, hb, hc⟩ := h.top i hi e
      exact ⟨a, by rw [spawn_len]; omega, by rw [gP_old ha]; exact hb, by rw [gP_old ha]; exact hc⟩
    · rw [gP_new] at e; simp at e

def semR (x : RS) : RS := { x with sems := x.sems ++ [0] }
theorem getD_app0 (l : List Nat) (j : Nat) : (l ++ [0]).getD j 0 = l.getD j 0 := by
  simp only [List.getD_eq_getElem?_getD]
  by_cases h : j < l.length
  · rw [List.getElem?_append_left h]
  · rw [List.getElem?_append_right (by omega), List.getElem?_eq_none (l := l) (by omega)]
    by_cases h2 : j = l.length
    · subst h2; simp
    · rw [List.getElem?_eq_none (by simp; omega)]
theorem sem_ss {B : Nat} {x : RS} (h : Inv B x) (hn : x.sems.length < 100) : ssR (semR x) = semS (ssR x) ∧ Inv B (semR x) := by
  have hg := getD_app0 x.sems
  refine ⟨SS.same rfl rfl rfl (by simp [ssR, semR, semS]) ?_ ?_ rfl, ⟨⟨h.n, by show (x.sems ++ [0]).length ≤ 100; simp; omega, h.pr, h.si, fun i hi => ?_, h.uq, fun i j hi e => ?_, fun j => ?_⟩, h.top⟩⟩
  · funext j
    show atL x (3 + j) 0 = upd (fun j => atL x (3 + j) 0) x.sems.length [] j
    by_cases hj : j = x.sems.length
    · subst hj
      rw [upd_same]
      apply List.eq_nil_iff_forall_not_mem.2
      intro p hp
      obtain ⟨i, hi, _, hw, _⟩ := mem_atL.1 hp
      have := h.wh i hi
      omega
    · rw [upd_ne _ _ hj]
  · funext j
    show (((x.sems ++ [0]).getD j 0 : Nat) : Int) = upd (fun j => ((x.sems.getD j 0 : Nat) : Int)) x.sems.length 0 j
    rw [hg]
    by_cases hj : j = x.sems.length
    · subst hj
      rw [upd_same, List.getD_eq_getElem?_getD, List.getElem?_eq_none (Nat.le_refl _)]; rfl
    · rw [upd_ne _ _ hj]
  · have := h.wh i hi
    show (gP x i).wh ≤ 2 + (x.sems ++ [0]).length
    simp; omega
  · show (x.sems ++ [0]).getD j 0 = 0
    rw [hg]; exact h.sg i j hi e
  · show (x.sems ++ [0]).getD j 0 ≤ B
    rw [hg]; exact h.sb j

def sigsR (x : RS) (j v : Nat) : RS := { x with sems := x.sems.set j v }
theorem getD_setN {l : List Nat} {j : Nat} (hj : j < l.length) (v i : Nat) : (l.set j v).getD i 0 = if i = j then v else l.getD i 0 := by
  simp only [List.getD_eq_getElem?_getD]
  by_cases h : i = j
  · subst h; rw [if_pos rfl, List.getElem?_set_self hj]; rfl
  · rw [if_neg h, List.getElem?_set_ne (Ne.symm h)]
theorem sigs_ss {B C : Nat} {x : RS} (h : Inv B x) {j : Nat} (hj : j < x.sems.length) (v : Nat) (hz : ∀ i, i < x.P.length → (gP x i).wh = 3 + j → v = 0) (hv : v ≤ C) (hBC : B ≤ C) : ssR (sigsR x j v) = { ssR x with sig := upd (ssR x).sig j (v : Int) } ∧ Inv C (sigsR x j v) := by
  refine ⟨SS.same rfl rfl rfl (by simp [ssR, sigsR]) rfl ?_ rfl, ⟨⟨h.n, by show (x.sems.set j v).length ≤ 100; rw [List.length_set]; exact h.m, h.pr, h.si, fun i hi => ?_, h.uq, fun i q hi e => ?_, fun q => ?_⟩, h.top⟩⟩
  · funext i
    show (((x.sems.set j v).getD i 0 : Nat) : Int) = upd (fun j => ((x.sems.getD j 0 : Nat) : Int)) j v i
    rw [getD_setN hj]
    unfold upd
    split <;> rfl
  · show _ ≤ 2 + (x.sems.set j v).length
    rw [List.length_set]; exact h.wh i hi
  · show (x.sems.set j v).getD q 0 = 0
    rw [getD_setN hj]
    split
    · rename_i hq
      subst hq
      exact hz i hi e
    · exact h.sg i q hi e
  · show (x.sems.set j v).getD q 0 ≤ C
    rw [getD_setN hj]
    split
    · exact hv
    · exact Nat.le_trans (h.sb q) hBC

def sigR (x : RS) (j : Nat) : RS := match atL x (3 + j) 0 with
  | [] => sigsR x j (x.sems.getD j 0 + 1)
  | p :: _ => madeR x (p - 1).toNat

theorem sig_ss {B : Nat} {x : RS} (h : Inv B x) {j : Nat} (hj : j < x.sems.length) : ssR (sigR x j) = sigS (ssR x) j ∧ Inv (B + 1) (sigR x j) ∧ (sigR x j).P.length = x.P.length ∧ (sigR x j).sems.length = x.sems.length := by
  unfold sigR sigS
  show _ = (match atL x (3 + j) 0 with | [] => _ | p :: l => _) ∧ _
  cases hq : atL x (3 + j) 0 with
  | nil =>
    have := sigs_ss h hj (x.sems.getD j 0 + 1) (fun i hi e => by
      have : (i : Int) + 1 ∈ atL x (3 + j) 0 := mem_atL.2 ⟨i, hi, rfl, e, h.si i hi, .inl rfl⟩
      rw [hq] at this
      simp at this) (by have := h.sb j; omega) (Nat.le_succ B)
    exact ⟨this.1, this.2, rfl, by show (x.sems.set j _).length = _; rw [List.length_set]⟩
  | cons p l =>
    obtain ⟨k, hk, rfl, hw, _, _⟩ := mem_atL.1 (show p ∈ atL x (3 + j) 0 by rw [hq]; simp)
    simp only
    rw [show ((k : Int) + 1 - 1).toNat = k from by omega]
    obtain ⟨h1, h2, h3, h4⟩ := made_ss h hk (by omega) (by omega)
    refine ⟨?_, h2.mono (Nat.le_succ B), h3, by rw [h4]⟩
    rw [h1]
    congr 1
    refine SS.same rfl rfl rfl rfl ?_ rfl rfl
    funext i
    show ((ssR x).sq i).filter _ = upd (ssR x).sq j l i
    by_cases hi : i = j
    · subst hi
      rw [upd_same, show (ssR x).sq i = atL x (3 + i) 0 from rfl, hq]
      have := nodup_atL x (3 + i) 0
      rw [hq] at this
      exact filt_head this
    · rw [upd_ne _ _ hi]
      exact filt_none (not_sq (by omega))

def waitR (x : RS) (j : Nat) : RS :=
  if actR x = 0 then x else if 0 < x.sems.getD j 0 then sigsR x j (x.sems.getD j 0 - 1) else nextR (putR x (actR x - 1) (3 + j))

theorem wait_ss {B : Nat} {x : RS} (h : Inv B x) {j : Nat} (hj : j < x.sems.length) : ssR (waitR x j) = waitS (ssR x) j ∧ Inv B (waitR x j) ∧ (waitR x j).P.length = x.P.length ∧ (waitR x j).sems.length = x.sems.length := by
  unfold waitR waitS
  rcases act_cases x with ⟨ha, hno⟩ | ⟨a, haa, hwa, ha⟩
  · rw [if_pos ha, if_pos (show (ssR x).act = 0 from (by show ((actR x : Nat) : Int) = 0; omega))]
    exact ⟨rfl, h, rfl, rfl⟩
  · rw [if_neg (by omega), if_neg (show ¬ (ssR x).act = 0 from (by show ¬ ((actR x : Nat) : Int) = 0; omega))]
    by_cases hs : 0 < x.sems.getD j 0
    · rw [if_pos hs, if_pos (show 0 < (ssR x).sig j from (by show (0 : Int) < ((x.sems.getD j 0 : Nat) : Int); omega))]
      have := sigs_ss h hj (x.sems.getD j 0 - 1) (fun i hi e => by have := h.sg i j hi e; omega) (by have := h.sb j; omega) (Nat.le_refl B)
      refine ⟨?_, this.2, rfl, by show (x.sems.set j _).length = _; rw [List.length_set]⟩
      rw [this.1]
      show _ = { ssR x with sig := upd (ssR x).sig j (((x.sems.getD j 0 : Nat) : Int) - 1) }
      rw [show ((x.sems.getD j 0 - 1 : Nat) : Int) = ((x.sems.getD j 0 : Nat) : Int) - 1 by omega]
    · rw [if_neg hs, if_neg (show ¬ 0 < (ssR x).sig j from (by show ¬ (0 : Int) < ((x.sems.getD j 0 : Nat) : Int); omega)), ha, Nat.add_sub_cancel]
      have hs0 : ∀ q, 3 + j = 3 + q → x.sems.getD q 0 = 0 := by
        intro q e
        have hqj : j = q := by omega
        subst hqj
        omega
      have hI := h.toInv0.put haa (3 + j) (by omega) (fun e => by omega) hs0
      have hz := act_put_off h.toInv0 haa (w := 3 + j) (by omega) hwa
      obtain ⟨h1, h2, h3, h4⟩ := nextR_ss hI hz
      refine ⟨?_, h2, by rw [h3, put_len], by rw [h4]; rfl⟩
      rw [h1]
      show _ = nextF 8 { ssR x with sq := upd (ssR x).sq j ((ssR x).sq j ++ [((actR x : Nat) : Int)]), act := 0 }
      congr 1
      refine SS.same (put_prior haa _) ?_ ?_ rfl ?_ rfl ?_
      · rw [put_idle]
        exact set_self (fun _ => by rw [idle_get haa]; simp [hwa])
      · rw [put_ready h.toInv0 haa]
        funext i
        dsimp only
        rw [if_neg (by omega), List.append_nil]
        exact filt_none (not_ready (.inl (by omega)))
      · rw [put_sq h.toInv0 haa]
        funext i
        dsimp only
        rw [filt_none (not_sq (by omega))]
        by_cases hi : i = j
        · subst hi; rw [upd_same, if_pos rfl, ha]; rfl
        · rw [upd_ne _ _ hi, if_neg (by omega), List.append_nil]
      · show ((actR _ : Nat) : Int) = 0
        rw [hz]; rfl

def suspR (x : RS) (k : Nat) : RS := nextR (putR x k 0)
theorem susp_ss {B : Nat} {x : RS} (h : Inv B x) {k : Nat} (hk : k < x.P.length) : ssR (suspR x k) = suspS (ssR x) k ∧ Inv B (suspR x k) ∧ (suspR x k).P.length = x.P.length ∧ (suspR x k).sems = x.sems := by
  have hI := h.toInv0.put hk 0 (Nat.zero_le _) (fun e => by omega) (fun j e => by omega)
  unfold suspR suspS
  have hidl : (ssR (putR x k 0)).idle = (ssR x).idle.set k true := by rw [put_idle]; rfl
  by_cases hwk : (gP x k).wh = 1
  · have hact : (ssR x).act = (k : Int) + 1 := by
      show ((actR x : Nat) : Int) = _
      rw [act_is h.toInv0 hk hwk]; rfl
    rw [if_pos hact]
    have hz := act_put_off h.toInv0 hk (w := 0) (by omega) hwk
    obtain ⟨h1, h2, h3, h4⟩ := nextR_ss hI hz
    refine ⟨?_, h2, by rw [h3, put_len], by rw [h4]; rfl⟩
    rw [h1]
    show _ = nextF 8 { ssR x with idle := (ssR x).idle.set k true, act := 0 }
    congr 1
    refine SS.same (put_prior hk _) hidl ?_ rfl ?_ rfl ?_
    · rw [put_ready h.toInv0 hk]
      funext i
      dsimp only
      rw [if_neg (by omega), List.append_nil]
      exact filt_none (not_ready (.inl (by omega)))
    · rw [put_sq h.toInv0 hk]
      funext i
      dsimp only
      rw [if_neg (by omega), List.append_nil]
      exact filt_none (not_sq (by omega))
    · show ((actR _ : Nat) : Int) = 0
      rw [hz]; rfl
  · have hact : ¬ (ssR x).act = (k : Int) + 1 := fun e => by
      change ((actR x : Nat) : Int) = (k : Int) + 1 at e
      rcases act_cases x with ⟨ha, _⟩ | ⟨a, _, hwa, ha⟩
      · omega
      · obtain rfl : a = k := by omega
        exact hwk hwa
    rw [if_neg hact]
    have hap := act_put h.toInv0 hk hI (by omega) hwk
    have hsame : ssR (putR x k 0) = { ssR x with idle := (ssR x).idle.set k true, ready := upd (ssR x).ready (prN (ssR x) k) (dropL ((ssR x).ready (prN (ssR x) k)) ((k : Int) + 1)), sq := dropTo (ssR x).sq ((k : Int) + 1) (ssR x).ns } := by
      refine SS.same (put_prior hk _) hidl ?_ rfl ?_ rfl ?_
      · rw [put_ready h.toInv0 hk]
        funext i
        dsimp only
        rw [if_neg (by omega), List.append_nil, priorN_get hk]
        by_cases hi : i = (gP x k).pr
        · subst hi
          rw [upd_same]
          refine (filt_erase ?_ _).symm
          show (if _ then atL x 2 (gP x k).pr else []).Nodup
          split
          · exact nodup_atL _ _ _
          · simp
        · rw [upd_ne _ _ hi]
          exact filt_none (not_ready (.inr (fun e => hi e.symm)))
      · rw [put_sq h.toInv0 hk]
        funext j
        dsimp only
        rw [if_neg (by omega), List.append_nil]
        unfold dropTo
        by_cases hj : j < (ssR x).ns
        · rw [if_pos hj]
          exact (filt_erase (nodup_atL x (3 + j) 0) _).symm
        · rw [if_neg hj]
          refine filt_none (not_sq ?_)
          have := h.wh k hk
          change ¬ j < x.sems.length at hj
          omega
      · show ((actR _ : Nat) : Int) = ((actR x : Nat) : Int)
        rw [hap]
    rcases act_cases x with ⟨ha, hno⟩ | ⟨a, haa, hwa, ha⟩
    · have hz : actR (putR x k 0) = 0 := by rw [hap, ha]
      have hnr : ∀ i, i < (putR x k 0).P.length → (gP (putR x k 0) i).wh ≠ 2 := fun i hi e => by
        rw [put_len] at hi
        by_cases hik : i = k
        · subst hik; rw [gP_put_same hi] at e; simp at e
        · rw [gP_put_ne hik] at e
          obtain ⟨a, ha1, ha2, _⟩ := h.top i hi e
          exact hno a ha1 ha2
      have hst : ∀ i, nextRF i (putR x k 0) = putR x k 0 := by
        intro i
        induction i with
        | zero => rfl
        | succ i ih =>
          unfold nextRF
          rw [if_pos hz]
          have : atL (putR x k 0) 2 (i + 1) = [] := by
            apply List.eq_nil_iff_forall_not_mem.2
            intro p hp
            obtain ⟨q, hq, _, hw, _⟩ := mem_atL.1 hp
            exact hnr q hq hw
          rw [this]
          exact ih
      have hst8 : nextR (putR x k 0) = putR x k 0 := hst 8
      rw [hst8]
      exact ⟨hsame, ⟨hI, fun i hi e => absurd e (hnr i hi)⟩, put_len _ _ _, rfl⟩
    · have hst8 : nextR (putR x k 0) = putR x k 0 := next_stay (by rw [hap, ha]; omega) 8
      rw [hst8]
      refine ⟨hsame, ⟨hI, fun i hi e => ?_⟩, put_len _ _ _, rfl⟩
      rw [put_len] at hi
      by_cases hik : i = k
      · subst hik; rw [gP_put_same hi] at e; simp at e
      · rw [gP_put_ne hik] at e ⊢
        obtain ⟨b, hb1, hb2, hb3⟩ := h.top i hi e
        have hbk : b ≠ k := fun e => hwk (e ▸ hb2)
        exact ⟨b, by rw [put_len]; exact hb1, by rw [gP_put_ne hbk]; exact hb2, by rw [gP_put_ne hbk]; exact hb3⟩

def yieldR (x : RS) : RS := if actR x = 0 then x else if atL x 2 (gP x (actR x - 1)).pr = [] then x else nextR (putR x (actR x - 1) 2)
theorem yield_ss {B : Nat} {x : RS} (h : Inv B x) : ssR (yieldR x) = yieldS (ssR x) ∧ Inv B (yieldR x) ∧ (yieldR x).P.length = x.P.length ∧ (yieldR x).sems = x.sems := by
  unfold yieldR yieldS
  rcases act_cases x with ⟨ha, hno⟩ | ⟨a, haa, hwa, ha⟩
  · rw [if_pos ha, if_pos (show (ssR x).act = 0 from (by show ((actR x : Nat) : Int) = 0; omega))]
    exact ⟨rfl, h, rfl, rfl⟩
  · have hA : (ssR x).act = (a : Int) + 1 := by show ((actR x : Nat) : Int) = _; omega
    rw [if_neg (by omega), if_neg (show ¬ (ssR x).act = 0 from (by show ¬ ((actR x : Nat) : Int) = 0; omega)), ha, Nat.add_sub_cancel, hA, show ((a : Int) + 1 - 1).toNat = a from by omega, priorN_get haa]
    have hpr := h.pr a haa
    have hrd : (ssR x).ready (gP x a).pr = atL x 2 (gP x a).pr := if_pos hpr
    simp only [hrd]
    by_cases he : atL x 2 (gP x a).pr = []
    · simp only [if_pos he]
      exact ⟨trivial, h, trivial, trivial⟩
    · simp only [if_neg he]
      have hI := h.toInv0.put haa 2 (by omega) (fun e => by omega) (fun q e => by omega)
      have hz := act_put_off h.toInv0 haa (w := 2) (by omega) hwa
      obtain ⟨h1, h2, h3, h4⟩ := nextR_ss hI hz
      refine ⟨?_, h2, by rw [h3, put_len], by rw [h4]; rfl⟩
      rw [h1]
      show _ = nextF 8 { addS (ssR x) (gP x a).pr ((a : Int) + 1) with act := 0 }
      congr 1
      refine SS.same (put_prior haa _) ?_ ?_ rfl ?_ rfl ?_
      · rw [put_idle]
        exact set_self (fun _ => by rw [idle_get haa]; simp [hwa])
      · rw [put_ready h.toInv0 haa]
        funext i
        show _ = upd (ssR x).ready (gP x a).pr ((ssR x).ready (gP x a).pr ++ [(a : Int) + 1]) i
        rw [filt_none (not_ready (.inl (by omega)))]
        by_cases hi : i = (gP x a).pr
        · subst hi; rw [upd_same, if_pos ⟨rfl, rfl⟩]
        · rw [upd_ne _ _ hi, if_neg (fun e => hi e.2.symm), List.append_nil]
      · rw [put_sq h.toInv0 haa]
        funext i
        dsimp only
        rw [if_neg (by omega), List.append_nil]
        exact filt_none (not_sq (by omega))
      · show ((actR _ : Nat) : Int) = 0
        rw [hz]; rfl

/-! ### Resumed ones -/

theorem made_idle {x : RS} {k i : Nat} (hik : i ≠ k) (hi : i < x.P.length) (hw : (gP x i).wh = 0) : (gP (madeR x k) i).wh = 0 := by
  unfold madeR
  split
  · rw [gP_put_ne hik, gP_put_ne hik]; exact hw
  · rename_i hn
    split
    · rw [gP_put_ne hik]
      rcases act_cases (putR x k 2) with ⟨ha, _⟩ | ⟨a, haa, hwa, ha⟩
      · exact absurd ha hn
      · rw [ha, Nat.add_sub_cancel]
        have hia : i ≠ a := fun e => by
          subst e
          rw [gP_put_ne hik] at hwa
          omega
        rw [gP_put_ne hia, gP_put_ne hik]; exact hw
    · rw [gP_put_ne hik]; exact hw

def madeL (x : RS) (ls : List Int) : RS := ls.foldl (fun x p => madeR x (p - 1).toNat) x
theorem madeL_snoc (x : RS) {ls : List Int} {j : Nat} (hj : j < ls.length) : madeL x (ls.take (j + 1)) = madeR (madeL x (ls.take j)) (ls.getD j 0 - 1).toNat := by
  unfold madeL
  rw [List.take_add_one, List.foldl_append, List.getD_eq_getElem?_getD, List.getElem?_eq_getElem hj]
  rfl
theorem made_one {B : Nat} {x : RS} (h : Inv B x) {k : Nat} (hk : k < x.P.length) (hw : (gP x k).wh = 0) : ssR (madeR x k) = makeS (ssR x) k ∧ Inv B (madeR x k) ∧ (madeR x k).P.length = x.P.length ∧ (madeR x k).sems = x.sems := by
  obtain ⟨h1, h2⟩ := made_ss h hk (by omega) (by omega)
  refine ⟨?_, h2⟩
  rw [h1]
  congr 1
  exact SS.same rfl rfl rfl rfl (sq_filt (by omega)) rfl rfl
theorem allIn_get {s : SS} {ls : List Int} (h : allIn s ls = true) {j : Nat} (hj : j < ls.length) : 1 ≤ ls.getD j 0 ∧ ls.getD j 0 ≤ s.prior.length := by
  unfold allIn at h
  rw [List.all_eq_true] at h
  exact of_decide_eq_true (h _ (getD_mem hj))
theorem okAll_get {s : SS} {ls : List Int} (h : okAll s ls = true) {j : Nat} (hj : j < ls.length) : s.idle.getD (ls.getD j 0 - 1).toNat false = true ∧ ls.getD j 0 ∉ ls.take j := by
  unfold okAll at h
  rw [List.all_eq_true] at h
  have := h j (List.mem_range.2 hj)
  unfold okAt at this
  simp only [Bool.and_eq_true, Bool.not_eq_true', decide_eq_false_iff_not] at this
  exact this

theorem resume_ss {B : Nat} {x : RS} (h : Inv B x) {ls : List Int} (hE : resE (ssR x) ls = 0) : ∀ j, j ≤ ls.length → ssR (madeL x (ls.take j)) = resF (ssR x) (ls.take j) ∧ Inv B (madeL x (ls.take j)) ∧ (madeL x (ls.take j)).P.length = x.P.length ∧ (madeL x (ls.take j)).sems = x.sems ∧
    ∀ i, i < x.P.length → (i : Int) + 1 ∉ ls.take j → (gP x i).wh = 0 → (gP (madeL x (ls.take j)) i).wh = 0 := by
  have hA : allIn (ssR x) ls = true := by
    unfold resE at hE
    split at hE
    · assumption
    · simp at hE
  have hO : okAll (ssR x) ls = true := by
    unfold resE at hE
    rw [if_pos hA] at hE
    split at hE
    · assumption
    · simp at hE
  intro j
  induction j with
  | zero => intro _; exact ⟨rfl, h, rfl, rfl, fun i hi _ hw => hw⟩
  | succ j ih =>
    intro hj
    obtain ⟨i1, i2, i3, i4, i5⟩ := ih (by omega)
    have hjl : j < ls.length := by omega
    obtain ⟨a1, a2⟩ := allIn_get hA hjl
    obtain ⟨o1, o2⟩ := okAll_get hO hjl
    obtain ⟨k, hk⟩ : ∃ k : Nat, ls.getD j 0 = (k : Int) + 1 := ⟨(ls.getD j 0 - 1).toNat, by omega⟩
    rw [hk] at a1 a2 o1 o2
    rw [show ((k : Int) + 1 - 1).toNat = k from by omega] at o1
    have hkn : k < x.P.length := by
      have : (ssR x).prior.length = x.P.length := by simp [ssR]
      omega
    rw [idle_get hkn] at o1
    have hw := i5 k hkn o2 (of_decide_eq_true o1)
    obtain ⟨m1, m2, m3, m4⟩ := made_one i2 (by rw [i3]; exact hkn) hw
    rw [madeL_snoc x hjl, resF_snoc _ hjl, hk, show ((k : Int) + 1 - 1).toNat = k from by omega]
    refine ⟨by rw [m1, i1], m2, by rw [m3, i3], by rw [m4, i4], fun i hi hni hwi => ?_⟩
    have hne : i ≠ k := fun e => hni (by
      subst e
      have h2 : ls.getD j 0 ∈ ls.take (j + 1) := by
        rw [List.take_add_one, List.getD_eq_getElem?_getD, List.getElem?_eq_getElem hjl]
        exact List.mem_append_right _ (by simp)
      rwa [hk] at h2)
    refine made_idle hne (by rw [i3]; exact hi) (i5 i hi (fun hm => hni ?_) hwi)
    rw [List.take_add_one]
    exact List.mem_append_left _ hm

end Go.Proofs.Ytbkaafbkmcgfjaa
