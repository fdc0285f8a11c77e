/-
  Processes of one priority: who is active, who is ready, in order.
-/
import Derived.Test.YtbkaafbkmcgfjaaSchedQ
namespace Go.Proofs.Ytbkaafbkmcgfjaa
set_option linter.unusedVariables false

structure TS (s : SS) (k p : Nat) (act : Int) (l : List Int) : Prop where
  pr : s.prior = List.replicate k (p : Int)
  ac : s.act = act
  rd : s.ready p = l
  no : ∀ j, j ≠ p → s.ready j = []

theorem nextF_at {s : SS} {p : Nat} {b : Int} {t : List Int} (hr : s.ready p = b :: t) (hn : ∀ j, j ≠ p → s.ready j = []) (h1 : 1 ≤ p) : ∀ i, p ≤ i → nextF i s = { s with ready := upd s.ready p t, act := b }
  | 0, h => by omega
  | i + 1, h => by
    unfold nextF
    by_cases hi : i + 1 = p
    · rw [hi, hr]
    · rw [hn _ hi]
      exact nextF_at hr hn h1 i (by omega)
theorem nextF_no {s : SS} (hn : ∀ j, s.ready j = []) : ∀ i, nextF i s = s
  | 0 => rfl
  | i + 1 => by
    unfold nextF
    rw [hn]
    exact nextF_no hn i

theorem prI_rep {s : SS} {k p j : Nat} (h : s.prior = List.replicate k (p : Int)) (hj : j < k) : prI s j = (p : Int) ∧ prN s j = p := by
  have : prI s j = (p : Int) := by
    unfold prI
    rw [h, List.getD_eq_getElem?_getD, List.getElem?_replicate, if_pos hj]; rfl
  exact ⟨this, by unfold prN; rw [this]; omega⟩

theorem TS.make0 {s : SS} {k p j : Nat} (h : TS s k p 0 []) (hj : j < k) : TS (makeS s j) k p ((j : Int) + 1) [] := by
  obtain ⟨_, hN⟩ := prI_rep h.pr hj
  unfold makeS
  rw [if_pos h.ac, hN]
  refine ⟨h.pr, rfl, ?_, fun q hq => ?_⟩
  · show upd (make1 s j).ready p (dropL ((make1 s j).ready p) ((j : Int) + 1)) p = []
    rw [upd_same]
    show dropL (upd s.ready (prN s j) (s.ready (prN s j) ++ [(j : Int) + 1]) p) _ = []
    rw [hN, upd_same, h.rd]
    simp [dropL]
  · show upd (make1 s j).ready p _ q = []
    rw [upd_ne _ _ hq]
    show upd s.ready (prN s j) _ q = []
    rw [hN, upd_ne _ _ hq]
    exact h.no q hq
theorem TS.make {s : SS} {k p j a : Nat} {l : List Int} (h : TS s k p ((a : Int) + 1) l) (hj : j < k) (ha : a < k) : TS (makeS s j) k p ((a : Int) + 1) (l ++ [(j : Int) + 1]) := by
  obtain ⟨hI, hN⟩ := prI_rep h.pr hj
  obtain ⟨hIa, _⟩ := prI_rep h.pr ha
  unfold makeS
  rw [if_neg (by rw [h.ac]; omega), h.ac, show ((a : Int) + 1 - 1).toNat = a from by omega, hI, hIa, if_neg (by omega)]
  refine ⟨h.pr, h.ac, ?_, fun q hq => ?_⟩
  · show upd s.ready (prN s j) (s.ready (prN s j) ++ [(j : Int) + 1]) p = _
    rw [hN, upd_same, h.rd]
  · show upd s.ready (prN s j) _ q = []
    rw [hN, upd_ne _ _ hq]
    exact h.no q hq
theorem TS.yield {s : SS} {k p a : Nat} {b : Int} {t : List Int} (h : TS s k p ((a : Int) + 1) (b :: t)) (ha : a < k) (h1 : 1 ≤ p) (h8 : p ≤ 8) : TS (yieldS s) k p b (t ++ [(a : Int) + 1]) := by
  obtain ⟨_, hN⟩ := prI_rep h.pr ha
  unfold yieldS
  rw [if_neg (by rw [h.ac]; omega), h.ac, show ((a : Int) + 1 - 1).toNat = a from by omega, hN]
  dsimp only
  rw [h.rd, if_neg (by simp)]
  have hr : ({ addS s p ((a : Int) + 1) with act := 0 } : SS).ready p = b :: (t ++ [(a : Int) + 1]) := by
    show upd s.ready p (s.ready p ++ [(a : Int) + 1]) p = _
    rw [upd_same, h.rd]; rfl
  have hn : ∀ j, j ≠ p → ({ addS s p ((a : Int) + 1) with act := 0 } : SS).ready j = [] := fun j hj => by
    show upd s.ready p _ j = []
    rw [upd_ne _ _ hj]; exact h.no j hj
  unfold nextS
  rw [nextF_at hr hn h1 8 h8]
  refine ⟨h.pr, rfl, upd_same _ _ _, fun j hj => ?_⟩
  show upd _ p _ j = []
  rw [upd_ne _ _ hj]
  exact hn j hj
theorem TS.yield0 {s : SS} {k p a : Nat} (h : TS s k p ((a : Int) + 1) []) (ha : a < k) : yieldS s = s := by
  obtain ⟨_, hN⟩ := prI_rep h.pr ha
  unfold yieldS
  rw [if_neg (by rw [h.ac]; omega), h.ac, show ((a : Int) + 1 - 1).toNat = a from by omega, hN]
  dsimp only
  rw [h.rd, if_pos rfl]

def rot (k a : Nat) : List Int := (List.range (k - 1)).map (fun j => (((a + 1 + j) % k : Nat) : Int) + 1)
theorem rot_len (k a : Nat) : (rot k a).length = k - 1 := by simp [rot]
theorem rot_step {k a : Nat} (hk : 2 ≤ k) (ha : a < k) : ∃ t, rot k a = ((((a + 1) % k : Nat) : Int) + 1) :: t ∧ t ++ [(a : Int) + 1] = rot k ((a + 1) % k) := by
  obtain ⟨m, rfl⟩ : ∃ m, k = m + 2 := ⟨k - 2, by omega⟩
  refine ⟨(List.range m).map (fun j => (((a + 1 + (j + 1)) % (m + 2) : Nat) : Int) + 1), ?_, ?_⟩
  · unfold rot
    rw [show m + 2 - 1 = m + 1 from rfl, List.range_succ_eq_map, List.map_cons, List.map_map]
    rfl
  · unfold rot
    rw [show m + 2 - 1 = m + 1 from rfl, List.range_succ, List.map_append]
    congr 1
    · apply List.map_congr_left
      intro j hj
      have : ((a + 1) % (m + 2) + 1 + j) % (m + 2) = (a + 1 + (j + 1)) % (m + 2) := by
        rw [Nat.add_assoc, Nat.mod_add_mod]
        congr 1
        omega
      rw [this]
    · simp only [List.map_cons, List.map_nil]
      have : ((a + 1) % (m + 2) + 1 + m) % (m + 2) = a := by
        rw [Nat.add_assoc, Nat.mod_add_mod, show a + 1 + (1 + m) = a + (m + 2) from by omega, Nat.add_mod_right, Nat.mod_eq_of_lt ha]
      rw [this]

/-- While they are spawned and resumed. -/
def LL (c : Nat) : List Int := (List.range (c - 1)).map (fun (j : Nat) => (j : Int) + 2)
theorem LL_succ {c : Nat} (h : 1 ≤ c) : LL c ++ [(c : Int) + 1] = LL (c + 1) := by
  obtain ⟨m, rfl⟩ : ∃ m, c = m + 1 := ⟨c - 1, by omega⟩
  unfold LL
  rw [show m + 1 + 1 - 1 = m + 1 from rfl, show m + 1 - 1 = m from rfl, List.range_succ, List.map_append]
  simp
  omega
theorem LL_rot {k : Nat} (h : 1 ≤ k) : LL k = rot k 0 := by
  unfold LL rot
  apply List.map_congr_left
  intro j hj
  have := List.mem_range.1 hj
  rw [Nat.mod_eq_of_lt (by omega)]
  omega

def T1 (p c : Nat) (x : RS) : Prop := TS (ssR x) c p (if c = 0 then 0 else 1) (LL c) ∧ x.P.length = c ∧ x.sems = []
theorem T1.zero (p : Nat) : T1 p 0 newR := ⟨⟨rfl, rfl, by rw [newR_ss]; rfl, fun j hj => by rw [newR_ss]; rfl⟩, rfl, rfl⟩
theorem T1.spawn {p c B : Nat} {x : RS} (h : T1 p c x) (hI : Inv B x) (h1 : 1 ≤ p) (h8 : p ≤ 8) (hc : c < 9) :
    spE x p = 0 ∧ spV x p = (c : Int) + 1 ∧ rsE (spR x p) [(c : Int) + 1] = 0 ∧ T1 p (c + 1) (rsR (spR x p) [(c : Int) + 1]) := by
  obtain ⟨hT, hl, hs⟩ := h
  obtain ⟨e1, e2, e3⟩ := sp_one h1 h8 (x := x) (by omega)
  obtain ⟨s1, s2⟩ := spawn_ss hI h1 h8 (by omega)
  have hcl : c < (spawnR x p).P.length := by rw [spawn_len]; omega
  have hw : (gP (spawnR x p) c).wh = 0 := by
    have e := gP_new x p
    rw [hl] at e
    rw [e]
  obtain ⟨r1, r2⟩ := rs_one hcl hw
  obtain ⟨m1, m2, m3, m4⟩ := made_one s2 hcl hw
  rw [e3]
  refine ⟨e1, by rw [e2, hl], r1, ?_⟩
  rw [r2]
  have hT2 : TS (ssR (spawnR x p)) (c + 1) p (if c = 0 then 0 else 1) (LL c) := by
    rw [s1]
    refine ⟨?_, hT.ac, hT.rd, hT.no⟩
    show (ssR x).prior ++ [(p : Int)] = _
    rw [hT.pr, List.replicate_succ']
  refine ⟨?_, by rw [m3, spawn_len, hl], by rw [m4]; exact hs⟩
  rw [m1]
  by_cases h0 : c = 0
  · subst h0
    rw [if_pos rfl] at hT2
    exact TS.make0 (j := 0) hT2 (by omega)
  · rw [if_neg h0] at hT2
    rw [if_neg (by omega), ← LL_succ (by omega)]
    exact TS.make (a := 0) hT2 (by omega) (by omega)

def T2 (p k i : Nat) (x : RS) : Prop := TS (ssR x) k p (((i % k : Nat) : Int) + 1) (rot k (i % k)) ∧ x.P.length = k ∧ x.sems = []
theorem T1.done {p k : Nat} {x : RS} (h : T1 p k x) (hk : 1 ≤ k) : T2 p k 0 x := by
  obtain ⟨hT, hl, hs⟩ := h
  rw [if_neg (by omega), LL_rot hk] at hT
  refine ⟨?_, hl, hs⟩
  rw [Nat.zero_mod]
  exact hT
theorem T2.act {p k i : Nat} {x : RS} (h : T2 p k i x) : actR x = i % k + 1 := by
  have := h.1.ac
  change ((actR x : Nat) : Int) = _ at this
  omega
theorem T2.yield {p k i B : Nat} {x : RS} (h : T2 p k i x) (hI : Inv B x) (hk : 1 ≤ k) (h1 : 1 ≤ p) (h8 : p ≤ 8) : yiE x = 0 ∧ T2 p k (i + 1) (yieldR x) := by
  obtain ⟨s1, s2, s3, s4⟩ := yield_ss hI
  have hlt : i % k < k := Nat.mod_lt _ (by omega)
  refine ⟨if_neg (by rw [h.act]; omega), ?_, by rw [s3]; exact h.2.1, by rw [s4]; exact h.2.2⟩
  rw [s1]
  have hT := h.1
  by_cases h2 : 2 ≤ k
  · obtain ⟨t, t1, t2⟩ := rot_step h2 hlt
    rw [t1] at hT
    have := hT.yield hlt h1 h8
    rw [t2, Nat.mod_add_mod] at this
    exact this
  · obtain rfl : k = 1 := by omega
    have e : ∀ q, q % 1 = 0 := fun q => Nat.mod_one q
    rw [e] at hT ⊢
    rw [TS.yield0 (a := 0) hT (by omega)]
    exact hT

/-! ### Behind the turns: a semaphore -/

theorem sm_one {x : RS} (h : x.sems = []) : smE x = 0 ∧ smV x = 1 ∧ smR x = semR x := by
  have hE : smE x = 0 := by unfold smE; rw [h]; rfl
  refine ⟨hE, ?_, ?_⟩
  · unfold smV; rw [if_pos hE, h]; rfl
  · unfold smR; rw [if_pos hE]

/-- One waits for the only semaphore. -/
structure T3 (p k a : Nat) (act : Int) (l : List Int) (x : RS) : Prop where
  ts : TS (ssR x) k p act l
  sq : atL x 3 0 = [(a : Int) + 1]
  ln : x.P.length = k
  sm : x.sems.length = 1

theorem T2.sem {p k i B : Nat} {x : RS} (h : T2 p k i x) (hI : Inv B x) : TS (ssR (semR x)) k p (((i % k : Nat) : Int) + 1) (rot k (i % k)) ∧ Inv B (semR x) ∧ (semR x).sems = [0] := by
  obtain ⟨s1, s2⟩ := sem_ss hI (by rw [h.2.2]; decide)
  refine ⟨?_, s2, by show x.sems ++ [0] = [0]; rw [h.2.2]; rfl⟩
  rw [s1]
  exact ⟨h.1.pr, h.1.ac, h.1.rd, h.1.no⟩

theorem wait_T3 {p k a B : Nat} {l : List Int} {x : RS} (hT : TS (ssR x) k p ((a : Int) + 1) l) (hI : Inv B x) (hs : x.sems = [0]) (ha : a < k) (h1 : 1 ≤ p) (h8 : p ≤ 8) (hl : x.P.length = k) (hq : atL x 3 0 = []) :
    waE x 1 = 0 ∧ (l = [] → T3 p k a 0 [] (waR x 1)) ∧ ∀ b t, l = b :: t → T3 p k a b t (waR x 1) := by
  have hact : actR x = a + 1 := by have := hT.ac; change ((actR x : Nat) : Int) = _ at this; omega
  have hcond : (1 : Int) ≤ 1 ∧ (1 : Int) ≤ (x.sems.length : Nat) := by rw [hs]; decide
  have hwE : waE x 1 = 0 := by unfold waE; rw [if_pos hcond, if_neg (by omega)]
  have hwR : waR x 1 = waitR x 0 := by unfold waR; rw [if_pos hcond]; rfl
  obtain ⟨s1, s2, s3, s4⟩ := wait_ss hI (j := 0) (by rw [hs]; decide)
  have hS : waitS (ssR x) 0 = nextF 8 { ssR x with sq := upd (ssR x).sq 0 ((ssR x).sq 0 ++ [(a : Int) + 1]), act := 0 } := by
    unfold waitS
    rw [if_neg (by rw [hT.ac]; omega), if_neg (by show ¬ (0 : Int) < ((x.sems.getD 0 0 : Nat) : Int); rw [hs]; decide), hT.ac]
    rfl
  have hsq0 : ∀ s' : SS, s'.sq = upd (ssR x).sq 0 ((ssR x).sq 0 ++ [(a : Int) + 1]) → s'.sq 0 = [(a : Int) + 1] := fun s' e => by
    rw [e, upd_same]
    show atL x (3 + 0) 0 ++ _ = _
    rw [show atL x (3 + 0) 0 = [] from hq]; rfl
  rw [hwR]
  refine ⟨hwE, fun hl0 => ?_, fun b t hbt => ?_⟩
  · subst hl0
    have hno : ∀ j, ({ ssR x with sq := upd (ssR x).sq 0 ((ssR x).sq 0 ++ [(a : Int) + 1]), act := 0 } : SS).ready j = [] := fun j => by
      show (ssR x).ready j = []
      by_cases hj : j = p
      · rw [hj]; exact hT.rd
      · exact hT.no j hj
    rw [nextF_no hno] at hS
    refine ⟨?_, ?_, by rw [s3]; exact hl, by rw [s4, hs]; rfl⟩
    · rw [s1, hS]; exact ⟨hT.pr, rfl, hT.rd, hT.no⟩
    · show (ssR (waitR x 0)).sq 0 = _
      rw [s1, hS]; exact hsq0 _ rfl
  · subst hbt
    have hN := nextF_at (s := { ssR x with sq := upd (ssR x).sq 0 ((ssR x).sq 0 ++ [(a : Int) + 1]), act := 0 }) (p := p) (b := b) (t := t) hT.rd (fun j hj => hT.no j hj) h1 8 h8
    have hS := hS.trans hN
    refine ⟨?_, ?_, by rw [s3]; exact hl, by rw [s4, hs]; rfl⟩
    · rw [s1, hS]
      refine ⟨hT.pr, rfl, upd_same _ _ _, fun j hj => ?_⟩
      show upd (ssR x).ready p t j = []
      rw [upd_ne _ _ hj]
      exact hT.no j hj
    · show (ssR (waitR x 0)).sq 0 = _
      rw [s1, hS]; exact hsq0 _ rfl

/-- The waiting one goes on. -/
theorem T3.signal {p k a B : Nat} {act : Int} {l : List Int} {x : RS} (h : T3 p k a act l x) (hI : Inv B x) (ha : a < k) :
    siE x 1 = 0 ∧ (act = 0 → l = [] → actR (siR x 1) = a + 1) ∧ ∀ b, act = (b : Nat) + 1 → b < k → 1 ≤ p → p ≤ 8 → atL (siR x 1) 2 p = l ++ [(a : Int) + 1] := by
  have hcond : (1 : Int) ≤ 1 ∧ (1 : Int) ≤ (x.sems.length : Nat) := by rw [h.sm]; decide
  have hE : siE x 1 = 0 := if_pos hcond
  have hR : siR x 1 = sigR x 0 := by unfold siR; rw [if_pos hE]; rfl
  obtain ⟨s1, s2, s3, s4⟩ := sig_ss hI (j := 0) (by rw [h.sm]; decide)
  have hS : sigS (ssR x) 0 = makeS { ssR x with sq := upd (ssR x).sq 0 [] } a := by
    unfold sigS
    show (match atL x (3 + 0) 0 with | [] => _ | p :: l => _) = _
    rw [show atL x (3 + 0) 0 = [(a : Int) + 1] from h.sq]
    simp only
    rw [show ((a : Int) + 1 - 1).toNat = a from by omega]
  have hT : TS { ssR x with sq := upd (ssR x).sq 0 [] } k p act l := ⟨h.ts.pr, h.ts.ac, h.ts.rd, h.ts.no⟩
  rw [hR]
  refine ⟨hE, fun h0 hl => ?_, fun b hb hbk h1 h8 => ?_⟩
  · subst h0; subst hl
    have := (hT.make0 ha).ac
    rw [← hS, ← s1] at this
    change ((actR (sigR x 0) : Nat) : Int) = _ at this
    omega
  · subst hb
    have := (hT.make ha hbk).rd
    rw [← hS, ← s1] at this
    rw [← this]
    exact (if_pos ⟨h1, h8⟩).symm

end Go.Proofs.Ytbkaafbkmcgfjaa
