/-
  Package sched's functions, told by processes that are somewhere since when.
-/
import Derived.Test.YtbkaafbkmcgfjaaSchedM
namespace Go.Proofs.Ytbkaafbkmcgfjaa
open Go.RowKit
set_option linter.unusedVariables false
set_option maxHeartbeats 2000000

structure SX (w : World) (m base B : Nat) (L : Lay) (x : RS) : Prop where
  st : SAt w m L (ssR x)
  inv : Inv B x
  lt : ∀ k ∈ L.B, k < w.heap.size
  ge : ∀ k ∈ L.B, base ≤ k

def XPost (m base B : Nat) (L : Lay) (res : Value) (x' : RS) (w : World) (e : Ending) (w' : World) : Prop :=
  ∃ L', e = .returned res ∧ SX w' m base B L' x' ∧ Mov L.B w L'.B w'

theorem SAt.trim {w : World} {m : Nat} {L : Lay} {s : SS} (h : SAt w m L s) : SAt w m { L with B := L.B.filter (fun k => decide (k < w.heap.size)) } s := by
  have hT : ∀ {e : TypeId} {v : Value} {n τ : Nat} {xs : List Value}, w.ownsRow 0 e 1 v n xs → Tg L v τ → Tg { L with B := L.B.filter (fun k => decide (k < w.heap.size)) } v τ := fun ho ht k hk =>
    ⟨List.mem_filter.2 ⟨(ht k hk).1, decide_eq_true (ho.lt k hk).2⟩, (ht k hk).2⟩
  exact ⟨h.row, ⟨List.mem_filter.2 ⟨h.tm.1, decide_eq_true h.row.lt⟩, h.tm.2⟩, h.op, hT h.op h.tp, h.oi, hT h.oi h.ti, h.os, hT h.os h.ts, h.rd, fun i hi => hT (h.rd i hi) (h.tr i hi),
    h.sm, fun j hj => ⟨List.mem_filter.2 ⟨(h.tk j hj).1, decide_eq_true (h.sm j hj).lt⟩, (h.tk j hj).2⟩, h.wt, fun j hj => hT (h.wt j hj) (h.tw j hj)⟩

theorem SX.post {w w' : World} {m base B C : Nat} {L : Lay} {x x' : RS} {s' : SS} {res : Value} {e : Ending} (h : SX w m base B L x) (hp : SPost m L res s' w e w') (hs : ssR x' = s') (hI : Inv C x') : XPost m base C L res x' w e w' := by
  obtain ⟨L', rfl, h1, h2⟩ := hp
  subst hs
  refine ⟨{ L' with B := L'.B.filter (fun k => decide (k < w'.heap.size)) }, rfl, ⟨h1.trim, hI, fun k hk => of_decide_eq_true (List.mem_filter.1 hk).2, fun k hk => ?_⟩, ⟨h2.up, fun k hk => h2.own k (List.mem_filter.1 hk).1⟩⟩
  rcases h2.own k (List.mem_filter.1 hk).1 with h3 | h3
  · exact h.ge k h3
  · have h4 := h.ge m h.st.tm.1
    have h5 := h.lt m h.st.tm.1
    omega

theorem SX.same {w : World} {m base B : Nat} {L : Lay} {x : RS} (h : SX w m base B L x) (res : Value) : XPost m base B L res x w (.returned res) w := ⟨L, rfl, h, Mov.refl _ _⟩
theorem SX.mono {w : World} {m base B C : Nat} {L : Lay} {x : RS} (h : SX w m base B L x) (hBC : B ≤ C) : SX w m base C L x := ⟨h.st, h.inv.mono hBC, h.lt, h.ge⟩
theorem XPost.mono {w w' : World} {m base B C : Nat} {L : Lay} {x : RS} {res : Value} {e : Ending} (h : XPost m base B L res x w e w') (hBC : B ≤ C) : XPost m base C L res x w e w' := by
  obtain ⟨L', h1, h2, h3⟩ := h
  exact ⟨L', h1, h2.mono hBC, h3⟩
theorem SX.below {w w' : World} {m base B : Nat} {L : Lay} {x : RS} (h : SX w m base B L x) (hb : Below w.heap.size w w') : SX w' m base B L x :=
  ⟨h.st.below hb, h.inv, fun k hk => Nat.lt_of_lt_of_le (h.lt k hk) hb.size, h.ge⟩
theorem SX.bs {w : World} {m base B : Nat} {L : Lay} {x : RS} (h : SX w m base B L x) : base ≤ w.heap.size := by
  have h4 := h.ge m h.st.tm.1
  have h5 := h.lt m h.st.tm.1
  omega
theorem SX.mov {w w' : World} {m base B : Nat} {L : Lay} {A : List Nat} {x : RS} (h : SX w m base B L x) (hm : Mov L.B w A w') : Below base w w' := hm.below h.bs h.ge
theorem SX.wf {w : World} {m base B : Nat} {L : Lay} {x : RS} (h : SX w m base B L x) (hB : B ≤ 1000000) : WF (ssR x) := WF.of h.inv.toInv0 hB
theorem SX.len {w : World} {m base B : Nat} {L : Lay} {x : RS} (h : SX w m base B L x) : (ssR x).prior.length = x.P.length := by simp [ssR]

def newR : RS := ⟨[], [], 0⟩
theorem newR_ss : ssR newR = newS := by
  refine SS.same rfl rfl ?_ rfl ?_ ?_ rfl
  · funext i
    show (if 1 ≤ i ∧ i ≤ 8 then atL newR 2 i else []) = []
    split
    · rfl
    · rfl
  · funext j; rfl
  · funext j; rfl
theorem newR_inv : Inv 0 newR := ⟨⟨by decide, by decide, fun i hi => absurd hi (Nat.not_lt_zero _), fun i hi => absurd hi (Nat.not_lt_zero _), fun i hi => absurd hi (Nat.not_lt_zero _), fun i j hi => absurd hi (Nat.not_lt_zero _), fun i j hi => absurd hi (Nat.not_lt_zero _), fun j => by simp [newR]⟩, fun i hi => absurd hi (Nat.not_lt_zero _)⟩

theorem x_New (w : World) : Calls Try.prog 11 #[] w fun e w' => ∃ L, e = .returned (.pointer (some ⟨w.heap.size, 0, none⟩)) ∧ SX w' w.heap.size w.heap.size 0 L newR ∧ Below w.heap.size w w' := by
  refine (c_New w).mono ?_
  rintro e w' ⟨L, rfl, h1, h2, h3⟩
  exact ⟨L, rfl, ⟨by rw [newR_ss]; exact h1, newR_inv, fun k hk => by rw [h2, List.mem_singleton] at hk; subst hk; exact h1.row.lt, fun k hk => by rw [h2, List.mem_singleton] at hk; omega⟩, h3⟩

section
variable {w : World} {m base B : Nat} {L : Lay} {x : RS}

theorem c_SpawnArg {s : SS} (p : Int) (hp : p < 1 ∨ 8 < p) :
    Calls Try.prog 12 #[.pointer (some ⟨m, 0, none⟩), .int .i64 p] w fun e w' => e = .returned (.tuple #[.int .i64 0, .int .i64 2]) ∧ w = w' := by
  by_cases h1 : p < 1
  · clear hp
    go_enter Try.func12, Try.ntmps12
    go_wp2
    go_ret2
    exact ⟨rfl, rfl⟩
  · have h2 : 8 < p := by omega
    clear hp
    go_enter Try.func12, Try.ntmps12
    go_wp2
    go_ret2
    exact ⟨rfl, rfl⟩

theorem c_SpawnFull {s : SS} (h : SAt w m L s) (p : Int) (h1 : 1 ≤ p) (h8 : p ≤ 8) (hn : s.prior.length = 100) :
    Calls Try.prog 12 #[.pointer (some ⟨m, 0, none⟩), .int .i64 p] w fun e w' => e = .returned (.tuple #[.int .i64 0, .int .i64 3]) ∧ w = w' := by
  obtain ⟨a, c, k0, -⟩ := h.cp
  rw [hn] at k0
  clear h hn
  go_enter Try.func12, Try.ntmps12
  go_wp2
  go_ret2
  exact ⟨rfl, rfl⟩

def spE (x : RS) (p : Int) : Int := if p < 1 ∨ 8 < p then 2 else if 100 ≤ x.P.length then 3 else 0
def spV (x : RS) (p : Int) : Int := if spE x p = 0 then (x.P.length : Int) + 1 else 0
def spR (x : RS) (p : Int) : RS := if spE x p = 0 then spawnR x p.toNat else x

theorem x_Spawn (h : SX w m base B L x) (hB : B ≤ 1000000) (p : Int) :
    Calls Try.prog 12 #[.pointer (some ⟨m, 0, none⟩), .int .i64 p] w (XPost m base B L (.tuple #[.int .i64 (spV x p), .int .i64 (spE x p)]) (spR x p) w) := by
  unfold spV spR
  by_cases h1 : p < 1 ∨ 8 < p
  · have hE : spE x p = 2 := if_pos h1
    rw [hE, if_neg (by decide), if_neg (by decide)]
    refine (c_SpawnArg (s := ssR x) p h1).mono ?_
    rintro e w' ⟨rfl, rfl⟩
    exact h.same _
  · by_cases h2 : 100 ≤ x.P.length
    · have hE : spE x p = 3 := by unfold spE; rw [if_neg h1, if_pos h2]
      rw [hE, if_neg (by decide), if_neg (by decide)]
      refine (c_SpawnFull h.st p (by omega) (by omega) (by rw [h.len]; have := h.inv.n; omega)).mono ?_
      rintro e w' ⟨rfl, rfl⟩
      exact h.same _
    · have hE : spE x p = 0 := by unfold spE; rw [if_neg h1, if_neg h2]
      rw [hE, if_pos rfl, if_pos rfl]
      obtain ⟨s1, s2⟩ := spawn_ss h.inv (p := p.toNat) (by omega) (by omega) (by omega)
      rw [show ((p.toNat : Nat) : Int) = p from by omega] at s1
      have := c_Spawn h.st (h.wf hB) p (by omega) (by omega) (by rw [h.len]; omega)
      rw [h.len] at this
      exact this.mono (fun e w' hp => h.post hp s1 s2)

theorem c_SemFull {s : SS} (h : SAt w m L s) (hn : s.ns = 100) :
    Calls Try.prog 17 #[.pointer (some ⟨m, 0, none⟩)] w fun e w' => e = .returned (.tuple #[.int .i64 0, .int .i64 3]) ∧ w = w' := by
  obtain ⟨a, c, k0, -⟩ := h.cs
  rw [hn] at k0
  clear h hn
  go_enter Try.func17, Try.ntmps17
  go_wp2
  go_ret2
  exact ⟨rfl, rfl⟩

def smE (x : RS) : Int := if 100 ≤ x.sems.length then 3 else 0
def smV (x : RS) : Int := if smE x = 0 then (x.sems.length : Int) + 1 else 0
def smR (x : RS) : RS := if smE x = 0 then semR x else x
theorem x_Sem (h : SX w m base B L x) : Calls Try.prog 17 #[.pointer (some ⟨m, 0, none⟩)] w (XPost m base B L (.tuple #[.int .i64 (smV x), .int .i64 (smE x)]) (smR x) w) := by
  unfold smV smR
  by_cases h2 : 100 ≤ x.sems.length
  · have hE : smE x = 3 := if_pos h2
    rw [hE, if_neg (by decide), if_neg (by decide)]
    refine (c_SemFull h.st (by show x.sems.length = 100; have := h.inv.m; omega)).mono ?_
    rintro e w' ⟨rfl, rfl⟩
    exact h.same _
  · have hE : smE x = 0 := if_neg h2
    rw [hE, if_pos rfl, if_pos rfl]
    obtain ⟨s1, s2⟩ := sem_ss h.inv (by omega)
    exact (c_Sem h.st (by show x.sems.length < 100; omega)).mono (fun e w' hp => h.post hp s1 s2)

def rsE (x : RS) (ls : List Int) : Int := resE (ssR x) ls
def rsR (x : RS) (ls : List Int) : RS := if rsE x ls = 0 then madeL x ls else x
theorem x_ResumeW (h : SX w m base B L x) (hB : B ≤ 1000000) (a : Option Addr) (n c : Nat) (ls : List Int) (e0 : n = ls.length) (hr : Reads w a c (ls.map (Value.int .i64))) (hc : n ≤ c) (hl : n ≤ 1000) (hd : 0 < n → ∀ y, a = some y → y.block ∉ L.B) :
    Calls Try.prog 13 #[.pointer (some ⟨m, 0, none⟩), .slice a n c] w (XPost m base B L (.int .i64 (rsE x ls)) (rsR x ls) w) := by
  have hall := fun hE => resume_ss h.inv (ls := ls) hE
  refine (c_Resume h.st (h.wf hB) a n c ls e0 hr hc hl hd (fun hE j hj => ?_)).mono (fun e w' hp => ?_)
  · obtain ⟨h1, h2, _⟩ := hall hE j hj
    rw [← h1]
    exact WF.of h2.toInv0 hB
  · unfold rsR
    by_cases hE : rsE x ls = 0
    · obtain ⟨h1, h2, _⟩ := hall hE ls.length (Nat.le_refl _)
      rw [List.take_length] at h1 h2
      rw [if_pos hE]
      refine h.post hp ?_ h2
      unfold resS
      rw [h1]
      exact (if_pos hE).symm
    · rw [if_neg hE]
      refine h.post hp ?_ h.inv
      exact (if_neg hE).symm
theorem x_Resume (h : SX w m base B L x) (hB : B ≤ 1000000) (a : Option Addr) (n c : Nat) (ls : List Int) (e0 : n = ls.length) (hr : Reads w a c (ls.map (Value.int .i64))) (hc : n ≤ c) (hl : n ≤ 1000) (hd : ∀ y, a = some y → y.block ∉ L.B) :
    Calls Try.prog 13 #[.pointer (some ⟨m, 0, none⟩), .slice a n c] w (XPost m base B L (.int .i64 (rsE x ls)) (rsR x ls) w) := x_ResumeW h hB a n c ls e0 hr hc hl (fun _ => hd)

def suE (x : RS) (p : Int) : Int := if 1 ≤ p ∧ p ≤ x.P.length then (if (gP x (p - 1).toNat).wh = 0 then 2 else 0) else 4
def suR (x : RS) (p : Int) : RS := if suE x p = 0 then suspR x (p - 1).toNat else x
theorem x_Suspend (h : SX w m base B L x) (hB : B ≤ 1000000) (p : Int) :
    Calls Try.prog 15 #[.pointer (some ⟨m, 0, none⟩), .int .i64 p] w (XPost m base B L (.int .i64 (suE x p)) (suR x p) w) := by
  unfold suR
  by_cases h1 : 1 ≤ p ∧ p ≤ x.P.length
  · obtain ⟨k, rfl⟩ : ∃ k : Nat, p = (k : Int) + 1 := ⟨(p - 1).toNat, by omega⟩
    have hk : k < x.P.length := by omega
    have e1 : ((k : Int) + 1 - 1).toNat = k := by omega
    by_cases h2 : (gP x k).wh = 0
    · have hE : suE x ((k : Int) + 1) = 2 := by unfold suE; rw [if_pos h1, e1, if_pos h2]
      rw [hE, if_neg (by decide)]
      refine (c_Suspend2 h.st (h.wf hB) k (by rw [h.len]; exact hk) (by rw [idle_get hk]; exact decide_eq_true h2)).mono ?_
      rintro e w' ⟨rfl, rfl⟩
      exact h.same _
    · have hE : suE x ((k : Int) + 1) = 0 := by unfold suE; rw [if_pos h1, e1, if_neg h2]
      rw [hE, if_pos rfl, e1]
      obtain ⟨s1, s2, _⟩ := susp_ss h.inv hk
      exact (c_Suspend h.st (h.wf hB) k (by rw [h.len]; exact hk) (by rw [idle_get hk]; exact decide_eq_false h2)).mono (fun e w' hp => h.post hp s1 s2)
  · have hE : suE x p = 4 := if_neg h1
    rw [hE, if_neg (by decide)]
    refine (c_Suspend4 h.st (h.wf hB) p (by rw [h.len]; exact h1)).mono ?_
    rintro e w' ⟨rfl, rfl⟩
    exact h.same _

def yiE (x : RS) : Int := if actR x = 0 then 4 else 0
theorem x_Yield (h : SX w m base B L x) (hB : B ≤ 1000000) : Calls Try.prog 16 #[.pointer (some ⟨m, 0, none⟩)] w (XPost m base B L (.int .i64 (yiE x)) (yieldR x) w) := by
  obtain ⟨s1, s2, _⟩ := yield_ss h.inv
  have hE : yieldE (ssR x) = yiE x := by
    unfold yieldE yiE
    show (if ((actR x : Nat) : Int) = 0 then (4 : Int) else 0) = _
    by_cases h0 : actR x = 0
    · rw [if_pos h0, if_pos (by omega)]
    · rw [if_neg h0, if_neg (by omega)]
  rw [← hE]
  exact (c_Yield h.st (h.wf hB)).mono (fun e w' hp => h.post hp s1 s2)

def siE (x : RS) (p : Int) : Int := if 1 ≤ p ∧ p ≤ x.sems.length then 0 else 4
def siR (x : RS) (p : Int) : RS := if siE x p = 0 then sigR x (p - 1).toNat else x
theorem x_Signal (h : SX w m base B L x) (hB : B ≤ 1000000) (p : Int) :
    Calls Try.prog 19 #[.pointer (some ⟨m, 0, none⟩), .int .i64 p] w (XPost m base (B + 1) L (.int .i64 (siE x p)) (siR x p) w) := by
  unfold siR
  by_cases h1 : 1 ≤ p ∧ p ≤ x.sems.length
  · obtain ⟨k, rfl⟩ : ∃ k : Nat, p = (k : Int) + 1 := ⟨(p - 1).toNat, by omega⟩
    have hk : k < x.sems.length := by omega
    have hE : siE x ((k : Int) + 1) = 0 := if_pos h1
    rw [hE, if_pos rfl, show ((k : Int) + 1 - 1).toNat = k from by omega]
    obtain ⟨s1, s2, _⟩ := sig_ss h.inv hk
    exact (c_Signal h.st (h.wf hB) k hk).mono (fun e w' hp => h.post hp s1 s2)
  · have hE : siE x p = 4 := if_neg h1
    rw [hE, if_neg (by decide)]
    refine (c_Signal4 h.st h.inv.m p (by show p < 1 ∨ ((x.sems.length : Nat) : Int) < p; omega)).mono ?_
    rintro e w' ⟨rfl, rfl⟩
    exact (h.same _).mono (Nat.le_succ B)

def waE (x : RS) (p : Int) : Int := if 1 ≤ p ∧ p ≤ x.sems.length then (if actR x = 0 then 2 else 0) else 4
def waR (x : RS) (p : Int) : RS := if 1 ≤ p ∧ p ≤ x.sems.length then waitR x (p - 1).toNat else x
theorem x_Wait (h : SX w m base B L x) (hB : B ≤ 1000000) (p : Int) :
    Calls Try.prog 18 #[.pointer (some ⟨m, 0, none⟩), .int .i64 p] w (XPost m base B L (.int .i64 (waE x p)) (waR x p) w) := by
  unfold waR
  by_cases h1 : 1 ≤ p ∧ p ≤ x.sems.length
  · rw [if_pos h1]
    obtain ⟨k, rfl⟩ : ∃ k : Nat, p = (k : Int) + 1 := ⟨(p - 1).toNat, by omega⟩
    have hk : k < x.sems.length := by omega
    have hE : waitE (ssR x) = waE x ((k : Int) + 1) := by
      unfold waitE waE
      rw [if_pos h1]
      show (if ((actR x : Nat) : Int) = 0 then (2 : Int) else 0) = _
      by_cases h0 : actR x = 0
      · rw [if_pos h0, if_pos (by omega)]
      · rw [if_neg h0, if_neg (by omega)]
    rw [← hE, show ((k : Int) + 1 - 1).toNat = k from by omega]
    obtain ⟨s1, s2, _⟩ := wait_ss h.inv hk
    exact (c_Wait h.st (h.wf hB) k hk).mono (fun e w' hp => h.post hp s1 s2)
  · have hE : waE x p = 4 := if_neg h1
    rw [hE, if_neg h1]
    refine (c_Wait4 h.st h.inv.m p (by show p < 1 ∨ ((x.sems.length : Nat) : Int) < p; omega)).mono ?_
    rintro e w' ⟨rfl, rfl⟩
    exact h.same _

theorem x_Active (h : SX w m base B L x) : Calls Try.prog 14 #[.pointer (some ⟨m, 0, none⟩)] w fun e w' => e = .returned (.int .i64 (actR x)) ∧ w = w' := c_Active h.st
theorem x_Ready (h : SX w m base B L x) (hB : B ≤ 1000000) (p : Nat) (h1 : 1 ≤ p) (h8 : p ≤ 8) : Calls Try.prog 20 #[.pointer (some ⟨m, 0, none⟩), .int .i64 p] w (MadeInts w (atL x 2 p)) := by
  have := c_Ready h.st (fun i => Nat.le_trans ((h.wf hB).rl i) (by omega)) p h1 h8
  rwa [show (ssR x).ready p = atL x 2 p from if_pos ⟨h1, h8⟩] at this
theorem x_Waiting (h : SX w m base B L x) (hB : B ≤ 1000000) (j : Nat) (hj : j < x.sems.length) : Calls Try.prog 24 #[.pointer (some ⟨m, 0, none⟩), .int .i64 ((j : Int) + 1)] w (WaitsPost (atL x (3 + j) 0) (x.sems.getD j 0 : Nat) w) :=
  c_Waiting h.st h.inv.m (fun i => Nat.le_trans ((h.wf hB).wl i) (by omega)) j hj
end

/-- What is told of something that is done, and what there is then. -/
def stV (x : RS) (k n : Int) : Int := if k = 1 then spV x n else if k = 5 then smV x else 0
def stE (x : RS) (k n : Int) : Int := if k = 1 then spE x n else if k = 2 then rsE x [n] else if k = 3 then suE x n else if k = 4 then yiE x else if k = 5 then smE x else if k = 6 then siE x n else waE x n
def stR (x : RS) (k n : Int) : RS := if k = 1 then spR x n else if k = 2 then rsR x [n] else if k = 3 then suR x n else if k = 4 then yieldR x else if k = 5 then smR x else if k = 6 then siR x n else waR x n

theorem x_done {w : World} {m base B : Nat} {L : Lay} {x : RS} (h : SX w m base B L x) (hB : B ≤ 999999) (k n : Int) :
    Calls Try.prog 21 #[.pointer (some ⟨m, 0, none⟩), .agg #[.int .i64 k, .int .i64 n]] w (XPost m base (B + 1) L (.tuple #[.int .i64 (stV x k n), .int .i64 (stE x k n)]) (stR x k n) w) := by
  have hlm := h.lt m h.st.tm.1
  have HA : ∀ (o : Obj), SX (w.alloc o) m base B L x := fun o => h.below ((Below.refl _ w).alloc (Nat.le_refl _) o)
  have MA : ∀ o, Mov L.B w L.B (w.alloc o) := fun o => (Mov.refl L.B w).below2 ((Below.refl _ w).alloc (Nat.le_refl _) o)
  have HA2 : ∀ (o o' : Obj), SX ((w.alloc o).alloc o') m base B L x := fun o o' => (HA o).below ((Below.refl _ _).alloc (Nat.le_refl _) o')
  have MA2 : ∀ o o', Mov L.B w L.B ((w.alloc o).alloc o') := fun o o' => (MA o).below2 ((Below.refl _ _).alloc (Nat.le_refl _) o')
  have fin : ∀ {o : Obj} {res : Value} {x' : RS} {C : Nat} {e : Ending} {w' : World}, C ≤ B + 1 → XPost m base C L res x' (w.alloc o) e w' → ∃ L', e = .returned res ∧ Hid (SX w' m base (B + 1) L' x') ∧ Hid (Mov L.B w L'.B w') := fun hC hp => by
    obtain ⟨L', h1, h2, h3⟩ := hp
    exact ⟨L', h1, h2.mono hC, (MA _).trans h3⟩
  have fin2 : ∀ {o o' : Obj} {res : Value} {x' : RS} {C : Nat} {e : Ending} {w' : World}, C ≤ B + 1 → XPost m base C L res x' ((w.alloc o).alloc o') e w' → ∃ L', e = .returned res ∧ Hid (SX w' m base (B + 1) L' x') ∧ Hid (Mov L.B w L'.B w') := fun hC hp => by
    obtain ⟨L', h1, h2, h3⟩ := hp
    exact ⟨L', h1, h2.mono hC, (MA2 _ _).trans h3⟩
  have hlt := h.lt
  have HLT := Lib.hid hlt
  have hB2 : B ≤ 1000000 := by omega
  clear hlt
  by_cases k1 : k = 1
  · subst k1
    have hV : stV x 1 n = spV x n := rfl
    have hE : stE x 1 n = spE x n := rfl
    have hR : stR x 1 n = spR x n := rfl
    rw [hV, hE, hR]
    have HH := Lib.hid h
    clear h hV hE hR
    go_enter Try.func21, Try.ntmps21
    go_wp2_with fail
    refine (x_Spawn (HA _) hB2 n).mono ?_
    rintro e w' hp
    obtain ⟨L', rfl, hs, hm⟩ := fin (by omega) hp
    clear hp
    go_wp2
    go_ret2
    exact ⟨L', rfl, hs.out, hm.out⟩
  by_cases k2 : k = 2
  · subst k2
    have hV : stV x 2 n = 0 := rfl
    have hE : stE x 2 n = rsE x [n] := rfl
    have hR : stR x 2 n = rsR x [n] := rfl
    rw [hV, hE, hR]
    have HH := Lib.hid h
    clear h hV hE hR
    go_enter Try.func21, Try.ntmps21
    go_wp2_with fail
    refine (x_Resume (HA2 _ _) hB2 (some ⟨w.heap.size + 1, 0, none⟩) 1 1 [n] rfl (Reads.madeAt (by simp)) (Nat.le_refl _) (by omega) (fun y hy hm => by cases hy; have := HLT.out _ hm; simp at this; omega)).mono ?_
    rintro e w' hp
    obtain ⟨L', rfl, hs, hm⟩ := fin2 (by omega) hp
    clear hp
    go_wp2
    go_ret2
    exact ⟨L', rfl, hs.out, hm.out⟩
  by_cases k3 : k = 3
  · subst k3
    have hV : stV x 3 n = 0 := rfl
    have hE : stE x 3 n = suE x n := rfl
    have hR : stR x 3 n = suR x n := rfl
    rw [hV, hE, hR]
    have HH := Lib.hid h
    clear h hV hE hR
    go_enter Try.func21, Try.ntmps21
    go_wp2_with fail
    refine (x_Suspend (HA _) hB2 n).mono ?_
    rintro e w' hp
    obtain ⟨L', rfl, hs, hm⟩ := fin (by omega) hp
    clear hp
    go_wp2
    go_ret2
    exact ⟨L', rfl, hs.out, hm.out⟩
  by_cases k4 : k = 4
  · subst k4
    have hV : stV x 4 n = 0 := rfl
    have hE : stE x 4 n = yiE x := rfl
    have hR : stR x 4 n = yieldR x := rfl
    rw [hV, hE, hR]
    have HH := Lib.hid h
    clear h hV hE hR
    go_enter Try.func21, Try.ntmps21
    go_wp2_with fail
    refine (x_Yield (HA _) hB2).mono ?_
    rintro e w' hp
    obtain ⟨L', rfl, hs, hm⟩ := fin (by omega) hp
    clear hp
    go_wp2
    go_ret2
    exact ⟨L', rfl, hs.out, hm.out⟩
  by_cases k5 : k = 5
  · subst k5
    have hV : stV x 5 n = smV x := rfl
    have hE : stE x 5 n = smE x := rfl
    have hR : stR x 5 n = smR x := rfl
    rw [hV, hE, hR]
    have HH := Lib.hid h
    clear h hV hE hR
    go_enter Try.func21, Try.ntmps21
    go_wp2_with fail
    refine (x_Sem (HA _)).mono ?_
    rintro e w' hp
    obtain ⟨L', rfl, hs, hm⟩ := fin (by omega) hp
    clear hp
    go_wp2
    go_ret2
    exact ⟨L', rfl, hs.out, hm.out⟩
  by_cases k6 : k = 6
  · subst k6
    have hV : stV x 6 n = 0 := rfl
    have hE : stE x 6 n = siE x n := rfl
    have hR : stR x 6 n = siR x n := rfl
    rw [hV, hE, hR]
    have HH := Lib.hid h
    clear h hV hE hR
    go_enter Try.func21, Try.ntmps21
    go_wp2_with fail
    refine (x_Signal (HA _) hB2 n).mono ?_
    rintro e w' hp
    obtain ⟨L', rfl, hs, hm⟩ := fin (by omega) hp
    clear hp
    go_wp2
    go_ret2
    exact ⟨L', rfl, hs.out, hm.out⟩
  have hV : stV x k n = 0 := by unfold stV; rw [if_neg k1, if_neg k5]
  have hE : stE x k n = waE x n := by unfold stE; rw [if_neg k1, if_neg k2, if_neg k3, if_neg k4, if_neg k5, if_neg k6]
  have hR : stR x k n = waR x n := by unfold stR; rw [if_neg k1, if_neg k2, if_neg k3, if_neg k4, if_neg k5, if_neg k6]
  rw [hV, hE, hR]
  have HH := Lib.hid h
  clear h hV hE hR
  go_enter Try.func21, Try.ntmps21
  go_wp2_with fail
  refine (x_Wait (HA _) hB2 n).mono ?_
  rintro e w' hp
  obtain ⟨L', rfl, hs, hm⟩ := fin (by omega) hp
  clear hp
  go_wp2
  go_ret2
  exact ⟨L', rfl, hs.out, hm.out⟩

end Go.Proofs.Ytbkaafbkmcgfjaa
