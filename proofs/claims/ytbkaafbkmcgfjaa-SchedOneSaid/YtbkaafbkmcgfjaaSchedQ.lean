/-
  What steps leave of the others.
-/
import Derived.Test.YtbkaafbkmcgfjaaSchedO
namespace Go.Proofs.Ytbkaafbkmcgfjaa
set_option linter.unusedVariables false

theorem put_pr {x : RS} {k : Nat} (hk : k < x.P.length) (w j : Nat) : (gP (putR x k w) j).pr = (gP x j).pr := by
  by_cases h : j = k
  · subst h; rw [gP_put_same hk]
  · rw [gP_put_ne h]

theorem nextRF_is {x : RS} (ha : actR x = 0) : ∀ i, i ≤ 8 → nextRF i x = x ∨ ∃ k, k < x.P.length ∧ (gP x k).wh = 2 ∧ nextRF i x = putR x k 1
  | 0, _ => .inl rfl
  | i + 1, hi => by
    unfold nextRF
    rw [if_pos ha]
    cases hq : atL x 2 (i + 1) with
    | nil => exact nextRF_is ha i (by omega)
    | cons p l =>
      obtain ⟨k, hk, rfl, hw, _, _⟩ := mem_atL.1 (show p ∈ atL x 2 (i + 1) by rw [hq]; simp)
      exact .inr ⟨k, hk, hw, by simp only; rw [show ((k : Int) + 1 - 1).toNat = k from by omega]⟩

def idleN (x : RS) : Nat := x.P.countP (fun q => q.wh == 0)

theorem countP_set1 {α : Type} (p : α → Bool) : ∀ (l : List α) (k : Nat) (a : α) (hk : k < l.length), (l.set k a).countP p + (if p l[k] then 1 else 0) = l.countP p + (if p a then 1 else 0)
  | [], k, a, hk => absurd hk (Nat.not_lt_zero _)
  | b :: l, 0, a, hk => by simp [List.countP_cons]; omega
  | b :: l, k + 1, a, hk => by
    have := countP_set1 p l k a (by simpa using hk)
    simp only [List.set_cons_succ, List.countP_cons, List.getElem_cons_succ]
    omega
theorem idle_put {x : RS} {k : Nat} (hk : k < x.P.length) (w : Nat) : idleN (putR x k w) + (if (gP x k).wh = 0 then 1 else 0) = idleN x + (if w = 0 then 1 else 0) := by
  have := countP_set1 (fun q : Pr => q.wh == 0) x.P k ⟨(gP x k).pr, w, x.now + 1⟩ hk
  have e : x.P[k] = gP x k := by have := gP_get hk; rw [List.getElem?_eq_getElem hk] at this; exact Option.some.inj this
  rw [e] at this
  simpa [idleN, putR] using this

/-- What suspending the active one leaves. -/
theorem susp_facts {B : Nat} {x : RS} (h : Inv B x) {a : Nat} (ha : a < x.P.length) (hw : (gP x a).wh = 1) :
    idleN (suspR x a) = idleN x + 1 ∧ (gP (suspR x a) a).wh = 0 ∧ ∀ j, (gP (suspR x a) j).pr = (gP x j).pr ∧ (j ≠ a → ((gP (suspR x a) j).wh = (gP x j).wh ∨ (gP x j).wh = 2 ∧ (gP (suspR x a) j).wh = 1)) := by
  have hz := act_put_off h.toInv0 ha (w := 0) (by omega) hw
  have hc := idle_put ha 0
  rw [if_neg (by omega), if_pos rfl] at hc
  unfold suspR nextR
  rcases nextRF_is hz 8 (Nat.le_refl _) with h1 | ⟨k, hk, hk2, h1⟩
  · rw [h1]
    refine ⟨by omega, by rw [gP_put_same ha], fun j => ⟨put_pr ha _ _, fun hj => .inl (by rw [gP_put_ne hj])⟩⟩
  · rw [h1]
    have hka : k ≠ a := fun e => by subst e; rw [gP_put_same ha] at hk2; simp at hk2
    have hc2 := idle_put hk 1
    rw [if_neg (by omega), if_neg (by omega)] at hc2
    refine ⟨by omega, by rw [gP_put_ne (Ne.symm hka), gP_put_same ha], fun j => ⟨by rw [put_pr hk, put_pr ha], fun hj => ?_⟩⟩
    by_cases hjk : j = k
    · subst hjk
      rw [gP_put_ne hj] at hk2
      exact .inr ⟨hk2, by rw [gP_put_same hk]⟩
    · exact .inl (by rw [gP_put_ne hjk, gP_put_ne hj])

/-- What resuming an idle one leaves. -/
theorem made_facts {B : Nat} {x : RS} (h : Inv B x) {k : Nat} (hk : k < x.P.length) (hw : (gP x k).wh = 0) :
    ((gP (madeR x k) k).wh = 1 ∨ (gP (madeR x k) k).wh = 2) ∧ ∀ j, (gP (madeR x k) j).pr = (gP x j).pr ∧ (j ≠ k → ((gP (madeR x k) j).wh = (gP x j).wh ∨ (gP x j).wh = 1 ∧ (gP (madeR x k) j).wh = 2)) := by
  have hky : k < (putR x k 2).P.length := by rw [put_len]; exact hk
  unfold madeR
  split
  · refine ⟨.inl (by rw [gP_put_same hky]), fun j => ⟨by rw [put_pr hky, put_pr hk], fun hj => .inl (by rw [gP_put_ne hj, gP_put_ne hj])⟩⟩
  · rename_i hn
    rcases act_cases (putR x k 2) with ⟨ha, _⟩ | ⟨a, haa, hwa, ha⟩
    · exact absurd ha hn
    · split
      · rw [ha, Nat.add_sub_cancel]
        have hkz : k < (putR (putR x k 2) a 2).P.length := by rw [put_len]; exact hky
        refine ⟨.inl (by rw [gP_put_same hkz]), fun j => ⟨by rw [put_pr hkz, put_pr haa, put_pr hk], fun hj => ?_⟩⟩
        rw [gP_put_ne hj]
        by_cases hja : j = a
        · subst hja
          rw [gP_put_ne hj] at hwa
          exact .inr ⟨hwa, by rw [gP_put_same haa]⟩
        · exact .inl (by rw [gP_put_ne hja, gP_put_ne hj])
      · refine ⟨.inr (by rw [gP_put_same hk]), fun j => ⟨put_pr hk _ _, fun hj => .inl (by rw [gP_put_ne hj])⟩⟩

theorem rs_one {x : RS} {k : Nat} (hk : k < x.P.length) (hw : (gP x k).wh = 0) : rsE x [(k : Int) + 1] = 0 ∧ rsR x [(k : Int) + 1] = madeR x k := by
  have hA : allIn (ssR x) [(k : Int) + 1] = true := by
    unfold allIn
    simp [ssR]
    omega
  have hO : okAll (ssR x) [(k : Int) + 1] = true := by
    refine okAll_yes (fun j hj => ?_)
    obtain rfl : j = 0 := by simp at hj; omega
    unfold okAt
    simp only [List.getD_cons_zero, List.take_zero]
    rw [show ((k : Int) + 1 - 1).toNat = k from by omega, idle_get hk, hw]
    simp
  have hE : rsE x [(k : Int) + 1] = 0 := by
    show resE _ _ = 0
    unfold resE
    rw [if_pos hA, if_pos hO]
  refine ⟨hE, ?_⟩
  unfold rsR
  rw [if_pos hE]
  show madeR x ((k : Int) + 1 - 1).toNat = _
  rw [show ((k : Int) + 1 - 1).toNat = k from by omega]

theorem sp_one {x : RS} {p : Nat} (h1 : 1 ≤ p) (h8 : p ≤ 8) (hn : x.P.length < 100) : spE x p = 0 ∧ spV x p = (x.P.length : Int) + 1 ∧ spR x p = spawnR x p := by
  have hE : spE x p = 0 := by
    unfold spE
    rw [if_neg (by omega), if_neg (by omega)]
  refine ⟨hE, ?_, ?_⟩
  · unfold spV; rw [if_pos hE]
  · unfold spR; rw [if_pos hE]; rfl

theorem su_one {x : RS} {k : Nat} (hk : k < x.P.length) : ((gP x k).wh ≠ 0 → suE x ((k : Int) + 1) = 0 ∧ suR x ((k : Int) + 1) = suspR x k) ∧ ((gP x k).wh = 0 → suE x ((k : Int) + 1) = 2 ∧ suR x ((k : Int) + 1) = x) := by
  have e1 : ((k : Int) + 1 - 1).toNat = k := by omega
  refine ⟨fun h => ?_, fun h => ?_⟩
  · have hE : suE x ((k : Int) + 1) = 0 := by unfold suE; rw [if_pos (by omega), e1, if_neg h]
    exact ⟨hE, by unfold suR; rw [if_pos hE, e1]⟩
  · have hE : suE x ((k : Int) + 1) = 2 := by unfold suE; rw [if_pos (by omega), e1, if_pos h]
    exact ⟨hE, by unfold suR; rw [hE, if_neg (by decide)]⟩

/-! ### SchedGreatest: spawned, resumed, suspended -/

def G1 (q : Nat → Nat) (k : Nat) (x : RS) : Prop := x.P.length = k ∧ ∀ j, j < k → (gP x j).pr = q j ∧ (gP x j).wh = 0
def G2 (q : Nat → Nat) (n k : Nat) (x : RS) : Prop := x.P.length = n ∧ ∀ j, j < n → (gP x j).pr = q j ∧ (j < k → (gP x j).wh = 0) ∧ (k ≤ j → (gP x j).wh = 1 ∨ (gP x j).wh = 2)
def G3 (q : Nat → Nat) (n i last : Nat) (x : RS) : Prop := x.P.length = n ∧ idleN x = i ∧ ∀ j, j < n → (gP x j).pr = q j ∧ (gP x j).wh ≤ 2 ∧ ((gP x j).wh ≠ 0 → q j ≤ last)

theorem G1.step {q : Nat → Nat} {k : Nat} {x : RS} (h : G1 q k x) (h1 : 1 ≤ q k) (h8 : q k ≤ 8) (hk : k < 100) : spE x (q k) = 0 ∧ spV x (q k) = (k : Int) + 1 ∧ G1 q (k + 1) (spR x (q k)) := by
  obtain ⟨e1, e2, e3⟩ := sp_one h1 h8 (by rw [h.1]; exact hk)
  refine ⟨e1, by rw [e2, h.1], ?_⟩
  rw [e3]
  refine ⟨by rw [spawn_len, h.1], fun j hj => ?_⟩
  by_cases hjk : j = k
  · have e := gP_new x (q k)
    rw [h.1] at e
    rw [hjk, e]; exact ⟨rfl, rfl⟩
  · rw [gP_old (by rw [h.1]; omega)]; exact h.2 j (by omega)
theorem G1.done {q : Nat → Nat} {n : Nat} {x : RS} (h : G1 q n x) : G2 q n n x := ⟨h.1, fun j hj => ⟨(h.2 j hj).1, fun _ => (h.2 j hj).2, fun h2 => by omega⟩⟩
theorem G2.step {q : Nat → Nat} {n k B : Nat} {x : RS} (h : G2 q n (k + 1) x) (hk : k < n) (hi : Inv B x) : rsE x [(k : Int) + 1] = 0 ∧ G2 q n k (rsR x [(k : Int) + 1]) := by
  have hkl : k < x.P.length := by rw [h.1]; exact hk
  have hw := (h.2 k hk).2.1 (by omega)
  obtain ⟨e1, e2⟩ := rs_one hkl hw
  refine ⟨e1, ?_⟩
  rw [e2]
  obtain ⟨f1, f2⟩ := made_facts hi hkl hw
  refine ⟨by rw [(made_one hi hkl hw).2.2.1, h.1], fun j hj => ⟨by rw [(f2 j).1]; exact (h.2 j hj).1, fun hjk => ?_, fun hjk => ?_⟩⟩
  · have h0 := (h.2 j hj).2.1 (by omega)
    rcases (f2 j).2 (by omega) with h3 | h3
    · rw [h3]; exact h0
    · omega
  · by_cases hjk2 : j = k
    · rw [hjk2]; exact f1
    · have h0 := (h.2 j hj).2.2 (by omega)
      rcases (f2 j).2 hjk2 with h3 | h3
      · rw [h3]; exact h0
      · exact .inr h3.2
theorem countP_zero {α : Type} {p : α → Bool} {l : List α} (h : ∀ a ∈ l, p a = false) : l.countP p = 0 := by
  rw [List.countP_eq_zero]
  intro a ha
  rw [h a ha]; simp
theorem gP_mem {x : RS} {q : Pr} (h : q ∈ x.P) : ∃ j, j < x.P.length ∧ gP x j = q := by
  obtain ⟨j, hj, rfl⟩ := List.getElem_of_mem h
  exact ⟨j, hj, by have := gP_get hj; rw [List.getElem?_eq_getElem hj] at this; exact (Option.some.inj this).symm⟩
theorem G2.done {q : Nat → Nat} {n : Nat} {x : RS} (h : G2 q n 0 x) (h8 : ∀ j, j < n → q j ≤ 9) : G3 q n 0 9 x := by
  refine ⟨h.1, ?_, fun j hj => ⟨(h.2 j hj).1, by have := (h.2 j hj).2.2 (Nat.zero_le _); omega, fun _ => h8 j hj⟩⟩
  refine countP_zero (fun a ha => ?_)
  obtain ⟨j, hj, rfl⟩ := gP_mem ha
  have := (h.2 j (by rw [← h.1]; exact hj)).2.2 (Nat.zero_le _)
  simp
  omega
theorem G3.act {q : Nat → Nat} {n i last B : Nat} {x : RS} (h : G3 q n i last x) (hi : i < n) (hI : Inv B x) : ∃ a, a < n ∧ (gP x a).wh = 1 ∧ actR x = a + 1 ∧ q a ≤ last := by
  have hex : ∃ j, j < n ∧ (gP x j).wh ≠ 0 := by
    apply Classical.byContradiction
    intro hno
    have : x.P.countP (fun q => q.wh == 0) = x.P.length := by
      rw [List.countP_eq_length]
      intro a ha
      obtain ⟨j, hj, rfl⟩ := gP_mem ha
      have : (gP x j).wh = 0 := Classical.byContradiction (fun e => hno ⟨j, by rw [← h.1]; exact hj, e⟩)
      simp [this]
    have h2 := h.2.1
    unfold idleN at h2
    have := h.1
    omega
  obtain ⟨j, hj, hw⟩ := hex
  have hw2 := (h.2.2 j hj).2.1
  have : ∃ a, a < x.P.length ∧ (gP x a).wh = 1 := by
    by_cases h1 : (gP x j).wh = 1
    · exact ⟨j, by rw [h.1]; exact hj, h1⟩
    · obtain ⟨a, ha, hb, _⟩ := hI.top j (by rw [h.1]; exact hj) (by omega)
      exact ⟨a, ha, hb⟩
  obtain ⟨a, ha, hb⟩ := this
  have han : a < n := by rw [← h.1]; exact ha
  exact ⟨a, han, hb, act_is hI.toInv0 ha hb, (h.2.2 a han).2.2 (by omega)⟩
theorem G3.step {q : Nat → Nat} {n i last B : Nat} {x : RS} (h : G3 q n i last x) (hI : Inv B x) {a : Nat} (ha : a < n) (hb : (gP x a).wh = 1) :
    suE x ((a : Int) + 1) = 0 ∧ G3 q n (i + 1) (q a) (suR x ((a : Int) + 1)) ∧ suE (suR x ((a : Int) + 1)) ((a : Int) + 1) = 2 ∧ suR (suR x ((a : Int) + 1)) ((a : Int) + 1) = suR x ((a : Int) + 1) := by
  have hal : a < x.P.length := by rw [h.1]; exact ha
  obtain ⟨e1, e2⟩ := (su_one hal).1 (by omega)
  obtain ⟨f1, f2, f3⟩ := susp_facts hI hal hb
  have hlen : (suspR x a).P.length = n := by rw [(susp_ss hI hal).2.2.1, h.1]
  rw [e2]
  obtain ⟨g1, g2⟩ := (su_one (x := suspR x a) (k := a) (by rw [hlen]; exact ha)).2 f2
  refine ⟨e1, ⟨hlen, by rw [f1, h.2.1], fun j hj => ⟨by rw [(f3 j).1]; exact (h.2.2 j hj).1, ?_, fun hw => ?_⟩⟩, g1, g2⟩
  · by_cases hja : j = a
    · rw [hja, f2]; omega
    · have := (h.2.2 j hj).2.1
      rcases (f3 j).2 hja with h3 | h3 <;> omega
  · have hja : j ≠ a := fun e => hw (by rw [e]; exact f2)
    have hqa := (h.2.2 a ha).1
    have hqj := (h.2.2 j hj).1
    rcases (f3 j).2 hja with h3 | h3
    · rw [h3] at hw
      have h4 : (gP x j).wh = 2 := by
        have := (h.2.2 j hj).2.1
        have h1 : (gP x j).wh ≠ 1 := fun e => hja (hI.uq j a (by rw [h.1]; exact hj) hal e hb)
        omega
      obtain ⟨b, hb1, hb2, hb3⟩ := hI.top j (by rw [h.1]; exact hj) h4
      obtain rfl := hI.uq b a hb1 hal hb2 hb
      omega
    · obtain ⟨b, hb1, hb2, hb3⟩ := hI.top j (by rw [h.1]; exact hj) h3.1
      obtain rfl := hI.uq b a hb1 hal hb2 hb
      omega
theorem G3.done {q : Nat → Nat} {n last : Nat} {x : RS} (h : G3 q n n last x) : actR x = 0 := by
  refine act_zero (fun j hj => ?_)
  have h2 : x.P.countP (fun q => q.wh == 0) = x.P.length := by rw [h.1]; exact h.2.1
  rw [List.countP_eq_length] at h2
  have h3 := h2 (gP x j) (List.mem_of_getElem? (gP_get hj))
  simp at h3
  omega

end Go.Proofs.Ytbkaafbkmcgfjaa
