/-
  A table of names, plain: slots, a hash with open addressing, and what its search finds.
-/
import Derived.Test.YtbmenldopeplcaaGen
namespace Go.Proofs.Ytbmenldopeplcaa
set_option linter.unusedVariables false
set_option maxHeartbeats 400000

theorem pigeon : ∀ (n m : Nat) (f : Nat → Nat), (∀ i, i < m → f i < n) → (∀ i j, i < m → j < m → f i = f j → i = j) → m ≤ n
  | 0, m, f, h, _ => by
    rcases Nat.eq_zero_or_pos m with h0 | h0
    · omega
    · exact absurd (h 0 h0) (by omega)
  | n + 1, 0, f, _, _ => Nat.zero_le _
  | n + 1, m + 1, f, h, inj => by
    have key : m ≤ n := pigeon n m (fun i => if f i = n then f m else f i) (fun i hi => by
        have h1 := h i (by omega)
        have h2 := h m (by omega)
        by_cases h3 : f i = n
        · have h4 : f m ≠ n := fun h4 => by have := inj i m (by omega) (by omega) (h3.trans h4.symm); omega
          simp only [h3, if_true]; omega
        · simp only [h3, if_false]; omega) (fun i j hi hj he => by
        by_cases h3 : f i = n
        · by_cases h4 : f j = n
          · exact inj i j (by omega) (by omega) (h3.trans h4.symm)
          · simp only [h3, h4, if_true, if_false] at he
            have := inj m j (by omega) (by omega) he; omega
        · by_cases h4 : f j = n
          · simp only [h3, h4, if_true, if_false] at he
            have := inj i m (by omega) (by omega) he; omega
          · simp only [h3, h4, if_false] at he
            exact inj i j (by omega) (by omega) he)
    omega

/-- A number's place at home. -/
def home (H : Nat) (id : Int) : Nat := (id.toNat * 2654435761 % 18446744073709551616) % H
theorem home_lt {H : Nat} (h : 0 < H) (id : Int) : home H id < H := Nat.mod_lt _ h

/-- The place that is j behind the home. -/
def spot (H : Nat) (id : Int) (j : Nat) : Nat := (home H id + j) % H
theorem spot_lt {H : Nat} (h : 0 < H) (id : Int) (j : Nat) : spot H id j < H := Nat.mod_lt _ h
theorem spot_inj {H : Nat} (id : Int) {i j : Nat} (hi : i < H) (hj : j < H) (h : spot H id i = spot H id j) : i = j := by
  unfold spot at h
  have h0 : home H id < H := home_lt (by omega) id
  by_cases h1 : home H id + i < H
  · rw [Nat.mod_eq_of_lt h1] at h
    by_cases h2 : home H id + j < H
    · rw [Nat.mod_eq_of_lt h2] at h; omega
    · rw [Nat.mod_eq_sub_mod (by omega), Nat.mod_eq_of_lt (by omega)] at h; omega
  · rw [Nat.mod_eq_sub_mod (by omega), Nat.mod_eq_of_lt (by omega)] at h
    by_cases h2 : home H id + j < H
    · rw [Nat.mod_eq_of_lt h2] at h; omega
    · rw [Nat.mod_eq_sub_mod (by omega), Nat.mod_eq_of_lt (by omega)] at h; omega

attribute [irreducible] home spot

structure Good (N : Nat) (ids hash : List Int) : Prop where
  li : ids.length = N + 1
  lh : hash.length = 2 * N + 1
  i0 : ids.getD 0 0 = 0
  pos : ∀ s, 0 ≤ ids.getD s 0 ∧ ids.getD s 0 ≤ 9223372036854775807
  hr : ∀ p, -1 ≤ hash.getD p 0 ∧ hash.getD p 0 ≤ N
  live : ∀ p, 0 < hash.getD p 0 → ids.getD (hash.getD p 0).toNat 0 ≠ 0
  one : ∀ p q, 0 < hash.getD p 0 → hash.getD p 0 = hash.getD q 0 → p = q
  path : ∀ s : Nat, ids.getD s 0 ≠ 0 → ∃ j, j < 2 * N + 1 ∧ hash.getD (spot (2 * N + 1) (ids.getD s 0) j) 0 = s ∧ ∀ i, i < j → hash.getD (spot (2 * N + 1) (ids.getD s 0) i) 0 ≠ 0
  diff : ∀ s t : Nat, ids.getD s 0 = ids.getD t 0 → ids.getD s 0 ≠ 0 → s = t

/-- An id is not there: a place for it. -/
def Free8 (N : Nat) (ids hash : List Int) (id : Int) (k : Nat) : Prop :=
  (∀ s, ids.getD s 0 ≠ id) ∧ hash.getD k 0 ≤ 0 ∧ ∃ j, j < 2 * N + 1 ∧ k = spot (2 * N + 1) id j ∧ ∀ i, i < j → hash.getD (spot (2 * N + 1) id i) 0 ≠ 0

/-- What the search knows behind i places. -/
structure Seen (N : Nat) (ids hash : List Int) (id : Int) (i : Nat) (op : Int) : Prop where
  no : ∀ j, j < i → hash.getD (spot (2 * N + 1) id j) 0 ≠ 0 ∧ (0 < hash.getD (spot (2 * N + 1) id j) 0 → ids.getD (hash.getD (spot (2 * N + 1) id j) 0).toNat 0 ≠ id)
  op : (op = -1 ∧ ∀ j, j < i → 0 < hash.getD (spot (2 * N + 1) id j) 0) ∨ ∃ j, j < i ∧ op = (spot (2 * N + 1) id j : Nat) ∧ hash.getD (spot (2 * N + 1) id j) 0 = -1

theorem Seen.start (N : Nat) (ids hash : List Int) (id : Int) : Seen N ids hash id 0 (-1) := ⟨fun j hj => by omega, .inl ⟨rfl, fun j hj => by omega⟩⟩

theorem Seen.gone {N : Nat} {ids hash : List Int} {id : Int} {i : Nat} {op : Int} (h : Seen N ids hash id i op) (hh : hash.getD (spot (2 * N + 1) id i) 0 = -1) :
    Seen N ids hash id (i + 1) (if op = -1 then (spot (2 * N + 1) id i : Nat) else op) := by
  refine ⟨fun j hj => ?_, ?_⟩
  · by_cases hji : j = i
    · subst hji; rw [hh]; exact ⟨by decide, fun h => by omega⟩
    · exact h.no j (by omega)
  · by_cases h1 : op = -1
    · rw [if_pos h1]
      exact .inr ⟨i, by omega, rfl, hh⟩
    · rw [if_neg h1]
      rcases h.op with ⟨h2, _⟩ | ⟨j, hj, h2, h3⟩
      · exact absurd h2 h1
      · exact .inr ⟨j, by omega, h2, h3⟩

theorem Seen.other {N : Nat} {ids hash : List Int} {id : Int} {i : Nat} {op : Int} (h : Seen N ids hash id i op) (h0 : 0 < hash.getD (spot (2 * N + 1) id i) 0) (h1 : ids.getD (hash.getD (spot (2 * N + 1) id i) 0).toNat 0 ≠ id) :
    Seen N ids hash id (i + 1) op := by
  refine ⟨fun j hj => ?_, ?_⟩
  · by_cases hji : j = i
    · subst hji; exact ⟨by omega, fun _ => h1⟩
    · exact h.no j (by omega)
  · rcases h.op with ⟨h2, h3⟩ | ⟨j, hj, h2, h3⟩
    · refine .inl ⟨h2, fun j hj => ?_⟩
      by_cases hji : j = i
      · subst hji; exact h0
      · exact h3 j (by omega)
    · exact .inr ⟨j, by omega, h2, h3⟩

theorem Seen.absent {N : Nat} {ids hash : List Int} {id : Int} {i : Nat} {op : Int} (g : Good N ids hash) (hid : id ≠ 0) (h : Seen N ids hash id i op) (hi : i = 2 * N + 1 ∨ hash.getD (spot (2 * N + 1) id i) 0 = 0) : ∀ s, ids.getD s 0 ≠ id := by
  intro s hs
  subst hs
  obtain ⟨j, hj, hp, hz⟩ := g.path s hid
  have hs0 : s ≠ 0 := fun h0 => hid (by rw [h0]; exact g.i0)
  by_cases hji : j < i
  · have := (h.no j hji).2 (by rw [hp]; omega)
    rw [hp] at this
    exact this (by simp)
  · rcases hi with hi | hi
    · omega
    · by_cases hjj : j = i
      · subst hjj; rw [hp] at hi; omega
      · exact hz i (by omega) hi

theorem Seen.zero {N : Nat} {ids hash : List Int} {id : Int} {i : Nat} {op : Int} (g : Good N ids hash) (hid : id ≠ 0) (h : Seen N ids hash id i op) (hi : i < 2 * N + 1) (hz : hash.getD (spot (2 * N + 1) id i) 0 = 0) :
    ∃ k : Nat, (if op = -1 then ((spot (2 * N + 1) id i : Nat) : Int) else op) = k ∧ Free8 N ids hash id k := by
  have ha := h.absent g hid (.inr hz)
  by_cases h1 : op = -1
  · exact ⟨_, by rw [if_pos h1], ha, by omega, i, hi, rfl, fun j hj => (h.no j hj).1⟩
  · rcases h.op with ⟨h2, _⟩ | ⟨j, hj, h2, h3⟩
    · exact absurd h2 h1
    · exact ⟨_, by rw [if_neg h1, h2], ha, by omega, j, by omega, rfl, fun j' hj' => (h.no j' (by omega)).1⟩

theorem Seen.all {N : Nat} {ids hash : List Int} {id : Int} {op : Int} (g : Good N ids hash) (hid : id ≠ 0) (h : Seen N ids hash id (2 * N + 1) op) :
    ∃ k : Nat, op = k ∧ Free8 N ids hash id k := by
  have ha := h.absent g hid (.inl rfl)
  rcases h.op with ⟨h2, h3⟩ | ⟨j, hj, h2, h3⟩
  · exfalso
    have := pigeon N (2 * N + 1) (fun i => (hash.getD (spot (2 * N + 1) id i) 0).toNat - 1) (fun i hi => by
      have h4 := h3 i hi
      have h5 := (g.hr (spot (2 * N + 1) id i)).2
      omega) (fun i j hi hj he => by
      have h4 := h3 i hi
      have h5 := h3 j hj
      exact spot_inj id hi hj (g.one _ _ h4 (by omega)))
    omega
  · exact ⟨_, h2, ha, by omega, j, hj, rfl, fun j' hj' => (h.no j' (by omega)).1⟩

theorem getD_set_same {l : List Int} {i : Nat} (h : i < l.length) (v : Int) : (l.set i v).getD i 0 = v := by
  rw [List.getD_eq_getElem?_getD, List.getElem?_set_self h]; rfl
theorem getD_set_other {l : List Int} {i j : Nat} (h : i ≠ j) (v : Int) : (l.set i v).getD j 0 = l.getD j 0 := by
  rw [List.getD_eq_getElem?_getD, List.getElem?_set_ne h, ← List.getD_eq_getElem?_getD]

theorem Good.bound {N : Nat} {ids hash : List Int} (g : Good N ids hash) {id : Int} {k s : Nat} (h0 : 0 < id) (h1 : id ≤ 9223372036854775807) (hf : Free8 N ids hash id k) (hs0 : 0 < s) (hs : s ≤ N) (hfree : ids.getD s 0 = 0) :
    Good N (ids.set s id) (hash.set k s) := by
  obtain ⟨ha, hk0, j, hj, rfl, hz⟩ := hf
  have hli := g.li
  have hlh := g.lh
  have hsl : s < ids.length := by omega
  have hkl : spot (2 * N + 1) id j < hash.length := by rw [hlh]; exact spot_lt (by omega) _ _
  have hns := Lib.hid (show ∀ p, hash.getD p 0 ≠ s from fun p hp => g.live p (by omega) (by rw [hp]; simpa using hfree))
  have idS := Lib.hid (getD_set_same hsl id)
  have idO := Lib.hid (fun t (h : s ≠ t) => getD_set_other (l := ids) h id)
  have haS := Lib.hid (getD_set_same hkl (s : Int))
  have haO := Lib.hid (fun t (h : spot (2 * N + 1) id j ≠ t) => getD_set_other (l := hash) h (s : Int))
  -- no place tells s
  refine ⟨by simp [hli], by simp [hlh], ?_, fun t => ?_, fun p => ?_, fun p hp => ?_, fun p q hp hpq => ?_, fun t ht => ?_, fun t u htu ht => ?_⟩
  · rw [idO.out 0 (by omega)]; exact g.i0
  · by_cases h : s = t
    · subst h; rw [idS.out]; omega
    · rw [idO.out t h]; exact g.pos t
  · by_cases h : spot (2 * N + 1) id j = p
    · subst h; rw [haS.out]; omega
    · rw [haO.out p h]; exact g.hr p
  · by_cases h : spot (2 * N + 1) id j = p
    · subst h; rw [haS.out, Int.toNat_natCast, idS.out]; omega
    · rw [haO.out p h] at hp ⊢
      have := g.live p hp
      rw [idO.out _ (fun hst => hns.out p (by omega))]
      exact this
  · by_cases h : spot (2 * N + 1) id j = p
    · subst h
      by_cases h2 : spot (2 * N + 1) id j = q
      · exact h2
      · rw [haS.out, haO.out q h2] at hpq
        exact absurd hpq.symm (hns.out q)
    · rw [haO.out p h] at hp hpq
      by_cases h2 : spot (2 * N + 1) id j = q
      · subst h2
        rw [haS.out] at hpq
        exact absurd hpq (hns.out p)
      · rw [haO.out q h2] at hpq
        exact g.one p q hp hpq
  · by_cases h : s = t
    · subst h
      rw [idS.out]
      refine ⟨j, hj, haS.out, fun i hi => ?_⟩
      rw [haO.out _ (fun he => by have := spot_inj id hj (by omega) he; omega)]
      exact hz i hi
    · rw [idO.out t h] at ht ⊢
      obtain ⟨m, hm, hp, hpz⟩ := g.path t ht
      refine ⟨m, hm, ?_, fun i hi => ?_⟩
      · by_cases h2 : spot (2 * N + 1) id j = spot (2 * N + 1) (ids.getD t 0) m
        · rw [← h2] at hp
          exfalso
          have : t ≠ 0 := fun h0 => ht (by rw [h0]; exact g.i0)
          omega
        · rw [haO.out _ h2]; exact hp
      · by_cases h2 : spot (2 * N + 1) id j = spot (2 * N + 1) (ids.getD t 0) i
        · rw [← h2, haS.out]; omega
        · rw [haO.out _ h2]; exact hpz i hi
  · by_cases h : s = t
    · subst h
      by_cases h2 : s = u
      · exact h2
      · rw [idS.out, idO.out u h2] at htu
        exact absurd htu.symm (ha u)
    · rw [idO.out t h] at htu ht
      by_cases h2 : s = u
      · subst h2
        rw [idS.out] at htu
        exact absurd htu (ha t)
      · rw [idO.out u h2] at htu
        exact g.diff t u htu ht

theorem Good.freed {N : Nat} {ids hash : List Int} (g : Good N ids hash) {k s : Nat} (hk : hash.getD k 0 = s) (hs0 : 0 < s) : Good N (ids.set s 0) (hash.set k (-1)) := by
  have hli := g.li
  have hlh := g.lh
  have hkl : k < hash.length := by
    rcases Nat.lt_or_ge k hash.length with h | h
    · exact h
    · rw [List.getD_eq_getElem?_getD, List.getElem?_eq_none h] at hk; simp at hk; omega
  have hsl : s < ids.length := by have := (g.hr k).2; omega
  have hns := Lib.hid (show ∀ p, k ≠ p → hash.getD p 0 ≠ s from fun p hp h => hp (g.one k p (by omega) (by omega)))
  have idS := Lib.hid (getD_set_same hsl 0)
  have idO := Lib.hid (fun t (h : s ≠ t) => getD_set_other (l := ids) h 0)
  have haS := Lib.hid (getD_set_same hkl (-1))
  have haO := Lib.hid (fun t (h : k ≠ t) => getD_set_other (l := hash) h (-1))
  refine ⟨by simp [hli], by simp [hlh], ?_, fun t => ?_, fun p => ?_, fun p hp => ?_, fun p q hp hpq => ?_, fun t ht => ?_, fun t u htu ht => ?_⟩
  · rw [idO.out 0 (by omega)]; exact g.i0
  · by_cases h : s = t
    · subst h; rw [idS.out]; omega
    · rw [idO.out t h]; exact g.pos t
  · by_cases h : k = p
    · subst h; rw [haS.out]; omega
    · rw [haO.out p h]; exact g.hr p
  · by_cases h : k = p
    · subst h; rw [haS.out] at hp; omega
    · rw [haO.out p h] at hp ⊢
      rw [idO.out _ (fun hst => hns.out p h (by omega))]
      exact g.live p hp
  · by_cases h : k = p
    · subst h; rw [haS.out] at hp; omega
    · rw [haO.out p h] at hp hpq
      by_cases h2 : k = q
      · subst h2; rw [haS.out] at hpq; omega
      · rw [haO.out q h2] at hpq
        exact g.one p q hp hpq
  · by_cases h : s = t
    · subst h; rw [idS.out] at ht; exact absurd rfl ht
    · rw [idO.out t h] at ht ⊢
      obtain ⟨m, hm, hp, hpz⟩ := g.path t ht
      refine ⟨m, hm, ?_, fun i hi => ?_⟩
      · rw [haO.out _ (fun he => by rw [← he, hk] at hp; omega)]; exact hp
      · by_cases h2 : k = spot (2 * N + 1) (ids.getD t 0) i
        · rw [← h2, haS.out]; omega
        · rw [haO.out _ h2]; exact hpz i hi
  · by_cases h : s = t
    · subst h; rw [idS.out] at ht; exact absurd rfl ht
    · rw [idO.out t h] at htu ht
      by_cases h2 : s = u
      · subst h2; rw [idS.out] at htu; exact absurd htu ht
      · rw [idO.out u h2] at htu
        exact g.diff t u htu ht

theorem Good.new (N : Nat) : Good N (List.replicate (N + 1) 0) (List.replicate (2 * N + 1) 0) := by
  have hz : ∀ m p : Nat, (List.replicate m (0 : Int)).getD p 0 = 0 := fun m p => by
    rw [List.getD_eq_getElem?_getD, List.getElem?_replicate]; split <;> rfl
  refine ⟨by simp, by simp, hz _ _, fun s => by rw [hz]; omega, fun p => by rw [hz]; omega, fun p hp => by rw [hz] at hp; omega, fun p q hp => by rw [hz] at hp; omega, fun s hs => absurd (hz _ _) hs, fun s t _ h => absurd (hz _ _) h⟩

end Go.Proofs.Ytbmenldopeplcaa
