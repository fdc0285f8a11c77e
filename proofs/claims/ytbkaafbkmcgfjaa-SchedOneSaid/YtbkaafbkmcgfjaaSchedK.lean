/-
  The plain law of schedulers: processes by where they are and since when; who stands where, in order.
-/
import Derived.Test.YtbkaafbkmcgfjaaSchedJ
namespace Go.Proofs.Ytbkaafbkmcgfjaa
set_option linter.unusedVariables false

structure Pr where
  pr : Nat
  wh : Nat
  si : Nat

structure RS where
  P : List Pr
  sems : List Nat
  now : Nat

def gP (x : RS) (i : Nat) : Pr := x.P.getD i ⟨1, 0, 0⟩
def condR (x : RS) (wh pr t i : Nat) : Bool := (gP x i).wh == wh && (gP x i).si == t && (pr == 0 || (gP x i).pr == pr)
def atL (x : RS) (wh pr : Nat) : List Int := (List.range (x.now + 1)).flatMap fun t => ((List.range x.P.length).filter (condR x wh pr t)).map fun i => ((i : Nat) : Int) + 1
def putR (x : RS) (k w : Nat) : RS := { x with P := x.P.set k ⟨(gP x k).pr, w, x.now + 1⟩, now := x.now + 1 }
def actR (x : RS) : Nat := match x.P.findIdx? (fun q => q.wh == 1) with
  | some i => i + 1
  | none => 0

theorem gP_put_same {x : RS} {k : Nat} (hk : k < x.P.length) (w : Nat) : gP (putR x k w) k = ⟨(gP x k).pr, w, x.now + 1⟩ := by
  show (x.P.set k _).getD k _ = _
  simp [hk]
theorem gP_put_ne {x : RS} {k i : Nat} (hi : i ≠ k) (w : Nat) : gP (putR x k w) i = gP x i := by
  unfold gP putR
  simp only [List.getD_eq_getElem?_getD]
  rw [List.getElem?_set_ne (Ne.symm hi)]
theorem put_len (x : RS) (k w : Nat) : (putR x k w).P.length = x.P.length := by simp [putR]
theorem put_sems (x : RS) (k w : Nat) : (putR x k w).sems = x.sems := rfl

theorem flat_congr {α β : Type} {f g : α → List β} : ∀ {l : List α}, (∀ a ∈ l, f a = g a) → l.flatMap f = l.flatMap g
  | [], _ => rfl
  | a :: l, h => by rw [List.flatMap_cons, List.flatMap_cons, h a (by simp), flat_congr (fun b hb => h b (by simp [hb]))]

theorem filt_one (k : Nat) (b : Bool) : ∀ n, (List.range n).filter (fun i => decide (i = k) && b) = if b = true ∧ k < n then [k] else []
  | 0 => by simp
  | n + 1 => by
    rw [List.range_succ, List.filter_append, filt_one k b n]
    cases b with
    | false => simp
    | true =>
      by_cases h1 : k < n
      · rw [if_pos ⟨rfl, h1⟩, if_pos ⟨rfl, by omega⟩]
        simp [show n ≠ k from by omega]
      · rw [if_neg (fun h => h1 h.2)]
        by_cases h2 : n = k
        · subst h2; simp
        · rw [if_neg (fun h => h2 (by omega))]
          simp [h2]

theorem atL_put {x : RS} (hs : ∀ i, i < x.P.length → (gP x i).si ≤ x.now) {k : Nat} (hk : k < x.P.length) (w wh pr : Nat) :
    atL (putR x k w) wh pr = (atL x wh pr).filter (fun p => p != (k : Int) + 1) ++ (if w = wh ∧ (pr = 0 ∨ (gP x k).pr = pr) then [(k : Int) + 1] else []) := by
  unfold atL
  rw [put_len, show (putR x k w).now = x.now + 1 from rfl, List.range_succ, List.flatMap_append, List.filter_flatMap]
  congr 1
  · have : ∀ t ∈ List.range (x.now + 1), ((List.range x.P.length).filter (condR (putR x k w) wh pr t)).map (fun i => ((i : Nat) : Int) + 1) = (((List.range x.P.length).filter (condR x wh pr t)).map (fun i => ((i : Nat) : Int) + 1)).filter (fun p => p != (k : Int) + 1) := by
      intro t ht
      have ht := List.mem_range.1 ht
      rw [List.filter_map, List.filter_filter]
      congr 1
      apply List.filter_congr
      intro i hi
      by_cases hik : i = k
      · subst hik
        unfold condR
        rw [gP_put_same hk]
        simp
        omega
      · unfold condR
        rw [gP_put_ne hik]
        have : ((i : Int) + 1 != (k : Int) + 1) = true := by simp; omega
        simp [Function.comp, this]
    rw [flat_congr this]
  · rw [List.flatMap_cons, List.flatMap_nil, List.append_nil]
    have : (List.range x.P.length).filter (condR (putR x k w) wh pr (x.now + 1)) = (List.range x.P.length).filter (fun i => decide (i = k) && decide (w = wh ∧ (pr = 0 ∨ (gP x k).pr = pr))) := by
      apply List.filter_congr
      intro i hi
      have hi := List.mem_range.1 hi
      by_cases hik : i = k
      · subst hik
        unfold condR
        rw [gP_put_same hk]
        simp
        by_cases h1 : w = wh
        · simp [h1]; rfl
        · simp [h1]
      · unfold condR
        rw [gP_put_ne hik]
        have := hs i hi
        simp [hik]
        omega
    rw [this, filt_one]
    by_cases h : w = wh ∧ (pr = 0 ∨ (gP x k).pr = pr)
    · rw [if_pos ⟨decide_eq_true h, hk⟩, if_pos h]; rfl
    · rw [if_neg (fun hh => h (of_decide_eq_true hh.1)), if_neg h]; rfl

theorem mem_atL {x : RS} {wh pr : Nat} {p : Int} : p ∈ atL x wh pr ↔ ∃ i, i < x.P.length ∧ p = (i : Int) + 1 ∧ (gP x i).wh = wh ∧ (gP x i).si ≤ x.now ∧ (pr = 0 ∨ (gP x i).pr = pr) := by
  unfold atL condR
  simp only [List.mem_flatMap, List.mem_range, List.mem_map, List.mem_filter, Bool.and_eq_true, beq_iff_eq, Bool.or_eq_true]
  constructor
  · rintro ⟨t, ht, i, ⟨hi, ⟨h1, h2⟩, h3⟩, rfl⟩
    exact ⟨i, hi, rfl, h1, by omega, h3⟩
  · rintro ⟨i, hi, rfl, h1, h2, h3⟩
    exact ⟨(gP x i).si, by omega, i, ⟨hi, ⟨h1, rfl⟩, h3⟩, rfl⟩

theorem nodup_atL (x : RS) (wh pr : Nat) : (atL x wh pr).Nodup := by
  unfold atL List.Nodup
  rw [List.pairwise_flatMap]
  refine ⟨fun t ht => ?_, ?_⟩
  · rw [List.pairwise_map]
    have h : ((List.range x.P.length).filter (condR x wh pr t)).Pairwise (· ≠ ·) := List.Pairwise.filter _ List.nodup_range
    exact h.imp (fun {a b} hab e => hab (by omega))
  · have h : (List.range (x.now + 1)).Pairwise (· ≠ ·) := List.nodup_range
    refine h.imp (fun {a b} hab p hp q hq e => ?_)
    obtain ⟨i, hi, rfl⟩ := List.mem_map.1 hp
    obtain ⟨j, hj, rfl⟩ := List.mem_map.1 hq
    have hij : i = j := by omega
    subst hij
    have h1 := (List.mem_filter.1 hi).2
    have h2 := (List.mem_filter.1 hj).2
    unfold condR at h1 h2
    simp only [Bool.and_eq_true, beq_iff_eq] at h1 h2
    exact hab (h1.1.2.symm.trans h2.1.2)

theorem nodup_len : ∀ (n : Nat) {l : List Int}, l.Nodup → (∀ p ∈ l, 1 ≤ p ∧ p ≤ n) → l.length ≤ n
  | 0, l, _, h => by
    cases l with
    | nil => simp
    | cons p r => have := h p (by simp); omega
  | n + 1, l, hn, h => by
    have h1 := nodup_len n (l := l.erase ((n : Int) + 1)) (hn.erase _) (fun p hp => by
      have h2 := h p (List.mem_of_mem_erase hp)
      have h3 : p ≠ (n : Int) + 1 := fun e => by
        subst e
        exact (hn.not_mem_erase) hp
      omega)
    have h4 : l.length ≤ (l.erase ((n : Int) + 1)).length + 1 := by
      rw [List.length_erase]
      split <;> omega
    omega

theorem atL_len (x : RS) (wh pr : Nat) : (atL x wh pr).length ≤ x.P.length :=
  nodup_len _ (nodup_atL x wh pr) (fun p hp => by
    obtain ⟨i, hi, rfl, _⟩ := mem_atL.1 hp
    omega)

theorem filt_none {l : List Int} {p : Int} (h : p ∉ l) : l.filter (fun q => q != p) = l := by
  rw [List.filter_eq_self]
  intro q hq
  simp
  exact fun e => h (e ▸ hq)
theorem filt_erase {l : List Int} (h : l.Nodup) (p : Int) : dropL l p = l.filter (fun q => q != p) := h.erase_eq_filter p
theorem filt_head {l : List Int} {p : Int} (h : (p :: l).Nodup) : (p :: l).filter (fun q => q != p) = l := by
  rw [List.filter_cons, if_neg (by simp)]
  exact filt_none (List.nodup_cons.1 h).1

theorem act_cases (x : RS) : (actR x = 0 ∧ ∀ i, i < x.P.length → (gP x i).wh ≠ 1) ∨ ∃ a, a < x.P.length ∧ (gP x a).wh = 1 ∧ actR x = a + 1 := by
  unfold actR
  cases h : x.P.findIdx? (fun q => q.wh == 1) with
  | none =>
    refine .inl ⟨rfl, fun i hi => ?_⟩
    rw [List.findIdx?_eq_none_iff] at h
    have := h _ (List.getElem_mem hi)
    unfold gP
    simpa [List.getD_eq_getElem?_getD, List.getElem?_eq_getElem hi] using this
  | some a =>
    rw [List.findIdx?_eq_some_iff_getElem] at h
    obtain ⟨ha, h1, _⟩ := h
    refine .inr ⟨a, ha, ?_, rfl⟩
    unfold gP
    simpa [List.getD_eq_getElem?_getD, List.getElem?_eq_getElem ha] using h1

/-- All but that none is ready without an active one. -/
structure Inv0 (B : Nat) (x : RS) : Prop where
  n : x.P.length ≤ 100
  m : x.sems.length ≤ 100
  pr : ∀ i, i < x.P.length → 1 ≤ (gP x i).pr ∧ (gP x i).pr ≤ 8
  si : ∀ i, i < x.P.length → (gP x i).si ≤ x.now
  wh : ∀ i, i < x.P.length → (gP x i).wh ≤ 2 + x.sems.length
  uq : ∀ i j, i < x.P.length → j < x.P.length → (gP x i).wh = 1 → (gP x j).wh = 1 → i = j
  sg : ∀ i j, i < x.P.length → (gP x i).wh = 3 + j → x.sems.getD j 0 = 0
  sb : ∀ j, x.sems.getD j 0 ≤ B
structure Inv (B : Nat) (x : RS) : Prop extends Inv0 B x where
  top : ∀ i, i < x.P.length → (gP x i).wh = 2 → ∃ a, a < x.P.length ∧ (gP x a).wh = 1 ∧ (gP x i).pr ≤ (gP x a).pr

theorem act_is {B : Nat} {x : RS} (h : Inv0 B x) {a : Nat} (ha : a < x.P.length) (hw : (gP x a).wh = 1) : actR x = a + 1 := by
  rcases act_cases x with ⟨_, h2⟩ | ⟨b, hb, h2, h3⟩
  · exact absurd hw (h2 a ha)
  · rw [h3, h.uq a b ha hb hw h2]
theorem act_zero {x : RS} (h : ∀ i, i < x.P.length → (gP x i).wh ≠ 1) : actR x = 0 := by
  rcases act_cases x with ⟨h2, _⟩ | ⟨b, hb, h2, h3⟩
  · exact h2
  · exact absurd h2 (h b hb)

/-- What the program holds. -/
def ssR (x : RS) : SS := {
  prior := x.P.map (fun q => (q.pr : Int))
  idle := x.P.map (fun q => decide (q.wh = 0))
  ready := fun i => if 1 ≤ i ∧ i ≤ 8 then atL x 2 i else []
  ns := x.sems.length
  sq := fun j => atL x (3 + j) 0
  sig := fun j => (x.sems.getD j 0 : Nat)
  act := (actR x : Int) }

theorem WF.of {B : Nat} {x : RS} (h : Inv0 B x) (hB : B ≤ 1000000) : WF (ssR x) := by
  have hn := h.n
  refine ⟨by simp [ssR], by simpa [ssR] using h.n, ?_, by simp [ssR], ?_, fun i => ?_, fun i p hp => ?_, h.m, fun j => ?_, fun j p hp => ?_, fun j => ?_⟩
  · intro p hp
    obtain ⟨q, hq, rfl⟩ := List.mem_map.1 hp
    obtain ⟨i, hi, rfl⟩ := List.getElem_of_mem hq
    have := h.pr i hi
    unfold gP at this
    rw [List.getD_eq_getElem?_getD, List.getElem?_eq_getElem hi] at this
    simp only [Option.getD_some] at this
    omega
  · show (actR x : Int) ≤ (x.P.map _).length
    rw [List.length_map]
    rcases act_cases x with ⟨h2, _⟩ | ⟨b, hb, h2, h3⟩ <;> omega
  · show (if 1 ≤ i ∧ i ≤ 8 then atL x 2 i else []).length ≤ 500
    split
    · have := atL_len x 2 i; omega
    · simp
  · change p ∈ (if 1 ≤ i ∧ i ≤ 8 then atL x 2 i else []) at hp
    show 1 ≤ p ∧ p ≤ ((x.P.map _).length : Nat)
    rw [List.length_map]
    split at hp
    · obtain ⟨k, hk, rfl, _⟩ := mem_atL.1 hp
      omega
    · simp at hp
  · have := atL_len x (3 + j) 0
    show (atL x (3 + j) 0).length ≤ 500
    omega
  · obtain ⟨k, hk, rfl, _⟩ := mem_atL.1 hp
    show 1 ≤ (k : Int) + 1 ∧ (k : Int) + 1 ≤ ((x.P.map _).length : Nat)
    rw [List.length_map]
    omega
  · have := h.sb j
    show 0 ≤ ((x.sems.getD j 0 : Nat) : Int) ∧ ((x.sems.getD j 0 : Nat) : Int) ≤ 1000000
    omega

end Go.Proofs.Ytbkaafbkmcgfjaa
