/-
  The plain law of a heap: what is free is apart from what is used; blocks that are moved together.
-/
import Derived.Test.YtcecegcbkcdpjaaHeapSG
namespace Go.Proofs.Ytcecegcbkcdpjaa
open Go.RowKit
set_option linter.unusedVariables false
set_option maxHeartbeats 4000000

theorem mem_usedN (bl : List Blk) : ∀ k x, x ∈ usedN bl k ↔ x < k ∧ ((bl[x]?).map Blk.used).getD false = true
  | 0, x => by simp [usedN]
  | k + 1, x => by
    unfold usedN
    split
    · next h =>
      rw [List.mem_append, mem_usedN bl k x, List.mem_singleton]
      constructor
      · rintro (⟨h1, h2⟩ | rfl)
        · exact ⟨by omega, h2⟩
        · exact ⟨by omega, h⟩
      · rintro ⟨h1, h2⟩
        by_cases hx : x = k
        · exact .inr hx
        · exact .inl ⟨by omega, h2⟩
    · next h =>
      rw [mem_usedN bl k x]
      constructor
      · rintro ⟨h1, h2⟩; exact ⟨by omega, h2⟩
      · rintro ⟨h1, h2⟩
        refine ⟨?_, h2⟩
        by_cases hx : x = k
        · subst hx; exact absurd h2 h
        · omega
theorem nodup_usedN (bl : List Blk) : ∀ k, (usedN bl k).Nodup
  | 0 => by simp [usedN]
  | k + 1 => by
    unfold usedN
    split
    · rw [List.nodup_append]
      exact ⟨nodup_usedN bl k, by simp, fun a ha b hb => by have := usedN_lt bl k a ha; simp at hb; omega⟩
    · exact nodup_usedN bl k
def usd (S : HpS) (k : Nat) : Bool := ((S.bl[k]?).map Blk.used).getD false
theorem mem_used {S : HpS} {k : Nat} : k ∈ usedL S ↔ usd S k = true := by
  unfold usedL usd
  rw [mem_usedN]
  constructor
  · exact fun h => h.2
  · intro h
    refine ⟨?_, h⟩
    by_cases hk : k < S.bl.length
    · exact hk
    · rw [List.getElem?_eq_none (by omega)] at h; cases h
theorem usd_lt {S : HpS} {k : Nat} (h : usd S k = true) : ∃ hk : k < S.bl.length, S.bl[k].used = true := by
  unfold usd at h
  by_cases hk : k < S.bl.length
  · rw [List.getElem?_eq_getElem hk] at h; exact ⟨hk, h⟩
  · rw [List.getElem?_eq_none (by omega)] at h; cases h

/-- Blocks in use lie within, and apart. -/
structure Inv (S : HpS) : Prop where
  fit : ∀ k ∈ usedL S, atOf S k + nOf S k ≤ S.N
  apart : ∀ k ∈ usedL S, ∀ j ∈ usedL S, k ≠ j → 0 < nOf S k → 0 < nOf S j → atOf S k + nOf S k ≤ atOf S j ∨ atOf S j + nOf S j ≤ atOf S k
def Lined (S : HpS) (L : List Nat) : Prop := L.Pairwise (fun i j => 0 < nOf S i → 0 < nOf S j → atOf S i + nOf S i ≤ atOf S j)
theorem OrdG.nodup {S : HpS} {L : List Nat} (h : OrdG S L) : L.Nodup := h.1.nodup_iff.2 (nodup_usedN _ _)
theorem lined_of {S : HpS} {L : List Nat} (hI : Inv S) (h : OrdG S L) : Lined S L := by
  have h1 : L.Pairwise (fun i j => atOf S i ≤ atOf S j ∧ i ≠ j) := List.pairwise_and_iff.2 ⟨h.2, h.nodup⟩
  refine List.Pairwise.imp_of_mem ?_ h1
  intro i j hi hj ⟨h2, h3⟩ h4 h5
  rcases hI.apart i (h.1.mem_iff.1 hi) j (h.1.mem_iff.1 hj) h3 h4 h5 with h6 | h6 <;> omega

def sumN (S : HpS) (L : List Nat) : Nat := (L.map (nOf S)).sum
theorem sumN_app (S : HpS) (L M : List Nat) : sumN S (L ++ M) = sumN S L + sumN S M := by simp [sumN]
theorem allOf_app (g : List (Nat × Nat)) (x : Nat × Nat) : allOf (g ++ [x]) = allOf g + x.2 := by simp [allOf]

structure GapI (S : HpS) (l : List Nat) (a : List (Nat × Nat) × Nat) : Prop where
  le : ∀ j ∈ l, 0 < nOf S j → atOf S j + nOf S j ≤ a.2
  least : ∀ x, (∀ j ∈ l, 0 < nOf S j → atOf S j + nOf S j ≤ x) → a.2 ≤ x
  free : ∀ g ∈ a.1, 0 < g.2 ∧ g.1 + g.2 ≤ a.2 ∧ ∀ j ∈ l, 0 < nOf S j → atOf S j + nOf S j ≤ g.1 ∨ g.1 + g.2 ≤ atOf S j
  sum : allOf a.1 + sumN S l = a.2
theorem gap_step {S : HpS} {l : List Nat} {a : List (Nat × Nat) × Nat} {k : Nat} (h : GapI S l a) (hk : ∀ j ∈ l, 0 < nOf S j → 0 < nOf S k → atOf S j + nOf S j ≤ atOf S k) : GapI S (l ++ [k]) (gapS S a k) := by
  unfold gapS
  by_cases h0 : 0 < nOf S k
  · rw [if_pos h0]
    have he : a.2 ≤ atOf S k := h.least _ (fun j hj hn => hk j hj hn h0)
    have hsum := h.sum
    by_cases h1 : a.2 < atOf S k
    · rw [if_pos h1]
      refine ⟨?_, ?_, ?_, ?_⟩
      · intro j hj hn
        rcases List.mem_append.1 hj with hj | hj
        · have := h.le j hj hn; simp only; omega
        · simp at hj; subst hj; exact Nat.le_refl _
      · intro x hx
        exact hx k (by simp) h0
      · intro g hg
        rcases List.mem_append.1 hg with hg | hg
        · obtain ⟨g1, g2, g3⟩ := h.free g hg
          refine ⟨g1, by simp only; omega, fun j hj hn => ?_⟩
          rcases List.mem_append.1 hj with hj | hj
          · exact g3 j hj hn
          · simp at hj; subst hj; exact .inr (by omega)
        · simp at hg; subst hg
          refine ⟨by simp only; omega, by simp only; omega, fun j hj hn => ?_⟩
          rcases List.mem_append.1 hj with hj | hj
          · exact .inl (h.le j hj hn)
          · simp at hj; subst hj; exact .inr (by simp only; omega)
      · rw [allOf_app, sumN_app]
        simp [sumN] at hsum ⊢; omega
    · rw [if_neg h1]
      refine ⟨?_, ?_, ?_, ?_⟩
      · intro j hj hn
        rcases List.mem_append.1 hj with hj | hj
        · have := h.le j hj hn; simp only; omega
        · simp at hj; subst hj; exact Nat.le_refl _
      · intro x hx
        exact hx k (by simp) h0
      · intro g hg
        obtain ⟨g1, g2, g3⟩ := h.free g hg
        refine ⟨g1, by simp only; omega, fun j hj hn => ?_⟩
        rcases List.mem_append.1 hj with hj | hj
        · exact g3 j hj hn
        · simp at hj; subst hj; exact .inr (by omega)
      · rw [sumN_app]
        simp [sumN] at hsum ⊢; omega
  · rw [if_neg h0]
    have hz : nOf S k = 0 := by omega
    refine ⟨?_, ?_, ?_, ?_⟩
    · intro j hj hn
      rcases List.mem_append.1 hj with hj | hj
      · exact h.le j hj hn
      · simp at hj; subst hj; omega
    · intro x hx
      exact h.least x (fun j hj hn => hx j (List.mem_append_left _ hj) hn)
    · intro g hg
      obtain ⟨g1, g2, g3⟩ := h.free g hg
      refine ⟨g1, g2, fun j hj hn => ?_⟩
      rcases List.mem_append.1 hj with hj | hj
      · exact g3 j hj hn
      · simp at hj; subst hj; omega
    · rw [sumN_app, ← h.sum]
      simp [sumN, hz]
theorem snoc_ind {α : Type} {P : List α → Prop} (h0 : P []) (h1 : ∀ l k, P l → P (l ++ [k])) (l : List α) : P l := by
  rw [← List.reverse_reverse l]
  generalize l.reverse = r
  induction r with
  | nil => exact h0
  | cons x xs ih => rw [List.reverse_cons]; exact h1 _ _ ih
theorem gapsTo_app (S : HpS) (l : List Nat) (k : Nat) : gapsTo S (l ++ [k]) = gapS S (gapsTo S l) k := by
  unfold gapsTo; rw [List.foldl_append]; rfl
theorem gaps_to {S : HpS} (l : List Nat) : Lined S l → GapI S l (gapsTo S l) := by
  induction l using snoc_ind with
  | h0 => exact fun _ => ⟨fun j hj => by simp at hj, fun x _ => Nat.zero_le _, fun g hg => by simp [gapsTo] at hg, rfl⟩
  | h1 l k ih =>
    intro h
    obtain ⟨h1, _, h2⟩ := List.pairwise_append.1 h
    rw [gapsTo_app]
    exact gap_step (ih h1) (fun j hj hn hk => h2 j hj k (by simp) hn hk)
/-- What is free, all told. -/
theorem gaps_of {S : HpS} {L : List Nat} (h : Lined S L) (hf : ∀ k ∈ L, atOf S k + nOf S k ≤ S.N) :
    (∀ g ∈ gapsOf S L, 0 < g.2 ∧ g.1 + g.2 ≤ S.N ∧ ∀ j ∈ L, 0 < nOf S j → atOf S j + nOf S j ≤ g.1 ∨ g.1 + g.2 ≤ atOf S j) ∧ allOf (gapsOf S L) + sumN S L = S.N := by
  have hG := gaps_to L h
  have he : (gapsTo S L).2 ≤ S.N := hG.least _ (fun j hj _ => hf j hj)
  have hsum := hG.sum
  unfold gapsOf
  by_cases h1 : (gapsTo S L).2 < S.N
  · rw [if_pos h1]
    refine ⟨fun g hg => ?_, ?_⟩
    · rcases List.mem_append.1 hg with hg | hg
      · obtain ⟨g1, g2, g3⟩ := hG.free g hg
        exact ⟨g1, by omega, g3⟩
      · simp at hg; subst hg
        exact ⟨by simp only; omega, by simp only; omega, fun j hj hn => .inl (hG.le j hj hn)⟩
    · rw [allOf_app]; simp only; omega
  · rw [if_neg h1]
    refine ⟨fun g hg => ?_, by omega⟩
    obtain ⟨g1, g2, g3⟩ := hG.free g hg
    exact ⟨g1, by omega, g3⟩
theorem most_le (g : List (Nat × Nat)) : mostOf g ≤ allOf g := by
  induction g using snoc_ind with
  | h0 => exact Nat.le_refl _
  | h1 g x ih =>
    have e1 : mostOf (g ++ [x]) = max (mostOf g) x.2 := by simp [mostOf]
    rw [e1, allOf_app]
    omega

end Go.Proofs.Ytcecegcbkcdpjaa
