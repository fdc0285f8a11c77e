/-
  The plain law of a heap: moved together, all of it.
-/
import Derived.Test.YtcecegcbkcdpjaaHeapSI
namespace Go.Proofs.Ytcecegcbkcdpjaa
open Go.RowKit
set_option linter.unusedVariables false
set_option maxHeartbeats 4000000

theorem compTo_app (S : HpS) (l : List Nat) (k : Nat) : compTo S (l ++ [k]) = compS (compTo S l) k := by
  unfold compTo; rw [List.foldl_append]; rfl
theorem comp_to {S : HpS} (l : List Nat) : Lined S l → l.Nodup → (∀ k ∈ l, k < S.bl.length ∧ atOf S k + nOf S k ≤ S.ws.length) → CompI S l (compTo S l) := by
  induction l using snoc_ind with
  | h0 => exact fun _ _ _ => ⟨rfl, rfl, rfl, fun k => ⟨rfl, rfl⟩, fun k _ => rfl, fun k hk => by simp at hk, rfl, fun k hk => by simp at hk, List.Pairwise.nil, fun k hk => by simp at hk, fun p _ => ⟨Nat.zero_le _, fun i _ => rfl⟩, Nat.le_refl _⟩
  | h1 l k ih =>
    intro h hd hf
    obtain ⟨h1, _, h2⟩ := List.pairwise_append.1 h
    obtain ⟨d1, _, d2⟩ := List.nodup_append.1 hd
    rw [compTo_app]
    refine comp_step (ih h1 d1 (fun j hj => hf j (List.mem_append_left _ hj))) (fun hk => d2 k hk k (by simp) rfl) (hf k (by simp)).1 (hf k (by simp)).2 (fun j hj hn hk => h2 j hj k (by simp) hn hk)
theorem compOk_of {S : HpS} {L : List Nat} (hI : Inv S) (hL : OrdG S L) (hws : S.ws.length = S.N) : CompOk S L := by
  have hlin := lined_of hI hL
  have hnd := hL.nodup
  have hfL : ∀ k ∈ L, k < S.bl.length ∧ atOf S k + nOf S k ≤ S.ws.length := fun k hk => by
    have := hL.1.mem_iff.1 hk
    obtain ⟨h1, _⟩ := usd_lt (mem_used.1 this)
    exact ⟨h1, by rw [hws]; exact hI.fit k this⟩
  intro j hj
  have hsub : (L.take j).Sublist L := List.take_sublist _ _
  have hC := comp_to (L.take j) (List.Pairwise.sublist hsub hlin) (List.Nodup.sublist hsub hnd) (fun k hk => hfL k (hsub.mem hk))
  have hnot : L[j] ∉ L.take j := by
    have h1 : (L.take (j + 1)).Nodup := List.Nodup.sublist (List.take_sublist _ _) hnd
    rw [List.take_succ_eq_append_getElem hj] at h1
    obtain ⟨_, _, d2⟩ := List.nodup_append.1 h1
    exact fun h => d2 _ h _ (by simp) rfl
  obtain ⟨f1, f2⟩ := hfL _ (List.getElem_mem hj)
  rw [hC.out _ hnot, (hC.n _).1]
  refine ⟨f1, by omega, fun hn => ?_, ?_⟩
  · refine (hC.beyond _ (fun i hi hn2 => ?_)).1
    have h1 : Lined S (L.take (j + 1)) := List.Pairwise.sublist (List.take_sublist _ _) hlin
    rw [List.take_succ_eq_append_getElem hj] at h1
    exact (List.pairwise_append.1 h1).2.2 i hi _ (by simp) hn2 hn
  · refine (hC.beyond S.N (fun i hi hn2 => ?_)).1
    have := (hfL i (hsub.mem hi)).2
    omega

theorem pw_dist {α : Type} {R : α → α → Prop} {L : List α} (h : L.Pairwise R) {x y : α} (hx : x ∈ L) (hy : y ∈ L) (hxy : x ≠ y) : R x y ∨ R y x := by
  induction h with
  | nil => cases hx
  | cons h1 h2 ih =>
    rcases List.mem_cons.1 hx with ex | hx2
    · rcases List.mem_cons.1 hy with ey | hy2
      · exact absurd (ex.trans ey.symm) hxy
      · rw [ex]; exact .inl (h1 y hy2)
    · rcases List.mem_cons.1 hy with ey | hy2
      · rw [ey]; exact .inr (h1 x hx2)
      · exact ih hx2 hy2
theorem usedN_congr {b1 b2 : List Blk} (h : ∀ k : Nat, ((b1[k]?).map Blk.used).getD false = ((b2[k]?).map Blk.used).getD false) : ∀ k, usedN b1 k = usedN b2 k
  | 0 => rfl
  | k + 1 => by unfold usedN; rw [h k, usedN_congr h k]
theorem allOf_mem {g : List (Nat × Nat)} : ∀ x ∈ g, x.2 ≤ allOf g := by
  induction g using snoc_ind with
  | h0 => intro x hx; cases hx
  | h1 g y ih =>
    intro x hx
    rw [allOf_app]
    rcases List.mem_append.1 hx with hx | hx
    · have := ih x hx; omega
    · simp at hx; subst hx; omega
theorem sumN_perm {S : HpS} {L M : List Nat} (h : L.Perm M) : sumN S L = sumN S M := by
  unfold sumN
  induction h with
  | nil => rfl
  | cons x _ ih => simp [ih]
  | swap x y l => simp; omega
  | trans _ _ ih1 ih2 => exact ih1.trans ih2

/-- All that is told of a heap whose blocks were moved together. -/
structure Moved (S C : HpS) (L : List Nat) : Prop where
  inv : Inv C
  used : usedL C = usedL S
  N : C.N = S.N
  ws : C.ws.length = S.ws.length
  bl : C.bl.length = S.bl.length
  n : ∀ k, nOf C k = nOf S k
  at_ : ∀ k ∈ L, atOf C k ≤ atOf S k
  word : ∀ k ∈ L, ∀ i, i < nOf S k → word C k i = word S k i
  order : ∀ x ∈ L, ∀ y ∈ L, x ≠ y → 0 < nOf S x → 0 < nOf S y → (atOf C x < atOf C y ↔ atOf S x < atOf S y)
  end_ : ∀ k ∈ L, 0 < nOf S k → atOf C k + nOf C k ≤ sumN S L
theorem moved_of {S : HpS} {L : List Nat} (hI : Inv S) (hL : OrdG S L) (hws : S.ws.length = S.N) : Moved S (compTo S L).1 L ∧ (compTo S L).2.1 ≤ L.length := by
  have hlin := lined_of hI hL
  have hfL : ∀ k ∈ L, k < S.bl.length ∧ atOf S k + nOf S k ≤ S.ws.length := fun k hk => by
    have := hL.1.mem_iff.1 hk
    obtain ⟨h1, _⟩ := usd_lt (mem_used.1 this)
    exact ⟨h1, by rw [hws]; exact hI.fit k this⟩
  have hC := comp_to L hlin hL.nodup hfL
  generalize compTo S L = A at *
  obtain ⟨C, mv, en⟩ := A
  have hen : en ≤ S.N := (hC.beyond S.N (fun j hj _ => by have := (hfL j hj).2; omega)).1
  have hus : usedL C = usedL S := by
    unfold usedL
    rw [show C.bl.length = S.bl.length from hC.bl]
    exact usedN_congr (fun k => (hC.n k).2) _
  have hn : ∀ k, nOf C k = nOf S k := fun k => (hC.n k).1
  have hsum := hC.sum
  simp only at hsum
  have hat : ∀ k ∈ L, atOf C k ≤ atOf S k := fun k hk => by
    by_cases h0 : nOf S k = 0
    · exact Nat.le_of_eq (hC.nil k hk h0)
    · exact (hC.le k hk (by omega)).2
  show Moved S C L ∧ mv ≤ L.length
  refine ⟨⟨⟨fun k hk => ?_, fun k hk j hj hkj h1 h2 => ?_⟩, hus, hC.N, hC.ws, hC.bl, hn, hat, hC.word, fun x hx y hy hxy h1 h2 => ?_, fun k hk h0 => ?_⟩, hC.moved⟩
  · rw [hus] at hk
    have hkL := hL.1.mem_iff.2 hk
    rw [hn, show C.N = S.N from hC.N]
    by_cases h0 : nOf S k = 0
    · have := hC.nil k hkL h0
      simp only at this
      rw [this]; exact hI.fit k hk
    · have := (hC.le k hkL (by omega)).1
      simp only at this
      omega
  · rw [hus] at hk hj
    rw [hn] at h1 h2
    rw [hn, hn]
    rcases pw_dist hC.lined (hL.1.mem_iff.2 hk) (hL.1.mem_iff.2 hj) hkj with h | h
    · exact .inl (h h1 h2)
    · exact .inr (h h2 h1)
  · have hp := List.pairwise_and_iff.2 ⟨hC.lined, hlin⟩
    rcases pw_dist hp hx hy hxy with ⟨h3, h4⟩ | ⟨h3, h4⟩
    · have := h3 h1 h2; have := h4 h1 h2; simp only at *; omega
    · have := h3 h2 h1; have := h4 h2 h1; simp only at *; omega
  · have := (hC.le k hk h0).1
    simp only at this
    rw [hn]; omega
/-- All that is free stands side by side; and moved again nothing moves. -/
theorem moved_again {S C : HpS} {L L' : List Nat} (h : Moved S C L) (hI : Inv S) (hL : OrdG S L) (hL' : OrdG C L') :
    allOf (gapsOf C L') = S.N - sumN S L ∧ mostOf (gapsOf C L') = S.N - sumN S L ∧ (compTo C L').2.1 = 0 ∧ (compTo C L').1 = C ∧ allOf (gapsOf S L) = S.N - sumN S L := by
  have hlin := lined_of h.inv hL'
  have hG := gaps_to L' hlin
  have hmem : ∀ j, j ∈ L' ↔ j ∈ L := fun j => by rw [hL'.1.mem_iff, hL.1.mem_iff, h.used]
  have hs : sumN C L' = sumN S L := by
    have h1 : sumN C L' = sumN S L' := by unfold sumN; congr 1; exact List.map_congr_left (fun k _ => h.n k)
    rw [h1]
    exact sumN_perm (hL'.1.trans (by rw [h.used]; exact hL.1.symm))
  have hle : (gapsTo C L').2 ≤ sumN S L := hG.least _ (fun j hj hn => h.end_ j ((hmem j).1 hj) (by rw [← h.n]; exact hn))
  have hsum := hG.sum
  rw [hs] at hsum
  have hnil : (gapsTo C L').1 = [] := by
    cases hg : (gapsTo C L').1 with
    | nil => rfl
    | cons x r =>
      have h1 := allOf_mem (g := (gapsTo C L').1) x (by rw [hg]; simp)
      have h2 := (hG.free x (by rw [hg]; simp)).1
      omega
  have hend : (gapsTo C L').2 = sumN S L := by rw [hnil] at hsum; simp [allOf] at hsum; omega
  have hfL : ∀ k ∈ L, atOf S k + nOf S k ≤ S.N := fun k hk => hI.fit k (hL.1.mem_iff.1 hk)
  obtain ⟨_, hS⟩ := gaps_of (lined_of hI hL) hfL
  have hgo : gapsOf C L' = if sumN S L < S.N then [(sumN S L, S.N - sumN S L)] else [] := by
    unfold gapsOf
    rw [hnil, hend, h.N]
    rfl
  have htw : ∀ l : List Nat, Lined C l → (gapsTo C l).1 = [] → compTo C l = (C, 0, (gapsTo C l).2) := by
    intro l
    induction l using snoc_ind with
    | h0 => exact fun _ _ => rfl
    | h1 l k ih =>
      intro hl hz
      obtain ⟨h1, _, h2⟩ := List.pairwise_append.1 hl
      have hGl := gaps_to l h1
      rw [gapsTo_app] at hz ⊢
      rw [compTo_app]
      have hz1 : (gapsTo C l).1 = [] := by
        unfold gapS at hz
        split at hz
        · split at hz
          · simp at hz
          · exact hz
        · exact hz
      rw [ih h1 hz1]
      unfold gapS at hz ⊢
      unfold compS
      simp only
      by_cases h0 : nOf C k = 0
      · rw [if_pos h0, if_neg (by omega)]
      · rw [if_neg h0]
        rw [if_pos (show 0 < nOf C k by omega)] at hz ⊢
        have hle2 : (gapsTo C l).2 ≤ atOf C k := hGl.least _ (fun j hj hn => h2 j hj k (by simp) hn (by omega))
        by_cases h3 : (gapsTo C l).2 < atOf C k
        · rw [if_pos h3] at hz; simp at hz
        · have h4 : atOf C k = (gapsTo C l).2 := by omega
          rw [if_pos h4]
          simp only
          rw [h4]
  have htw2 := htw L' hlin hnil
  refine ⟨?_, ?_, by rw [htw2], by rw [htw2], by omega⟩
  · rw [hgo]; split
    · simp [allOf]
    · simp [allOf]; omega
  · rw [hgo]; split
    · simp [mostOf]
    · simp [mostOf]; omega

end Go.Proofs.Ytcecegcbkcdpjaa
