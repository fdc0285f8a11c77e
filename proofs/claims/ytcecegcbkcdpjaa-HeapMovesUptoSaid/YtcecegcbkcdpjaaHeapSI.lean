/-
  The plain law of a heap: each step keeps blocks apart; what moving together does.
-/
import Derived.Test.YtcecegcbkcdpjaaHeapSH
namespace Go.Proofs.Ytcecegcbkcdpjaa
open Go.RowKit
set_option linter.unusedVariables false
set_option maxHeartbeats 4000000

theorem inv_new (N : Nat) : Inv (newH N) := ⟨fun k hk => by simp [usedL, newH, usedN] at hk, fun k hk => by simp [usedL, newH, usedN] at hk⟩
theorem freeIx_le (S : HpS) : freeIx S ≤ S.bl.length := List.findIdx_le_length
theorem freeIx_free (S : HpS) : usd S (freeIx S) = false := by
  unfold usd
  by_cases h : freeIx S < S.bl.length
  · rw [List.getElem?_eq_getElem h]
    have h2 : (!(S.bl[freeIx S]'h).used) = true := List.findIdx_getElem (w := h) (p := fun b : Blk => !b.used) (xs := S.bl)
    show (S.bl[freeIx S]'h).used = false
    cases hu : (S.bl[freeIx S]'h).used
    · rfl
    · rw [hu] at h2; cases h2
  · rw [List.getElem?_eq_none (by omega)]; rfl
theorem allocS_get (S : HpS) (p m k : Nat) : (allocS S p m).bl[k]? = if k = freeIx S then some ⟨p, m, true⟩ else S.bl[k]? := by
  unfold allocS
  have hle := freeIx_le S
  by_cases h : freeIx S < S.bl.length
  · simp only [if_pos h]
    rw [List.getElem?_set]
    by_cases hk : k = freeIx S
    · subst hk; rw [if_pos rfl, if_pos h, if_pos rfl]
    · rw [if_neg (Ne.symm hk), if_neg hk]
  · simp only [if_neg h]
    have he : freeIx S = S.bl.length := by omega
    by_cases hk : k = freeIx S
    · rw [if_pos hk, hk, he, List.getElem?_append_right (Nat.le_refl _), Nat.sub_self]; rfl
    · rw [if_neg hk]
      by_cases hlt : k < S.bl.length
      · rw [List.getElem?_append_left hlt]
      · rw [List.getElem?_eq_none (by rw [List.length_append]; simp; omega), List.getElem?_eq_none (by omega)]
theorem allocS_usd (S : HpS) (p m k : Nat) : usd (allocS S p m) k = (decide (k = freeIx S) || usd S k) := by
  unfold usd
  rw [allocS_get]
  by_cases hk : k = freeIx S
  · rw [if_pos hk]; simp [hk]
  · rw [if_neg hk]; simp [hk]
theorem allocS_at (S : HpS) (p m k : Nat) : atOf (allocS S p m) k = if k = freeIx S then p else atOf S k := by
  unfold atOf; rw [allocS_get]; split <;> rfl
theorem allocS_n (S : HpS) (p m k : Nat) : nOf (allocS S p m) k = if k = freeIx S then m else nOf S k := by
  unfold nOf; rw [allocS_get]; split <;> rfl
theorem placeI_mem {gs : List (Nat × Nat)} {m p : Nat} (h : placeI gs m = (p : Nat)) (hm : 0 < m) : ∃ c, (p, c) ∈ gs ∧ m ≤ c := by
  unfold placeI at h
  rw [if_neg (by omega)] at h
  cases hf : gs.find? (fun g => decide (m ≤ g.2)) with
  | none => rw [hf] at h; simp at h
  | some g =>
    rw [hf] at h
    have h1 := List.find?_some hf
    have h2 := List.mem_of_find?_eq_some hf
    simp only [decide_eq_true_eq] at h1
    obtain ⟨s, c⟩ := g
    have : s = p := by simp at h; omega
    subst this
    exact ⟨c, h2, h1⟩
theorem inv_alloc {S : HpS} {L : List Nat} {p m : Nat} (hI : Inv S) (hL : OrdG S L) (hp : placeI (gapsOf S L) m = (p : Nat)) : Inv (allocS S p m) := by
  have hlin := lined_of hI hL
  have hfL : ∀ k ∈ L, atOf S k + nOf S k ≤ S.N := fun k hk => hI.fit k (hL.1.mem_iff.1 hk)
  obtain ⟨hg, _⟩ := gaps_of hlin hfL
  have hfree := freeIx_free S
  have hnew : p + m ≤ S.N ∧ (0 < m → ∀ j ∈ usedL S, 0 < nOf S j → atOf S j + nOf S j ≤ p ∨ p + m ≤ atOf S j) := by
    by_cases h0 : 0 < m
    · obtain ⟨c, hc, hmc⟩ := placeI_mem hp h0
      obtain ⟨_, g2, g3⟩ := hg _ hc
      simp only at g2 g3
      refine ⟨by omega, fun _ j hj hn => ?_⟩
      rcases g3 j (hL.1.mem_iff.2 hj) hn with h | h
      · exact .inl h
      · exact .inr (by omega)
    · have hm0 : m = 0 := by omega
      subst hm0
      have : p = 0 := by unfold placeI at hp; simp at hp; omega
      subst this
      exact ⟨Nat.zero_le _, fun h => absurd h (by decide)⟩
  refine ⟨fun k hk => ?_, fun k hk j hj hkj => ?_⟩
  · rw [allocS_at, allocS_n]
    by_cases hkf : k = freeIx S
    · rw [if_pos hkf, if_pos hkf]; exact hnew.1
    · rw [if_neg hkf, if_neg hkf]
      rw [mem_used, allocS_usd] at hk
      simp only [decide_eq_false hkf, Bool.false_or] at hk
      exact hI.fit k (mem_used.2 hk)
  · rw [allocS_at, allocS_n, allocS_at, allocS_n]
    rw [mem_used, allocS_usd] at hk hj
    by_cases hkf : k = freeIx S
    · have hjf : ¬ j = freeIx S := fun h => hkj (hkf.trans h.symm)
      rw [if_pos hkf, if_pos hkf, if_neg hjf, if_neg hjf]
      simp only [decide_eq_false hjf, Bool.false_or] at hj
      intro h1 h2
      exact (hnew.2 h1 j (mem_used.2 hj) h2).symm
    · rw [if_neg hkf, if_neg hkf]
      simp only [decide_eq_false hkf, Bool.false_or] at hk
      by_cases hjf : j = freeIx S
      · rw [if_pos hjf, if_pos hjf]
        intro h1 h2
        exact hnew.2 h2 k (mem_used.2 hk) h1
      · rw [if_neg hjf, if_neg hjf]
        simp only [decide_eq_false hjf, Bool.false_or] at hj
        exact hI.apart k (mem_used.2 hk) j (mem_used.2 hj) hkj
theorem freeS_get (S : HpS) (m k : Nat) : (freeS S m).bl[k]? = if k = m then (S.bl[k]?).map (fun b => { b with used := false }) else S.bl[k]? := by
  unfold freeS
  by_cases hm : m < S.bl.length
  · rw [dif_pos hm]
    simp only
    rw [List.getElem?_set]
    by_cases hk : k = m
    · subst hk; rw [if_pos rfl, if_pos hm, if_pos rfl, List.getElem?_eq_getElem hm]; rfl
    · rw [if_neg (Ne.symm hk), if_neg hk]
  · rw [dif_neg hm]
    by_cases hk : k = m
    · subst hk; rw [if_pos rfl, List.getElem?_eq_none (by omega)]; rfl
    · rw [if_neg hk]
theorem freeS_at (S : HpS) (m k : Nat) : atOf (freeS S m) k = atOf S k ∧ nOf (freeS S m) k = nOf S k ∧ (usd (freeS S m) k = true → usd S k = true) := by
  unfold atOf nOf usd
  rw [freeS_get]
  split
  · cases S.bl[k]? <;> simp
  · exact ⟨rfl, rfl, fun h => h⟩
theorem freeS_N (S : HpS) (m : Nat) : (freeS S m).N = S.N ∧ (freeS S m).bl.length = S.bl.length := by
  unfold freeS; split <;> simp
theorem inv_free {S : HpS} (hI : Inv S) (m : Nat) : Inv (freeS S m) := by
  refine ⟨fun k hk => ?_, fun k hk j hj hkj => ?_⟩
  · obtain ⟨h1, h2, h3⟩ := freeS_at S m k
    rw [h1, h2, (freeS_N S m).1]
    exact hI.fit k (mem_used.2 (h3 (mem_used.1 hk)))
  · obtain ⟨h1, h2, h3⟩ := freeS_at S m k
    obtain ⟨h4, h5, h6⟩ := freeS_at S m j
    rw [h1, h2, h4, h5]
    exact hI.apart k (mem_used.2 (h3 (mem_used.1 hk))) j (mem_used.2 (h6 (mem_used.1 hj))) hkj
theorem inv_ws {S : HpS} (hI : Inv S) (p : Nat) (l : List Int) : Inv (wsS S p l) := ⟨hI.fit, hI.apart⟩

/-! ### Moving together -/
theorem setAt_get (S : HpS) (k p j : Nat) : (setAt S k p).bl[j]? = if j = k then (S.bl[j]?).map (fun b => { b with at_ := p }) else S.bl[j]? := by
  unfold setAt
  by_cases hm : k < S.bl.length
  · rw [dif_pos hm]
    simp only
    rw [List.getElem?_set]
    by_cases hk : j = k
    · subst hk; rw [if_pos rfl, if_pos hm, if_pos rfl, List.getElem?_eq_getElem hm]; rfl
    · rw [if_neg (Ne.symm hk), if_neg hk]
  · rw [dif_neg hm]
    by_cases hk : j = k
    · subst hk; rw [if_pos rfl, List.getElem?_eq_none (by omega)]; rfl
    · rw [if_neg hk]
theorem setAt_at {S : HpS} {k : Nat} (hk : k < S.bl.length) (p j : Nat) : atOf (setAt S k p) j = if j = k then p else atOf S j := by
  unfold atOf
  rw [setAt_get]
  by_cases h : j = k
  · subst h; rw [if_pos rfl, if_pos rfl, List.getElem?_eq_getElem hk]; rfl
  · rw [if_neg h, if_neg h]
theorem setAt_n (S : HpS) (k p j : Nat) : nOf (setAt S k p) j = nOf S j ∧ usd (setAt S k p) j = usd S j := by
  unfold nOf usd
  rw [setAt_get]
  split
  · cases S.bl[j]? <;> simp
  · exact ⟨rfl, rfl⟩
theorem setAt_ws (S : HpS) (k p : Nat) : (setAt S k p).ws = S.ws := by unfold setAt; split <;> rfl
def word (S : HpS) (k i : Nat) : Int := S.ws.getD (atOf S k + i) 0
structure CompI (S : HpS) (l : List Nat) (A : HpS × Nat × Nat) : Prop where
  N : A.1.N = S.N
  bl : A.1.bl.length = S.bl.length
  ws : A.1.ws.length = S.ws.length
  n : ∀ k, nOf A.1 k = nOf S k ∧ usd A.1 k = usd S k
  out : ∀ k, k ∉ l → atOf A.1 k = atOf S k
  nil : ∀ k ∈ l, nOf S k = 0 → atOf A.1 k = atOf S k
  sum : A.2.2 = sumN S l
  le : ∀ k ∈ l, 0 < nOf S k → atOf A.1 k + nOf S k ≤ A.2.2 ∧ atOf A.1 k ≤ atOf S k
  lined : l.Pairwise (fun i j => 0 < nOf S i → 0 < nOf S j → atOf A.1 i + nOf S i ≤ atOf A.1 j)
  word : ∀ k ∈ l, ∀ i, i < nOf S k → word A.1 k i = word S k i
  beyond : ∀ p, (∀ j ∈ l, 0 < nOf S j → atOf S j + nOf S j ≤ p) → A.2.2 ≤ p ∧ ∀ i, p ≤ i → A.1.ws.getD i 0 = S.ws.getD i 0
  moved : A.2.1 ≤ l.length
theorem getD_splice {L cs : List Int} {off : Nat} (h : off + cs.length ≤ L.length) (i : Nat) : (splice L off cs).getD i 0 = if i < off then L.getD i 0 else if i < off + cs.length then cs.getD (i - off) 0 else L.getD i 0 := by
  simp only [List.getD_eq_getElem?_getD]
  rw [splice_get _ _ _ h]
  split
  · rfl
  · split <;> rfl
theorem comp_step {S : HpS} {l : List Nat} {A : HpS × Nat × Nat} {k : Nat} (h : CompI S l A) (hkl : k ∉ l) (hkb : k < S.bl.length) (hfit : atOf S k + nOf S k ≤ S.ws.length) (hk : ∀ j ∈ l, 0 < nOf S j → 0 < nOf S k → atOf S j + nOf S j ≤ atOf S k) : CompI S (l ++ [k]) (compS A k) := by
  obtain ⟨A, mv, en⟩ := A
  have hnk := (h.n k).1
  have hak := h.out k hkl
  simp only at hnk hak
  have hmem : ∀ {P : Nat → Prop}, (∀ j ∈ l, P j) → P k → ∀ j ∈ l ++ [k], P j := fun h1 h2 j hj => by
    rcases List.mem_append.1 hj with hj | hj
    · exact h1 j hj
    · simp at hj; subst hj; exact h2
  unfold compS
  simp only
  rw [hnk]
  by_cases h0 : nOf S k = 0
  · rw [if_pos h0]
    refine ⟨h.N, h.bl, h.ws, h.n, fun j hj => h.out j (fun hm => hj (List.mem_append_left _ hm)), hmem h.nil (fun _ => hak), ?_, hmem h.le (fun hn => by omega), ?_, hmem h.word (fun i hi => by omega), fun p hp => h.beyond p (fun j hj hn => hp j (List.mem_append_left _ hj) hn), ?_⟩
    · rw [sumN_app, ← h.sum]; simp [sumN, h0]
    · refine List.pairwise_append.2 ⟨h.lined, by simp, fun i hi j hj hn hn2 => ?_⟩
      simp at hj; subst hj; omega
    · rw [List.length_append]; exact Nat.le_trans h.moved (Nat.le_add_right _ _)
  · rw [if_neg h0]
    have h1 : 0 < nOf S k := by omega
    obtain ⟨hen, hbe⟩ := h.beyond (atOf S k) (fun j hj hn => hk j hj hn h1)
    have hws := h.ws
    have hsum := h.sum
    simp only at hen hbe hws hsum
    rw [hak]
    by_cases h2 : atOf S k = en
    · rw [if_pos h2]
      refine ⟨h.N, h.bl, h.ws, h.n, fun j hj => h.out j (fun hm => hj (List.mem_append_left _ hm)), hmem h.nil (fun h => absurd h h0), ?_, hmem (fun j hj hn => by have := h.le j hj hn; simp only at this ⊢; omega) (fun _ => by simp only; rw [hak]; omega), ?_, hmem h.word (fun i hi => ?_), fun p hp => ?_, ?_⟩
      · rw [sumN_app]; simp only; rw [hsum]; simp [sumN]
      · refine List.pairwise_append.2 ⟨h.lined, by simp, fun i hi j hj hn hn2 => ?_⟩
        simp at hj; subst hj
        have := h.le i hi hn
        simp only at this ⊢
        rw [hak]; omega
      · unfold Go.Proofs.Ytcecegcbkcdpjaa.word
        simp only
        rw [hak]
        exact hbe _ (by omega)
      · obtain ⟨b1, b2⟩ := h.beyond p (fun j hj hn => hp j (List.mem_append_left _ hj) hn)
        have := hp k (by simp) h1
        exact ⟨by simp only; omega, b2⟩
      · rw [List.length_append]; exact Nat.le_trans h.moved (Nat.le_add_right _ _)
    · rw [if_neg h2]
      have hcl : ((A.ws.drop (atOf S k)).take (nOf S k)).length = nOf S k := by rw [List.length_take, List.length_drop]; omega
      have hsp : en + ((A.ws.drop (atOf S k)).take (nOf S k)).length ≤ A.ws.length := by rw [hcl]; omega
      have hkb2 : k < (wsS A en ((A.ws.drop (atOf S k)).take (nOf S k))).bl.length := by show k < A.bl.length; have := h.bl; simp only at this; omega
      have hat : ∀ j, atOf (setAt (wsS A en ((A.ws.drop (atOf S k)).take (nOf S k))) k en) j = if j = k then en else atOf A j := fun j => setAt_at hkb2 en j
      have hword : ∀ i, (setAt (wsS A en ((A.ws.drop (atOf S k)).take (nOf S k))) k en).ws.getD i 0 = if i < en then A.ws.getD i 0 else if i < en + nOf S k then A.ws.getD (atOf S k + (i - en)) 0 else A.ws.getD i 0 := fun i => by
        rw [setAt_ws]
        show (splice A.ws en _).getD i 0 = _
        rw [getD_splice hsp, hcl]
        split
        · rfl
        · split
          · next h3 =>
            simp only [List.getD_eq_getElem?_getD]
            rw [List.getElem?_take, if_pos (by omega), List.getElem?_drop]
          · rfl
      have hjk : ∀ j ∈ l, ¬ j = k := fun j hj e => hkl (e ▸ hj)
      refine ⟨(setAt_len _ _ _).2.trans h.N, (setAt_len _ _ _).1.trans h.bl, ?_, fun j => ?_, fun j hj => ?_, hmem (fun j hj hn => ?_) (fun hn => absurd hn h0), ?_, hmem (fun j hj hn => ?_) (fun _ => ?_), ?_, hmem (fun j hj i hi => ?_) (fun i hi => ?_), fun p hp => ?_, ?_⟩
      · simp only; rw [setAt_ws]; exact (splice_len _ _ _ hsp).trans hws
      · obtain ⟨n1, n2⟩ := setAt_n (wsS A en ((A.ws.drop (atOf S k)).take (nOf S k))) k en j
        exact ⟨n1.trans (h.n j).1, n2.trans (h.n j).2⟩
      · simp only
        rw [hat, if_neg (fun e => hj (by simp [e]))]
        exact h.out j (fun hm => hj (List.mem_append_left _ hm))
      · simp only; rw [hat, if_neg (hjk j hj)]; exact h.nil j hj hn
      · rw [sumN_app]; simp only; rw [hsum]; simp [sumN]
      · have := h.le j hj hn
        simp only at this ⊢
        rw [hat, if_neg (hjk j hj)]
        omega
      · simp only
        rw [hat, if_pos rfl]
        omega
      · refine List.pairwise_append.2 ⟨?_, by simp, fun i hi j hj hn hn2 => ?_⟩
        · refine List.Pairwise.imp_of_mem ?_ h.lined
          intro i j hi hj hij hn hn2
          have := hij hn hn2
          simp only at this ⊢
          rw [hat, hat, if_neg (hjk i hi), if_neg (hjk j hj)]
          exact this
        · simp at hj; subst hj
          have := h.le i hi hn
          simp only at this ⊢
          rw [hat, hat, if_neg (hjk i hi), if_pos rfl]
          exact this.1
      · have h3 := h.le j hj (by omega)
        have h4 := h.word j hj i hi
        unfold Go.Proofs.Ytcecegcbkcdpjaa.word at h4 ⊢
        simp only at h3 h4 ⊢
        rw [hword, hat, if_neg (hjk j hj), if_pos (by omega)]
        exact h4
      · unfold Go.Proofs.Ytcecegcbkcdpjaa.word
        simp only
        rw [hword, hat, if_pos rfl, if_neg (by omega), if_pos (by omega), show atOf S k + (en + i - en) = atOf S k + i by omega]
        exact hbe _ (by omega)
      · obtain ⟨b1, b2⟩ := h.beyond p (fun j hj hn => hp j (List.mem_append_left _ hj) hn)
        have := hp k (by simp) h1
        refine ⟨by simp only; omega, fun i hi => ?_⟩
        simp only
        rw [hword, if_neg (by omega), if_neg (by omega)]
        exact b2 i hi
      · rw [List.length_append]; have := h.moved; simp only at this ⊢; simp; omega

end Go.Proofs.Ytcecegcbkcdpjaa
