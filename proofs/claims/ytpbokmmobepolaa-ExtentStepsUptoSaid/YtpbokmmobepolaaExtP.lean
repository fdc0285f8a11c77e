/-
  A space's rows, told plainly: where each stands, and its bytes.
-/
import Derived.Test.YtpbokmmobepolaaExtH
namespace Go.Proofs.Ytpbokmmobepolaa
open Go.RowKit Go.Maps
set_option linter.unusedVariables false
set_option maxHeartbeats 1000000

abbrev Rw4 := Nat × List Int
def rN (x : Rw4) : Nat := secs x.2.length
def rE (x : Rw4) : Ext := ((x.1 : Int), (rN x : Int), (x.2.length : Int))
theorem rN_pos (x : Rw4) : 1 ≤ rN x := secs_pos _
def Cov (L : List Rw4) (i : Nat) : Prop := ∃ x ∈ L, x.1 ≤ i ∧ i < x.1 + rN x
def Ap (x y : Rw4) : Prop := x.1 + rN x ≤ y.1 ∨ y.1 + rN y ≤ x.1
def seg (bs : List Int) (F m : Nat) : List Int := (bs.drop (64 * F)).take m

theorem seg_get (bs : List Int) (F m j : Nat) (hj : j < m) : (seg bs F m)[j]? = bs[64 * F + j]? := by
  unfold seg; rw [List.getElem?_take, if_pos hj, List.getElem?_drop]
theorem seg_len (bs : List Int) (F m : Nat) : (seg bs F m).length ≤ m := by simp [seg]; omega
theorem seg_ext {l m : List Int} {k : Nat} (h1 : l.length ≤ k) (h2 : m.length ≤ k) (h : ∀ j, j < k → l[j]? = m[j]?) : l = m := by
  apply List.ext_getElem?
  intro j
  by_cases hj : j < k
  · exact h j hj
  · rw [List.getElem?_eq_none (by omega), List.getElem?_eq_none (by omega)]
theorem seg_other {bs cs : List Int} {F G m : Nat} (hb : 64 * G + cs.length ≤ bs.length) (hd : 64 * F + m ≤ 64 * G ∨ 64 * G + cs.length ≤ 64 * F) : seg (splice bs (64 * G) cs) F m = seg bs F m := by
  refine seg_ext (seg_len _ _ _) (seg_len _ _ _) (fun j hj => ?_)
  rw [seg_get _ _ _ _ hj, seg_get _ _ _ _ hj, splice_get _ _ _ hb]
  rcases hd with hd | hd
  · rw [if_pos (by omega)]
  · rw [if_neg (by omega), if_neg (by omega)]
theorem seg_same {bs cs : List Int} {F m : Nat} (hb : 64 * F + cs.length ≤ bs.length) (hm : m ≤ cs.length) : seg (splice bs (64 * F) cs) F m = cs.take m := by
  refine seg_ext (seg_len _ _ _) (by simp; omega) (fun j hj => ?_)
  rw [seg_get _ _ _ _ hj, splice_get _ _ _ hb, if_neg (by omega), if_pos (by omega), List.getElem?_take, if_pos hj]
  congr 1
  omega

structure Good (S : SpS) (L : List Rw4) : Prop where
  live : ∀ e, S.f e = true ↔ ∃ x ∈ L, e = rE x
  fit : ∀ x ∈ L, x.1 + rN x ≤ S.N
  bits : ∀ i, S.b i = true ↔ Cov L i
  data : ∀ x ∈ L, seg S.bs x.1 x.2.length = x.2
  apart : L.Pairwise Ap
  byt : ∀ x ∈ L, Byt x.2
  len : S.bs.length = 64 * S.N
  cnt : cntF S.b S.N = (L.map rN).sum

theorem Good.new (N : Nat) : Good (newS N) [] :=
  ⟨fun e => by simp [newS], fun x hx => (by cases hx), fun i => by simp [newS, Cov], fun x hx => (by cases hx), List.Pairwise.nil, fun x hx => (by cases hx), by simp [newS], by
    show cntF (fun _ => false) N = 0
    rw [cntF_const]; rfl⟩

theorem Good.not_cov {S : SpS} {L : List Rw4} (h : Good S L) {F n : Nat} (hr : runIs S.b F n false) (hn : 1 ≤ n) {x : Rw4} (hx : x ∈ L) : x.1 + rN x ≤ F ∨ F + n ≤ x.1 := by
  rcases Nat.lt_or_ge F (x.1 + rN x) with h1 | h1
  · rcases Nat.lt_or_ge x.1 (F + n) with h2 | h2
    · exfalso
      have hp := rN_pos x
      obtain ⟨i, hi1, hi2, hi3, hi4⟩ : ∃ i, x.1 ≤ i ∧ i < x.1 + rN x ∧ F ≤ i ∧ i < F + n := by
        by_cases h3 : F ≤ x.1
        · exact ⟨x.1, by omega, by omega, by omega, by omega⟩
        · exact ⟨F, by omega, by omega, by omega, by omega⟩
      have e1 := (h.bits i).2 ⟨x, hx, hi1, hi2⟩
      have e2 := hr (i - F) (by omega)
      rw [show F + (i - F) = i by omega, e1] at e2
      cases e2
    · exact .inr h2
  · exact .inl h1

theorem rE_inj {x y : Rw4} (h : rE x = rE y) : x.1 = y.1 ∧ x.2.length = y.2.length := by
  unfold rE at h
  simp only [Prod.mk.injEq] at h
  omega

theorem Good.add {S : SpS} {L : List Rw4} (h : Good S L) {F : Nat} {d : List Int} (hf : F + secs d.length ≤ S.N) (hr : runIs S.b F (secs d.length) false) (hd : Byt d) : Good (putS S F d) (L ++ [(F, d)]) := by
  have hpl := padS_len d (secs d.length)
  have hsp : 64 * F + (padS d (secs d.length)).length ≤ S.bs.length := by rw [hpl, h.len]; omega
  have hnc := fun {x : Rw4} (hx : x ∈ L) => h.not_cov hr (secs_pos _) hx
  refine ⟨fun e => ?_, fun x hx => ?_, fun i => ?_, fun x hx => ?_, ?_, fun x hx => ?_, ?_, ?_⟩
  · show liveIn _ S.f e = true ↔ _
    unfold liveIn
    rw [Bool.or_eq_true, decide_eq_true_eq, h.live]
    constructor
    · rintro (h1 | ⟨x, hx, rfl⟩)
      · exact ⟨(F, d), by simp, h1⟩
      · exact ⟨x, by simp [hx], rfl⟩
    · rintro ⟨x, hx, rfl⟩
      rcases List.mem_append.1 hx with h1 | h1
      · exact .inr ⟨x, h1, rfl⟩
      · rw [List.mem_singleton] at h1
        subst h1
        exact .inl rfl
  · rcases List.mem_append.1 hx with h1 | h1
    · exact h.fit x h1
    · rw [List.mem_singleton] at h1; subst h1; exact hf
  · show fill S.b F (secs d.length) true i = true ↔ _
    unfold fill
    constructor
    · intro h1
      split at h1
      · rename_i h2
        exact ⟨(F, d), by simp, h2.1, h2.2⟩
      · obtain ⟨x, hx, h3⟩ := (h.bits i).1 h1
        exact ⟨x, by simp [hx], h3⟩
    · rintro ⟨x, hx, h1, h2⟩
      split
      · rfl
      · rename_i h3
        rcases List.mem_append.1 hx with h4 | h4
        · exact (h.bits i).2 ⟨x, h4, h1, h2⟩
        · rw [List.mem_singleton] at h4
          subst h4
          exact absurd ⟨h1, h2⟩ h3
  · show seg (splice S.bs (64 * F) (padS d (secs d.length))) x.1 x.2.length = x.2
    rcases List.mem_append.1 hx with h1 | h1
    · have hr := secs_room x.2.length
      have hn : rN x = secs x.2.length := rfl
      rw [seg_other hsp (by rw [hpl]; have := hnc h1; omega)]
      exact h.data x h1
    · rw [List.mem_singleton] at h1
      subst h1
      show seg _ F d.length = d
      rw [seg_same hsp (by rw [hpl]; exact secs_room _)]
      exact padS_take d (secs_room _)
  · refine List.pairwise_append.2 ⟨h.apart, List.pairwise_singleton _ _, fun x hx y hy => ?_⟩
    rw [List.mem_singleton] at hy
    subst hy
    exact hnc hx
  · rcases List.mem_append.1 hx with h1 | h1
    · exact h.byt x h1
    · rw [List.mem_singleton] at h1; subst h1; exact hd
  · show (splice S.bs (64 * F) (padS d (secs d.length))).length = 64 * S.N
    rw [length_splice _ _ _ hsp]; exact h.len
  · show cntF (fill S.b F (secs d.length) true) S.N = _
    have h1 := cntF_fill (v := true) (b := S.b) (n := S.N) hr hf
    rw [List.map_append, List.sum_append, ← h.cnt]
    simp at h1 ⊢
    exact h1

/-- One less: what stands in its sectors does not matter. -/
theorem Good.cut {S : SpS} {L : List Rw4} (h : Good S L) {k : Nat} {x : Rw4} (hk : L[k]? = some x) {bs : List Int} (hl : bs.length = 64 * S.N)
    (hb : ∀ F m, (64 * F + m ≤ 64 * x.1 ∨ 64 * x.1 + 64 * rN x ≤ 64 * F) → seg bs F m = seg S.bs F m) (c : Nat) (q r : Nat) :
    Good { S with bs := bs, b := fill S.b x.1 (rN x) false, f := liveOut (rE x) S.f, c := c, q := q, r := r } (L.eraseIdx k) := by
  have hx : x ∈ L := List.mem_of_getElem? hk
  obtain ⟨hkl, hke⟩ := List.getElem?_eq_some_iff.1 hk
  have hsplit : L = L.take k ++ x :: L.drop (k + 1) := by
    rw [← hke]; simp
  have hmem : ∀ y, y ∈ L.eraseIdx k ↔ y ∈ L.take k ∨ y ∈ L.drop (k + 1) := fun y => by rw [List.eraseIdx_eq_take_drop_succ, List.mem_append]
  have hsub : ∀ y, y ∈ L.eraseIdx k → y ∈ L := fun y hy => List.mem_of_mem_eraseIdx hy
  have hap : ∀ y, y ∈ L.eraseIdx k → y.1 + rN y ≤ x.1 ∨ x.1 + rN x ≤ y.1 := fun y hy => by
    have hpw := h.apart
    rw [hsplit] at hpw
    obtain ⟨-, h2, h3⟩ := List.pairwise_append.1 hpw
    rcases (hmem y).1 hy with h4 | h4
    · exact h3 y h4 x (by simp)
    · exact ((List.pairwise_cons.1 h2).1 y h4).symm
  have hrun : runIs S.b x.1 (rN x) true := fun i hi => (h.bits _).2 ⟨x, hx, by omega, by omega⟩
  refine ⟨fun e => ?_, fun y hy => h.fit y (hsub y hy), fun i => ?_, fun y hy => ?_, h.apart.sublist (List.eraseIdx_sublist _ _), fun y hy => h.byt y (hsub y hy), hl, ?_⟩
  · show liveOut _ S.f e = true ↔ _
    unfold liveOut
    rw [Bool.and_eq_true, Bool.not_eq_true', decide_eq_false_iff_not, h.live]
    constructor
    · rintro ⟨h1, y, hy, rfl⟩
      refine ⟨y, (hmem y).2 ?_, rfl⟩
      rw [hsplit] at hy
      rcases List.mem_append.1 hy with h2 | h2
      · exact .inl h2
      · rcases List.mem_cons.1 h2 with rfl | h2
        · exact absurd rfl h1
        · exact .inr h2
    · rintro ⟨y, hy, rfl⟩
      refine ⟨fun e => ?_, y, hsub y hy, rfl⟩
      have h1 := (rE_inj e).1
      have h2 := hap y hy
      have h3 := rN_pos x
      have h4 := rN_pos y
      omega
  · show fill S.b x.1 (rN x) false i = true ↔ _
    unfold fill
    constructor
    · intro h1
      split at h1
      · cases h1
      · rename_i h2
        obtain ⟨y, hy, h3⟩ := (h.bits i).1 h1
        refine ⟨y, (hmem y).2 ?_, h3⟩
        rw [hsplit] at hy
        rcases List.mem_append.1 hy with h4 | h4
        · exact .inl h4
        · rcases List.mem_cons.1 h4 with rfl | h4
          · exact absurd h3 h2
          · exact .inr h4
    · rintro ⟨y, hy, h1, h2⟩
      have h3 := hap y hy
      rw [if_neg (by omega)]
      exact (h.bits i).2 ⟨y, hsub y hy, h1, h2⟩
  · show seg bs y.1 y.2.length = y.2
    have h3 := hap y hy
    have hr := secs_room y.2.length
    have hn : rN y = secs y.2.length := rfl
    rw [hb _ _ (by omega)]
    exact h.data y (hsub y hy)
  · show cntF (fill S.b x.1 (rN x) false) S.N = _
    have h1 := cntF_fill (v := false) (b := S.b) (n := S.N) hrun (h.fit x hx)
    rw [h.cnt] at h1
    have h2 : (L.map rN).sum = ((L.eraseIdx k).map rN).sum + rN x := by
      conv => lhs; rw [hsplit]
      rw [List.eraseIdx_eq_take_drop_succ]
      simp
      omega
    simp at h1
    omega

theorem Good.wipe {S : SpS} {L : List Rw4} (h : Good S L) {k : Nat} {x : Rw4} (hk : L[k]? = some x) :
    Good (wiped { S with b := fill S.b x.1 (rN x) false } x.1 (rN x) (x.2.length : Int)) (L.eraseIdx k) := by
  have hf := h.fit x (List.mem_of_getElem? hk)
  have hpl := padS_len [] (rN x)
  have hsp : 64 * x.1 + (padS [] (rN x)).length ≤ S.bs.length := by rw [hpl, h.len]; omega
  exact h.cut hk (bs := splice S.bs (64 * x.1) (padS [] (rN x))) (by rw [length_splice _ _ _ hsp]; exact h.len) (fun F m hd => seg_other hsp (by rw [hpl]; exact hd)) S.c S.q S.r

end Go.Proofs.Ytpbokmmobepolaa
