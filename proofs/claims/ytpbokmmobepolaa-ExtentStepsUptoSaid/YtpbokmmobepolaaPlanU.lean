/-
  A region that draws its order, by a plan with forks, whose first part D reads memory that D leaves alone (S); what is left waits for all of D and may write what D reads.
-/
import Derived.Test.YtpbokmmobepolaaPlanH
import Derived.Test.YtpbokmmobepolaaPlanT
namespace Go.Proofs.Ytpbokmmobepolaa
open Go.RowKit
set_option linter.unusedVariables false

section
variable {P : Program} {ops : Array Oper} {Q : Exit → Act → World → Prop} {md : Region.Mode} {S : World → Prop} {D : List Nat}

def wpAnyU (P : Program) (md : Region.Mode) (ops : Array Oper) (Q : Exit → Act → World → Prop) (S : World → Prop) (D : List Nat) : Nat → Array Bool → Act → World → Prop
  | 0, listed, a, w => Region.ready md ops listed = [] ∧ Q .normal a w
  | n + 1, listed, a, w => (Region.ready md ops listed = [] → Q .normal a w) ∧
    ∀ i ∈ Region.ready md ops listed, wpOp P ops Q i (fun a' w' => (i ∈ D → S w') ∧ wpAnyU P md ops Q S D n (listed.setIfInBounds i true) a' w') a w

theorem wpAny_of_U : ∀ (n : Nat) (listed : Array Bool) (a : Act) (w : World), wpAnyU P md ops Q S D n listed a w → wpAny P md ops Q n listed a w
  | 0, _, _, _, h => h
  | n + 1, _, _, _, h => ⟨h.1, fun i hi => wpOp_mono (fun a' w' h' => wpAny_of_U n _ a' w' h'.2) (h.2 i hi)⟩

def moves (o : Oper) : Bool := match o.op with
  | Op.move _ => true
  | _ => false
def isMove (ops : Array Oper) (j : Nat) : Bool := ((ops[j]?).map moves).getD false

/-- A copy leaves the world. -/
theorem wpOp_same {j : Nat} {K : Act → World → Prop} {a : Act} {w : World} (h : wpOp P ops Q j K a w) : wpOp P ops Q j (fun a' w' => K a' w' ∧ (isMove ops j = true → w' = w)) a w := by
  by_cases hm : isMove ops j = true
  · refine wpOp_mono (K := fun a' w' => K a' w' ∧ w' = w) (fun _ _ hk => ⟨hk.1, fun _ => hk.2⟩) ?_
    cases hj : ops[j]? with
    | none => unfold isMove at hm; rw [hj] at hm; simp at hm
    | some o =>
      unfold isMove at hm
      rw [hj] at hm
      simp only [Option.map_some, Option.getD_some] at hm
      have ⟨x, hx⟩ : ∃ x, o.op = .move x := by
        unfold moves at hm
        cases ho : o.op <;> rw [ho] at hm <;> simp at hm
        exact ⟨_, rfl⟩
      unfold wpOp at h ⊢
      simp only [hj] at h ⊢
      split
      · rename_i hw
        rw [if_pos hw] at h
        rcases h with h | ⟨h1, h2⟩
        · refine .inl ?_
          unfold Oper.wp at h ⊢
          simp [execOp, hx, Oper.upon] at h ⊢
          exact h
        · exact .inr ⟨h1, h2⟩
      · rename_i hw
        rw [if_neg hw] at h
        exact ⟨h, trivial⟩
  · exact wpOp_mono (fun _ _ hk => ⟨hk, fun hm2 => absurd hm2 hm⟩) h

def Closed (md : Region.Mode) (ops : Array Oper) (listed : Array Bool) : Prop :=
  ∀ k ok, ops[k]? = some ok → listed.getD k false = true → ∀ e ∈ ok.after, Region.binds md e = true → listed.getD e.on false = true

theorem getD_set_eq {l : Array Bool} {i : Nat} (h : i < l.size) : (l.setIfInBounds i true).getD i false = true := by simp [h]
theorem Closed.set {listed : Array Bool} (h : Closed md ops listed) {j : Nat} (hj : j ∈ Region.ready md ops listed) : Closed md ops (listed.setIfInBounds j true) := by
  intro k ok hk hl e he hb
  obtain ⟨hu, o, ho, hall⟩ := mem_ready.1 hj
  by_cases hjk : j = k
  · subst hjk
    rw [ho] at hk
    cases hk
    exact getD_set_true (hall e he hb)
  · rw [getD_set_ne false hjk] at hl
    exact getD_set_true (h k ok hk hl e he hb)

/-- Does j wait for i, through others too? -/
def waitsOn (md : Region.Mode) (ops : Array Oper) (i : Nat) : Nat → Nat → Bool
  | 0, _ => false
  | n + 1, j => ((ops[j]?).map fun o => o.after.any fun e => Region.binds md e && (e.on == i || waitsOn md ops i n e.on)).getD false

theorem waitsOn_listed {listed : Array Bool} (hc : Closed md ops listed) {i : Nat} : ∀ (n : Nat) {j : Nat} {o : Oper}, ops[j]? = some o → waitsOn md ops i n j = true → (∀ e ∈ o.after, Region.binds md e = true → listed.getD e.on false = true) → listed.getD i false = true
  | 0, j, o, hj, h, _ => by simp [waitsOn] at h
  | n + 1, j, o, hj, h, hall => by
    unfold waitsOn at h
    rw [hj] at h
    simp only [Option.map_some, Option.getD_some] at h
    rw [Array.any_eq_true'] at h
    obtain ⟨e, he, h2⟩ := h
    simp only [Bool.and_eq_true, Bool.or_eq_true, beq_iff_eq] at h2
    have hl := hall e he h2.1
    rcases h2.2 with h3 | h3
    · rwa [h3] at hl
    · cases ho : ops[e.on]? with
      | none =>
        cases n with
        | zero => simp [waitsOn] at h3
        | succ n => unfold waitsOn at h3; rw [ho] at h3; simp at h3
      | some o2 => exact waitsOn_listed hc n ho h3 (hc e.on o2 ho hl)

theorem wpAnyU_first {C : World → Prop} {i : Nat} {oi : Oper} {v : Value} (hi : ops[i]? = some oi) (hsel : ∀ (j : Nat) (o : Oper) cs b, ops[j]? = some o → o.op ≠ .select cs b)
    (hQ : ∀ c a w, Q (.panic c) (a.put oi.dst v) w → Q (.panic c) a w)
    (hC : ∀ listed j, Closed md ops listed → i ∈ Region.ready md ops listed → j ∈ Region.ready md ops listed → j ≠ i → ∀ w w', C w → (j ∈ D → S w') → (isMove ops j = true → w' = w) → C w') (hCD : ∀ w, C w → i ∈ D → S w) (n : Nat) :
    ∀ (listed : Array Bool) (a : Act) (w : World), Closed md ops listed →
      (∀ j oj, ops[j]? = some oj → j ≠ i → listed.getD j true = false → (∀ e ∈ oj.after, Region.binds md e = true → e.on ≠ i) → oi.apart ops oj = true) →
      i ∈ Region.ready md ops listed → YieldsIf P ops C oi v a → C w → wpAnyU P md ops Q S D n (listed.setIfInBounds i true) (a.put oi.dst v) w → wpAnyU P md ops Q S D (n + 1) listed a w := by
  induction n with
  | zero =>
    intro listed a w _ _ hr hy hc H
    refine ⟨fun h => (by rw [h] at hr; cases hr), fun j hj => ?_⟩
    by_cases hji : j = i
    · subst hji
      exact hy.wpOp hi hc ⟨hCD w hc, H⟩
    · have hb := ready_mono hj hji
      rw [H.1] at hb
      cases hb
  | succ n ih =>
    intro listed a w hcl hfree hr hy hc H
    refine ⟨fun h => (by rw [h] at hr; cases hr), fun j hj => ?_⟩
    by_cases hji : j = i
    · subst hji
      exact hy.wpOp hi hc ⟨hCD w hc, H⟩
    · obtain ⟨hju, oj, hoj, hall⟩ := mem_ready.1 hj
      have hno : ∀ e ∈ oj.after, Region.binds md e = true → e.on ≠ i := by
        intro e he hb heq
        have h1 := hall e he hb
        have h0 := (mem_ready.1 hr).1
        rw [heq] at h1
        by_cases hs : i < listed.size
        · simp [hs] at h0 h1
          rw [h0] at h1
          cases h1
        · simp [Array.getElem?_eq_none (Nat.le_of_not_lt hs)] at h1
      have hop := wpOp_putIf hoj (hfree j oj hoj hji hju hno) (fun cs b => hsel i oi cs b hi) (fun cs b => hsel j oj cs b hoj) hQ hy (wpOp_same (H.2 j (ready_mono hj hji)))
      refine wpOp_mono (fun a' w' h3 => ⟨h3.2.1.1, ?_⟩) hop
      refine ih (listed.setIfInBounds j true) a' w' (hcl.set hj) (fun k ok hk hki hun hn => hfree k ok hk hki ?_ hn) (ready_mono hr (Ne.symm hji)) h3.1 (hC listed j hcl hr hj hji w w' hc h3.2.1.1 h3.2.2) ?_
      · by_cases hjk : j = k
        · subst hjk; exact hju
        · rwa [getD_set_ne true hjk] at hun
      · rw [Array.setIfInBounds_comm _ _ hji]
        exact h3.2.1.2

/-- 'load', 'free': taken ahead of all others; 'free' from the frame alone. 'sole', 'two': what may come up, in D. 'late': behind D. -/
inductive PU where
  | fin | load (i : Nat) (r : PU) | free (i : Nat) (r : PU) | sole (i : Nat) (r : PU) | two (i j : Nat) (p q : PU) | late (i : Nat) (r : PU)

/-- Whoever is not in D waits for i, or is a copy. -/
def waitB (md : Region.Mode) (ops : Array Oper) (D : List Nat) (i : Nat) : Bool :=
  (List.range ops.size).all fun j => D.contains j || isMove ops j || waitsOn md ops i ops.size j

def planU (md : Region.Mode) (ops : Array Oper) (D : List Nat) : PU → Nat → Array Bool → Bool
  | .fin, 0, listed => (Region.ready md ops listed).isEmpty
  | .load i r, n + 1, listed => (Region.ready md ops listed).contains i && Region.free md ops listed i && D.contains i && waitB md ops D i && planU md ops D r n (listed.setIfInBounds i true)
  | .free i r, n + 1, listed => (Region.ready md ops listed).contains i && Region.free md ops listed i && !D.contains i && planU md ops D r n (listed.setIfInBounds i true)
  | .sole i r, n + 1, listed => (Region.ready md ops listed == [i]) && planU md ops D r n (listed.setIfInBounds i true)
  | .two i j p q, n + 1, listed => (Region.ready md ops listed == [i, j]) && planU md ops D p n (listed.setIfInBounds i true) && planU md ops D q n (listed.setIfInBounds j true)
  | .late i r, n + 1, listed => (Region.ready md ops listed == [i]) && !D.contains i && planU md ops D r n (listed.setIfInBounds i true)
  | _, _, _ => false

def wpU (P : Program) (ops : Array Oper) (Q : Exit → Act → World → Prop) (S : World → Prop) : PU → Act → World → Prop
  | .fin, a, w => Q .normal a w
  | .load i r, a, w => ∃ o, ops[i]? = some o ∧ S w ∧ if Region.wanted o (yielded ops a.tmps) then ∃ v, (∀ w : World, S w → (execOp a.eval o).run P w = .ok (.value v) w) ∧ wpU P ops Q S r (a.put o.dst v) w else wpU P ops Q S r (a.put o.dst undef) w
  | .free i r, a, w => ∃ o, ops[i]? = some o ∧ if Region.wanted o (yielded ops a.tmps) then flatly P o a (fun a' => wpU P ops Q S r a' w) else wpU P ops Q S r (a.put o.dst undef) w
  | .sole i r, a, w => ∃ o, ops[i]? = some o ∧ wpList P ops (Exit.then (fun a' w' => S w' ∧ wpU P ops Q S r a' w') Q) [o] a w
  | .two i j p q, a, w => (∃ o, ops[i]? = some o ∧ wpList P ops (Exit.then (fun a' w' => S w' ∧ wpU P ops Q S p a' w') Q) [o] a w) ∧ ∃ o, ops[j]? = some o ∧ wpList P ops (Exit.then (fun a' w' => S w' ∧ wpU P ops Q S q a' w') Q) [o] a w
  | .late i r, a, w => ∃ o, ops[i]? = some o ∧ wpList P ops (Exit.then (wpU P ops Q S r) Q) [o] a w

theorem wpU_fin {a : Act} {w : World} (h : Q .normal a w) : wpU P ops Q S .fin a w := h
/-- In D, from the frame alone. -/
theorem wpU_pure {i : Nat} {r : PU} {o : Oper} {a : Act} {w : World} (hS : S w) (hi : ops[i]? = some o)
    (h : ∀ K : Act → Prop, (∀ a', wpU P ops Q S r a' w → K a') → if Region.wanted o (yielded ops a.tmps) then flatly P o a K else K (a.put o.dst undef)) : wpU P ops Q S (.load i r) a w := by
  refine ⟨o, hi, hS, ?_⟩
  have := h _ (fun _ h => h)
  split
  · rename_i hw
    rw [if_pos hw] at this
    obtain ⟨v, hv, h2⟩ := this
    exact ⟨v, fun w _ => hv w, h2⟩
  · rename_i hw
    rw [if_neg hw] at this
    exact this
theorem wpU_load {i : Nat} {r : PU} {o : Oper} {a : Act} {w : World} (v : Value) (hS : S w) (hi : ops[i]? = some o) (hw : Region.wanted o (yielded ops a.tmps) = true)
    (hv : ∀ w : World, S w → (execOp a.eval o).run P w = .ok (.value v) w) (h : ∀ K : Act → Prop, (∀ a', wpU P ops Q S r a' w → K a') → K (a.put o.dst v)) : wpU P ops Q S (.load i r) a w := by
  refine ⟨o, hi, hS, ?_⟩
  rw [if_pos hw]
  exact ⟨v, hv, h _ (fun _ h => h)⟩
theorem wpU_free {i : Nat} {r : PU} {o : Oper} {a : Act} {w : World} (hi : ops[i]? = some o)
    (h : ∀ K : Act → Prop, (∀ a', wpU P ops Q S r a' w → K a') → if Region.wanted o (yielded ops a.tmps) then flatly P o a K else K (a.put o.dst undef)) : wpU P ops Q S (.free i r) a w := ⟨o, hi, h _ (fun _ h => h)⟩
theorem wpU_sole {i : Nat} {r : PU} {o : Oper} {a : Act} {w : World} (hi : ops[i]? = some o) (h : wpList P ops (Exit.then (fun a' w' => S w' ∧ wpU P ops Q S r a' w') Q) [o] a w) : wpU P ops Q S (.sole i r) a w := ⟨o, hi, h⟩
theorem wpU_late {i : Nat} {r : PU} {o : Oper} {a : Act} {w : World} (hi : ops[i]? = some o) (h : wpList P ops (Exit.then (wpU P ops Q S r) Q) [o] a w) : wpU P ops Q S (.late i r) a w := ⟨o, hi, h⟩
theorem wpU_two {i j : Nat} {p q : PU} {o o' : Oper} {a : Act} {w : World} (hi : ops[i]? = some o) (hj : ops[j]? = some o')
    (h : wpList P ops (Exit.then (fun a' w' => S w' ∧ wpU P ops Q S p a' w') Q) [o] a w) (h' : wpList P ops (Exit.then (fun a' w' => S w' ∧ wpU P ops Q S q a' w') Q) [o'] a w) : wpU P ops Q S (.two i j p q) a w := ⟨⟨o, hi, h⟩, o', hj, h'⟩

theorem waitB_spec {i : Nat} (h : waitB md ops D i = true) : ∀ listed j, Closed md ops listed → i ∈ Region.ready md ops listed → j ∈ Region.ready md ops listed → j ≠ i → ∀ w w', S w → (j ∈ D → S w') → (isMove ops j = true → w' = w) → S w' := by
  intro listed j hc hi hj hji w w' hs hd hm
  obtain ⟨hju, oj, hoj, hall⟩ := mem_ready.1 hj
  unfold waitB at h
  rw [List.all_eq_true] at h
  have h1 := h j (List.mem_range.2 (Array.getElem?_eq_some_iff.1 hoj).1)
  simp only [Bool.or_eq_true, List.contains_iff_mem] at h1
  rcases h1 with (h1 | h1) | h1
  · exact hd h1
  · rw [hm h1]; exact hs
  · have h2 := waitsOn_listed hc _ hoj h1 hall
    have h0 := (mem_ready.1 hi).1
    by_cases hsz : i < listed.size
    · simp [hsz] at h0 h2
      rw [h0] at h2
      cases h2
    · simp [Array.getElem?_eq_none (Nat.le_of_not_lt hsz)] at h2

theorem wpAny_of_planU (hs : Region.noSelect ops = true) (hQ0 : ∀ c a d v w, Q (.panic c) (Act.put a (some d) v) w → Q (.panic c) a w) :
    ∀ (pl : PU) (n : Nat) (listed : Array Bool) (a : Act) (w : World), Closed md ops listed → planU md ops D pl n listed = true → wpU P ops Q S pl a w → wpAnyU P md ops Q S D n listed a w
  | .fin, 0, listed, a, w, hcl, hB, h => by
    simp only [planU, List.isEmpty_iff] at hB
    exact ⟨hB, h⟩
  | .fin, n + 1, listed, a, w, hcl, hB, h => by simp [planU] at hB
  | .load i r, 0, listed, a, w, hcl, hB, h => by simp [planU] at hB
  | .free i r, 0, listed, a, w, hcl, hB, h => by simp [planU] at hB
  | .sole i r, 0, listed, a, w, hcl, hB, h => by simp [planU] at hB
  | .two i j p q, 0, listed, a, w, hcl, hB, h => by simp [planU] at hB
  | .late i r, 0, listed, a, w, hcl, hB, h => by simp [planU] at hB
  | .load i r, n + 1, listed, a, w, hcl, hB, h => by
    simp only [planU, Bool.and_eq_true] at hB
    obtain ⟨⟨⟨⟨hr, hf⟩, hD⟩, hwt⟩, hB⟩ := hB
    obtain ⟨o, ho, hS, h⟩ := h
    have take : ∀ v, YieldsIf P ops S o v a → wpAnyU P md ops Q S D n (listed.setIfInBounds i true) (a.put o.dst v) w → wpAnyU P md ops Q S D (n + 1) listed a w := fun v hy hh =>
      wpAnyU_first (C := S) ho (Region.noSelect_spec hs) (fun c a w hq => put_any hQ0 c a _ _ w hq) (waitB_spec hwt) (fun w hc _ => hc) n listed a w hcl (Region.free_spec ho hf) (by simpa using hr) hy hS hh
    by_cases hw : Region.wanted o (yielded ops a.tmps) = true
    · rw [if_pos hw] at h
      obtain ⟨v, hv, h⟩ := h
      exact take v (.inl ⟨hw, hv⟩) (wpAny_of_planU hs hQ0 r n _ _ _ (hcl.set (by simpa using hr)) hB h)
    · rw [if_neg hw] at h
      exact take undef (.inr ⟨by simpa using hw, rfl⟩) (wpAny_of_planU hs hQ0 r n _ _ _ (hcl.set (by simpa using hr)) hB h)
  | .free i r, n + 1, listed, a, w, hcl, hB, h => by
    simp only [planU, Bool.and_eq_true, Bool.not_eq_true'] at hB
    obtain ⟨⟨⟨hr, hf⟩, hD⟩, hB⟩ := hB
    obtain ⟨o, ho, h⟩ := h
    have take : ∀ v, YieldsIf P ops (fun _ => True) o v a → wpAnyU P md ops Q S D n (listed.setIfInBounds i true) (a.put o.dst v) w → wpAnyU P md ops Q S D (n + 1) listed a w := fun v hy hh =>
      wpAnyU_first (C := fun _ => True) ho (Region.noSelect_spec hs) (fun c a w hq => put_any hQ0 c a _ _ w hq) (fun _ _ _ _ _ _ _ _ _ _ _ => trivial) (fun w _ hm => absurd hm (by simpa using hD)) n listed a w hcl (Region.free_spec ho hf) (by simpa using hr) hy trivial hh
    by_cases hw : Region.wanted o (yielded ops a.tmps) = true
    · rw [if_pos hw] at h
      obtain ⟨v, hv, h⟩ := h
      exact take v (.inl ⟨hw, fun w _ => hv w⟩) (wpAny_of_planU hs hQ0 r n _ _ _ (hcl.set (by simpa using hr)) hB h)
    · rw [if_neg hw] at h
      exact take undef (.inr ⟨by simpa using hw, rfl⟩) (wpAny_of_planU hs hQ0 r n _ _ _ (hcl.set (by simpa using hr)) hB h)
  | .sole i r, n + 1, listed, a, w, hcl, hB, h => by
    simp only [planU, Bool.and_eq_true, beq_iff_eq] at hB
    obtain ⟨hr, hB⟩ := hB
    obtain ⟨o, ho, h⟩ := h
    refine ⟨fun h0 => (by rw [hr] at h0; cases h0), fun k hk => ?_⟩
    rw [hr] at hk
    simp only [List.mem_singleton] at hk
    subst hk
    exact wpOp_mono (fun a' w' h' => ⟨fun _ => h'.1, wpAny_of_planU hs hQ0 r n _ a' w' (hcl.set (by rw [hr]; simp)) hB h'.2⟩) (wpOp_of_list ho h)
  | .late i r, n + 1, listed, a, w, hcl, hB, h => by
    simp only [planU, Bool.and_eq_true, beq_iff_eq, Bool.not_eq_true'] at hB
    obtain ⟨⟨hr, hD⟩, hB⟩ := hB
    obtain ⟨o, ho, h⟩ := h
    refine ⟨fun h0 => (by rw [hr] at h0; cases h0), fun k hk => ?_⟩
    rw [hr] at hk
    simp only [List.mem_singleton] at hk
    subst hk
    exact wpOp_mono (fun a' w' h' => ⟨fun hm => absurd hm (by simpa using hD), wpAny_of_planU hs hQ0 r n _ a' w' (hcl.set (by rw [hr]; simp)) hB h'⟩) (wpOp_of_list ho h)
  | .two i j p q, n + 1, listed, a, w, hcl, hB, h => by
    simp only [planU, Bool.and_eq_true, beq_iff_eq] at hB
    obtain ⟨⟨hr, hB⟩, hB'⟩ := hB
    obtain ⟨⟨o, ho, h⟩, o', ho', h'⟩ := h
    refine ⟨fun h0 => (by rw [hr] at h0; cases h0), fun k hk => ?_⟩
    rw [hr] at hk
    simp only [List.mem_cons, List.not_mem_nil, or_false] at hk
    rcases hk with rfl | rfl
    · exact wpOp_mono (fun a' w' h' => ⟨fun _ => h'.1, wpAny_of_planU hs hQ0 p n _ a' w' (hcl.set (by rw [hr]; simp)) hB h'.2⟩) (wpOp_of_list ho h)
    · exact wpOp_mono (fun a' w' h' => ⟨fun _ => h'.1, wpAny_of_planU hs hQ0 q n _ a' w' (hcl.set (by rw [hr]; simp)) hB' h'.2⟩) (wpOp_of_list ho' h')

theorem wp_region_U {id : Nat} {a : Act} {w : World} {l : List Oper} (S : World → Prop) (D : List Nat) (pl : PU) (hm : P.follows .mixedOrders = true)
    (hB : (Region.noSelect l.toArray && planU .any l.toArray D pl l.length (Array.replicate l.length false)) = true)
    (hQ : ∀ c a d v w, Q (.panic c) (Act.put a (some d) v) w → Q (.panic c) a w)
    (h : wpU P l.toArray Q S pl a w.drew) : (Code.region id l.toArray true).wp P Q a w := by
  simp only [Bool.and_eq_true] at hB
  obtain ⟨hs, hB⟩ := hB
  refine wp_region_any hm ?_
  have := wpAny_of_U _ _ _ _ (wpAny_of_planU (md := .any) (D := D) hs hQ pl l.length (Array.replicate l.length false) a w.drew (fun k ok hk hl => by
    have hk2 := (Array.getElem?_eq_some_iff.1 hk).1
    simp at hk2
    simp [hk2] at hl) hB h)
  simpa using this

end

end Go.Proofs.Ytpbokmmobepolaa
