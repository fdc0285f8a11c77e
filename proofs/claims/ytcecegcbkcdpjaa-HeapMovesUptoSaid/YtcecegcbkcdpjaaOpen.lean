/-
  Arguments that came in, opened to cells: slices of whatever elements, structs within them.
-/
import Derived.Test.YtcecegcbkcdpjaaMem
import Derived.Deep.Slices
import Derived.Deep.Fields
import Derived.OpenShut
namespace Go.Proofs.Ytcecegcbkcdpjaa
open Go.RowKit Go.ChangeShapes Go.WideShapes Go.ChangeAt
set_option linter.unusedVariables false

theorem list_of {α : Type} {P : Nat → α → Prop} : ∀ {n : Nat}, (∀ i, i < n → ∃ d, P i d) → ∃ l : List α, l.length = n ∧ ∀ i d, l[i]? = some d → P i d
  | 0, _ => ⟨[], rfl, fun i d h => by simp at h⟩
  | n + 1, h => by
    obtain ⟨l, hl, hp⟩ := list_of (n := n) (fun i hi => h i (by omega))
    obtain ⟨d, hd⟩ := h n (by omega)
    refine ⟨l ++ [d], by simp [hl], fun i e he => ?_⟩
    by_cases hi : i < n
    · rw [List.getElem?_append_left (by omega)] at he
      exact hp i e he
    · rw [List.getElem?_append_right (by omega)] at he
      by_cases hn : i = n
      · subst hn
        simp [hl] at he
        subst he
        exact hd
      · rw [List.getElem?_eq_none (by simp; omega)] at he
        cases he

/-- What a slice of integers that came in is known by, told by its elements alone. -/
def Ints (k : IntKind) (w : World) (a : Option Addr) (n c : Nat) (l : List Int) : Prop :=
  n = l.length ∧ n ≤ c ∧ c ≤ maxLen ∧ Reads w a c (l.map (Value.int k)) ∧ ∀ x ∈ l, (Lit.int k x).wf = true

section
variable {H : Type} {enc : TypeId × Value → H} {P : Program} {w : World} {base : Nat} {spare : Nat → Bool} {held : Bool}

/-- A slice of whatever elements: each element's cells, and their reading. -/
theorem open_elems {t e : TypeId} {S fuel : Nat} {cs : List Value} {x : DataW H × List MemPlace} (ht : P.underlying t = some (.slice e)) (hS : P.cellsOf e = S) (h : DataW.trod enc P w base spare held fuel t cs = some x) :
    ∃ (a : Option Addr) (n c : Nat), cs = [.slice a n c] ∧ (a = none → n = 0 ∧ c = 0) ∧ n ≤ c ∧ c ≤ maxLen ∧
      ∀ i, i < n → ∃ (ad : Addr) (vs : List Value) (m : Nat) (y : DataW H × List MemPlace), a = some ad ∧ vs.length = S ∧ (∀ j v, vs[j]? = some v → w.cell? (ad.add (i * S + j)) = some v) ∧ DataW.trod enc P w base spare held m e vs = some y := by
  subst hS
  rcases Go.Deep.open_slice ht h with ⟨rfl, _⟩ | ⟨a, len, cap, m, n, D, Pl, rfl, _, hl, hm, hmm, _, hi⟩
  · exact ⟨none, 0, 0, rfl, fun _ => ⟨rfl, rfl⟩, Nat.le_refl _, Nat.zero_le _, fun i hi => by omega⟩
  · refine ⟨some a, len, cap, rfl, fun h => by simp at h, hl, hm, fun i hin => ?_⟩
    have him : i < m := by rw [hmm]; split <;> omega
    obtain ⟨vs, hc, ht'⟩ := hi i him
    obtain ⟨_, hcl, hat⟩ := World.cells?_some hc
    refine ⟨a, vs, n, _, rfl, hcl, fun j v hv => ?_, ht'⟩
    have hj : j < vs.length := (List.getElem?_eq_some_iff.1 hv).1
    have := hat j (by omega)
    rw [← Go.Deep.add_add, this, hv]

/-- A struct's cells, all of whose fields are one cell each: each field's own reading. -/
theorem open_fields {e : TypeId} {fs : Array Field} {fuel : Nat} {vs : List Value} {x : DataW H × List MemPlace} (he : P.underlying e = some (.struct fs)) (hone : Go.Deep.oneCellFields P fs = true)
    (hl : vs.length = fs.size) (h : DataW.trod enc P w base spare held fuel e vs = some x) :
    ∃ m, ∀ (j : Nat) (f : Field), fs[j]? = some f → ∃ (v : Value) (y : DataW H × List MemPlace), vs[j]? = some v ∧ DataW.trod enc P w base spare held m f.type [v] = some y := by
  obtain ⟨ys, m, _, _, _, hyl, hf⟩ := DataW.trod_struct he h
  refine ⟨m, fun j f hj => ?_⟩
  obtain ⟨ho, hk⟩ := Go.Deep.hone_of hone j f hj
  have hjl : j < fs.size := (Array.getElem?_eq_some_iff.1 hj).1
  have h1 := hf j f hj
  rw [ho, hk] at h1
  have hd : (vs.drop j).take 1 = [vs[j]'(by omega)] := by
    rw [List.drop_eq_getElem_cons (by omega)]; rfl
  rw [hd, List.getElem?_eq_getElem (by omega)] at h1
  exact ⟨_, _, List.getElem?_eq_getElem (by omega), h1⟩

theorem cell_int {k : IntKind} {t : TypeId} {m : Nat} {v : Value} {y : DataW H × List MemPlace} (ht : P.underlying t = some (.int k)) (h : DataW.trod enc P w base spare held m t [v] = some y) : ∃ n, v = .int k n ∧ (Lit.int k n).wf = true := by
  obtain ⟨n, e0, _, wn⟩ := DataW.trod_int ht h
  exact ⟨n, by simpa using e0, wn⟩

/-- A slice of integers within something that came in. -/
theorem cell_ints {k : IntKind} {t e : TypeId} {m : Nat} {v : Value} {y : DataW H × List MemPlace} (ht : P.underlying t = some (.slice e)) (he : P.underlying e = some (.int k)) (hc : P.cellsOf e = 1) (h : DataW.trod enc P w base spare held m t [v] = some y) :
    ∃ (a : Option Addr) (n c : Nat) (l : List Int), v = .slice a n c ∧ Ints k w a n c l := by
  rcases open_ints ht he hc h with ⟨hcs, _⟩ | ⟨x, n, c, zs, hcs, _, hl, hm, hz, _, hcell, hwz⟩
  · exact ⟨none, 0, 0, [], by simpa using hcs, rfl, Nat.le_refl _, Nat.zero_le _, Reads.nil w, fun x hx => by simp at hx⟩
  · have hzn : n ≤ zs.length := by
      rw [hz]; split <;> omega
    refine ⟨some x, n, c, zs.take n, by simpa using hcs, by simp; omega, hl, hm, .inr ⟨x, rfl, fun i u hu => ?_⟩, fun y hy => hwz y (List.mem_of_mem_take hy)⟩
    simp only [List.getElem?_map, List.getElem?_take] at hu
    split at hu
    · rename_i hi
      have hi2 : i < zs.length := by omega
      rw [List.getElem?_eq_getElem hi2] at hu
      simp only [Option.map_some, Option.some.injEq] at hu
      rw [hcell i hi2, ← hu, List.getD_eq_getElem?_getD, List.getElem?_eq_getElem hi2]
      rfl
    · simp at hu

end

/-- The cells of a slice of rows of S cells, each row told by f. -/
def ReadsBy {α : Type} (w : World) (a : Option Addr) (S : Nat) (f : α → List Value) (l : List α) : Prop :=
  ∀ i d, l[i]? = some d → ∃ b off, a = some ⟨b, off, none⟩ ∧ b < w.heap.size ∧ ∀ j v, (f d)[j]? = some v → w.cell? ⟨b, off + i * S + j, none⟩ = some v

theorem ReadsBy.below {α : Type} {w w' : World} {a : Option Addr} {S : Nat} {f : α → List Value} {l : List α} (h : ReadsBy w a S f l) (hb : Below w.heap.size w w') : ReadsBy w' a S f l := fun i d hd => by
  obtain ⟨b, off, rfl, hlt, hc⟩ := h i d hd
  have := hb.size
  exact ⟨b, off, rfl, by omega, fun j v hv => (hb.cell (p := ⟨b, off + i * S + j, none⟩) hlt).trans (hc j v hv)⟩

theorem ReadsBy.mk {α : Type} {w : World} {a : Option Addr} {S : Nat} {f : α → List Value} {l : List α} (hf : ∀ d, 0 < (f d).length)
    (h : ∀ i d, l[i]? = some d → ∃ ad, a = some ad ∧ ∀ j v, (f d)[j]? = some v → w.cell? (ad.add (i * S + j)) = some v) : ReadsBy w a S f l := fun i d hd => by
  obtain ⟨⟨b, off, s⟩, rfl, hc⟩ := h i d hd
  have hlen : 0 < l.length := by have := (List.getElem?_eq_some_iff.1 hd).1; omega
  have hs : s = none := by
    obtain ⟨ad, had, hc0⟩ := h 0 _ (List.getElem?_eq_getElem hlen)
    cases had
    have h00 := hc0 0 _ (List.getElem?_eq_getElem (hf _))
    rw [Nat.zero_mul] at h00
    exact World.cell?_spot h00
  have h0 := hc 0 _ (List.getElem?_eq_getElem (hf d))
  subst hs
  refine ⟨b, off, rfl, ?_, fun j v hv => ?_⟩
  · have := World.block_lt_of_cell? w _ h0
    rwa [add_flat] at this
  · have := hc j v hv
    rwa [add_flat, ← Nat.add_assoc] at this

/-- A thing that is done, as the statements hand it in: a kind, a number, bytes. -/
structure Do3 where
  kind : Int
  num : Int
  a : Option Addr
  n : Nat
  c : Nat
  l : List Int

def Do3.row (d : Do3) : List Value := [.int .i64 d.kind, .int .i64 d.num, .slice d.a d.n d.c]
def Do3.ok (w : World) (d : Do3) : Prop := (-9223372036854775808 ≤ d.kind ∧ d.kind ≤ 9223372036854775807) ∧ (-9223372036854775808 ≤ d.num ∧ d.num ≤ 9223372036854775807) ∧ Ints .u8 w d.a d.n d.c d.l

/-- A slice of things that are done, which came in. -/
def Do3s (w : World) (a : Option Addr) (n c : Nat) (ds : List Do3) : Prop := n = ds.length ∧ n ≤ c ∧ c ≤ maxLen ∧ ReadsBy w a 3 Do3.row ds ∧ ∀ d ∈ ds, d.ok w

end Go.Proofs.Ytcecegcbkcdpjaa
