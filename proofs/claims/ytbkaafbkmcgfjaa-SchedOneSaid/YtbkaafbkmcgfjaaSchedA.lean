/-
  slices.Delete at integers, by the shelf's contract, and what it leaves of a row that is owned.
-/
import Derived.Test.YtbkaafbkmcgfjaaInts
import Derived.Shelf.SlicesG.Cells
namespace Go.Proofs.Ytbkaafbkmcgfjaa
open Go.RowKit Go.Shelf
set_option linter.unusedVariables false
set_option maxHeartbeats 400000

def renD : Ren := ⟨fun n => if n = 45 then 42 else n, fun n => if n = 0 then 0 else if n = 3 then 3 else if n = 4 then 4 else if n = 22 then 35 else if n = 23 then 3 else n, fun n => n⟩

theorem laysD : SlLaysN.n45 Try.prog renD := {
  mixed := by kernel_rfl
  f45 := ⟨Try.f42.name, by decide, by kernel_rfl⟩
  t0 := Try.underlying0
  a0 := Try.isAgg0
  z0 := Try.sizeOf0
  v0 := Try.zeroValue0
  t3 := Try.underlying3
  a3 := Try.isAgg3
  z3 := Try.sizeOf3
  v3 := Try.zeroValue3
  t4 := Try.underlying4
  a4 := Try.isAgg4
  z4 := Try.sizeOf4
  v4 := Try.zeroValue4
  t22 := Try.underlying35
  a22 := Try.isAgg35
  z22 := Try.sizeOf35
  v22 := Try.zeroValue35
  t23 := Try.underlying3
  a23 := Try.isAgg3
  z23 := Try.sizeOf3
  v23 := Try.zeroValue3
  i23 := by kernel_rfl }

theorem Row.setCells {g : Nat} {t : TypeId} : ∀ (vs : List Value) (o : Nat) {w : World} {xs : List Value}, Row w g t xs → o + vs.length ≤ xs.length → Row (w.setCells g o vs) g t (splice xs o vs)
  | [], o, w, xs, h, _ => by rw [splice_nil]; exact h
  | v :: vs, o, w, xs, h, hl => by
    have h1 := Row.setCells vs (o + 1) (h.set o v) (by simp at hl ⊢; omega)
    have e : splice (xs.set o v) (o + 1) vs = splice xs o (v :: vs) := by
      apply List.ext_getElem?
      intro i
      simp only [List.length_cons] at hl
      rw [splice_get _ _ _ (by simp; omega), splice_get _ _ _ (by simp; omega)]
      by_cases a1 : i < o
      · rw [if_pos (by omega), if_pos a1, List.getElem?_set_ne (by omega)]
      · by_cases a2 : i = o
        · subst a2
          rw [if_pos (by omega), if_neg a1, if_pos (by simp), Nat.sub_self, List.getElem?_set_self (by omega)]; rfl
        · rw [if_neg (by omega), if_neg a1]
          by_cases a3 : i < o + 1 + vs.length
          · rw [if_pos a3, if_pos (by simp; omega), show i - o = (i - (o + 1)) + 1 from by omega, List.getElem?_cons_succ]
          · rw [if_neg a3, if_neg (by simp; omega), List.getElem?_set_ne (by omega)]
    rw [← e]
    exact h1

theorem Upd.setCells {l : List Nat} {a : World} {g : Nat} (hg : g ∈ l) : ∀ (vs : List Value) (o : Nat) {b : World}, Upd l a b → Upd l a (b.setCells g o vs)
  | [], o, b, h => h
  | v :: vs, o, b, h => Upd.setCells hg vs (o + 1) (h.setCell (p := ⟨g, o, none⟩) hg v)

theorem Upd.drewN {l : List Nat} {a b : World} (h : Upd l a b) (n : Nat) : Upd l a (b.drewN n) := ⟨h.os, h.tape, h.output, h.size, h.block⟩

/-- Behind a row that a call owns, of integers: its block, if it has any. -/
theorem owns_split {w : World} {base : Nat} {e : TypeId} {v : Value} {n : Nat} {xs : List Value} (h : w.ownsRow base e 1 v n xs) :
    (v = .slice none 0 0 ∧ n = 0 ∧ xs = []) ∨ ∃ g c cur, v = .slice (some ⟨g, 0, none⟩) n c ∧ base ≤ g ∧ Row w g e cur ∧ cur.take n = xs ∧ n ≤ c ∧ c ≤ maxLen ∧ cur.length = c := by
  have hlen := h.1
  rcases h.2 with ⟨rfl, rfl⟩ | ⟨g, cap, cur, rfl, hb, hg, hnc, hm, hs, ht⟩
  · refine .inl ⟨rfl, rfl, ?_⟩
    exact List.eq_nil_of_length_eq_zero (by simpa using hlen)
  · exact .inr ⟨g, cap, cur.toList, rfl, hb, by unfold Row; simpa using hg, by simpa using ht, hnc, hm, by simpa using hs⟩

def DelPost (base : Nat) (l : List Int) (i : Nat) (v : Value) (w : World) (e : Ending) (w' : World) : Prop :=
  ∃ v', e = .returned v' ∧ v'.ownBlock = v.ownBlock ∧ w'.ownsRow base 3 1 v' (l.length - 1) ((l.eraseIdx i).map (Value.int .i64)) ∧ ∃ g, v.ownBlock = some g ∧ base ≤ g ∧ Upd [g] w w'

theorem c_DeleteI (base : Nat) (v : Value) (l : List Int) (i : Nat) (w : World) (h : w.ownsRow base 3 1 v l.length (l.map (Value.int .i64))) (hi : i < l.length) (j : Int) (hj : j = (i : Int) + 1) :
    Calls Try.prog 42 #[v, .int .i64 i, .int .i64 j] w (DelPost base l i v w) := by
  subst hj
  rcases owns_split h with ⟨rfl, h0, _⟩ | ⟨g, c, cur, rfl, hb, hr, ht, hn, hm, hc⟩
  · omega
  · have hcell : ∀ k, k < l.length → cur[k]? = some (.int .i64 (l.getD k 0)) := fun k hk => by
      have h1 : (cur.take l.length)[k]? = some (.int .i64 (l.getD k 0)) := by rw [ht, getD_map8 hk]
      rwa [List.getElem?_take, if_pos hk] at h1
    have H := AnyG.slices_Delete_int_cells laysD g 0 l.length c i (i + 1) l w (Nat.le_refl _) hn (by unfold maxLen at hm; omega) (by omega) (by omega)
      (fun k hk => by rw [Nat.zero_add]; exact hr.cell (hcell k hk)) (fun k hk => by rw [Nat.zero_add]; exact hr.free k)
    refine Calls.mono (show Calls Try.prog 42 #[.slice (some ⟨g, 0, none⟩) l.length c, .int .i64 i, .int .i64 ((i : Int) + 1)] w _ from H) ?_
    rintro e w' ⟨rfl, q, rfl⟩
    rw [List.take_length, show i + 1 - i = 1 from by omega]
    have hl : ((l.take i ++ l.drop (i + 1) ++ List.replicate 1 0).map (Value.int .i64)).length = l.length := by simp; omega
    have hr2 : Row (w.drewN q) g 3 cur := hr
    have R := Row.setCells ((l.take i ++ l.drop (i + 1) ++ List.replicate 1 0).map (Value.int .i64)) 0 hr2 (by omega)
    refine ⟨_, rfl, rfl, ?_, g, rfl, hb, Upd.setCells (by simp) _ _ ((Upd.refl _ _).drewN q)⟩
    have hsl : (splice cur 0 ((l.take i ++ l.drop (i + 1) ++ List.replicate 1 0).map (Value.int .i64))).length = c := by
      unfold splice; simp; omega
    have := R.owns (base := base) (n := l.length - 1) (c := c) hb hsl.symm (by omega) hm
    have e : (splice cur 0 ((l.take i ++ l.drop (i + 1) ++ List.replicate 1 0).map (Value.int .i64))).take (l.length - 1) = (l.eraseIdx i).map (Value.int .i64) := by
      rw [List.eraseIdx_eq_take_drop_succ]
      unfold splice
      rw [List.take_zero, List.nil_append, List.map_append, List.append_assoc, List.take_append, List.take_of_length_le (by simp; omega), show l.length - 1 - _ = 0 from by simp; omega, List.take_zero, List.append_nil]
    rw [e] at this
    exact this

end Go.Proofs.Ytbkaafbkmcgfjaa
