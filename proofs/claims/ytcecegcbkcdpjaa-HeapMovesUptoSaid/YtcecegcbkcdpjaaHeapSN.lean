/-
  The law HeapMoves: one block more is told.
-/
import Derived.Test.YtcecegcbkcdpjaaHeapSL
namespace Go.Proofs.Ytcecegcbkcdpjaa
open Go.RowKit
set_option linter.unusedVariables false
set_option maxHeartbeats 4000000

theorem own_ne {w : World} {B B' : Nat} {e e' : TypeId} {s s' : Nat} {v v' : Value} {n n' : Nat} {xs xs' : List Value} (h : w.ownsRow B e s v n xs) (h' : w.ownsRow B' e' s' v' n' xs') (hne : e ≠ e') : v.ownBlock = none ∨ v.ownBlock ≠ v'.ownBlock := by
  cases hv : v.ownBlock with
  | none => exact .inl rfl
  | some k =>
    refine .inr (fun e2 => ?_)
    obtain ⟨_, ys, hy⟩ := owns_row h k hv
    obtain ⟨_, zs, hz⟩ := owns_row h' k e2.symm
    exact typ_ne hy hz hne rfl
/-- Behind the append to 'was'. -/
theorem was_one {w3 w4 w6 : World} {B : Nat} {S : HpS} {U : List Nat} {j : Nat} {v9 v10 v12 v9' : Value} {rows : List Rw} {n : Nat} {xs : List Value} {o : Obj} (h : WasAt w3 B S U j v9 v10 rows) (hb : Below w3.heap.size w3 w4) (h12 : w4.ownsRow w3.heap.size 3 1 v12 n xs)
    (own9 : w6.ownsRow B 39 1 v9' (j + 1) (rows.map Rw.val ++ [v12])) (gr9 : (w4.alloc o).grownBy w6 v9.ownBlock) :
    w6.ownsRow B 3 1 v10 j ((U.take j).map (fun k => Value.int .i64 (atOf S k : Nat))) ∧ w6.ownsRow w3.heap.size 3 1 v12 n xs ∧
    (∀ t (ht : t < rows.length), w6.ownsRow B 3 1 rows[t].val (nOf S (U.getD t 0)) (wordsN S (U.getD t 0) (nOf S (U.getD t 0)))) := by
  have h4 := (h.below hb)
  have k9 := h4.was.alloc o
  refine ⟨?_, ?_, fun t ht => ?_⟩
  · exact (h4.ats.alloc o).kept gr9 (own_ne (h4.ats.alloc o) k9 (by decide))
  · exact (h12.alloc o).kept gr9 (own_ne (h12.alloc o) k9 (by decide))
  · exact ((h4.row t ht).1.alloc o).kept gr9 (own_ne ((h4.row t ht).1.alloc o) k9 (by decide))
/-- Behind the append to 'at'. -/
theorem was_two {w3 w4 w6 w7 w8 : World} {B : Nat} {S : HpS} {U : List Nat} {j u : Nat} {v9 v10 v12 v9' v10' : Value} {rows : List Rw} {o : Obj} (h : WasAt w3 B S U j v9 v10 rows) (hb : Below w3.heap.size w3 w4) (h12 : w4.ownsRow w3.heap.size 3 1 v12 (nOf S u) (wordsN S u (nOf S u)))
    (own9 : w6.ownsRow B 39 1 v9' (j + 1) (rows.map Rw.val ++ [v12])) (gr9 : (w4.alloc o).grownBy w6 v9.ownBlock) (h67 : Below w6.heap.size w6 w7)
    (hj : U.getD j 0 = u) (hB : B ≤ w3.heap.size)
    (own10 : w8.ownsRow B 3 1 v10' (j + 1) ((U.take (j + 1)).map (fun k => Value.int .i64 (atOf S k : Nat)))) (gr10 : w7.grownBy w8 v10.ownBlock) (fr10 : ∀ k, v10'.ownBlock = some k → v10.ownBlock = some k ∨ w7.heap.size ≤ k) :
    ∃ r : Rw, r.val = v12 ∧ WasAt w8 B S U (j + 1) v9' v10' (rows ++ [r]) := by
  obtain ⟨a12, c12, rfl, -, -, -⟩ := owns_reads h12
  obtain ⟨p10, p12, pr⟩ := was_one h hb h12 own9 gr9
  have u67 := Upd.of_below (l := []) h67
  have q10 := u67.ownsAbove p10 (by simp)
  have q12 := u67.ownsAbove p12 (by simp)
  have q9 := u67.ownsAbove own9 (by simp)
  have qr : ∀ t (ht : t < rows.length), w7.ownsRow B 3 1 rows[t].val (nOf S (U.getD t 0)) (wordsN S (U.getD t 0) (nOf S (U.getD t 0))) := fun t ht => u67.ownsAbove (pr t ht) (by simp)
  have n12 : ∀ x, v10.ownBlock = some x → (Rw.val ⟨a12, nOf S u, c12⟩).ownBlock ≠ some x := fun x hx e => by
    have h1 := (h12.lt x e).1
    have h2 := (h.ats.lt x hx).2
    omega
  refine ⟨⟨a12, nOf S u, c12⟩, rfl, ⟨by rw [List.length_append, h.len]; rfl, ?_, own10, fun t ht => ?_, fun t ht x hx => ?_⟩⟩
  · rw [List.map_append]
    exact q9.kept gr10 (own_ne q9 q10 (by decide))
  · by_cases ht2 : t < rows.length
    · rw [List.getElem_append_left ht2]
      refine ⟨(qr t ht2).kept gr10 ?_, (h.row t ht2).2⟩
      cases hv : rows[t].val.ownBlock with
      | none => exact .inl rfl
      | some k => exact .inr (fun e => h.ne t ht2 k e.symm hv)
    · have ht3 : t = rows.length := by rw [List.length_append] at ht; simp at ht; omega
      subst ht3
      rw [List.getElem_append_right (Nat.le_refl _)]
      simp only [Nat.sub_self, List.getElem_cons_zero]
      rw [h.len, hj]
      refine ⟨owns_lower (q12.kept gr10 ?_) hB, rfl⟩
      cases hv : (Rw.val ⟨a12, nOf S u, c12⟩).ownBlock with
      | none => exact .inl hv
      | some k => exact .inr (fun e => n12 k (by rw [← e]; exact hv) hv)
  · by_cases ht2 : t < rows.length
    · rw [List.getElem_append_left ht2]
      rcases fr10 x hx with h1 | h1
      · exact h.ne t ht2 x h1
      · intro e
        have := ((qr t ht2).lt x e).2
        omega
    · have ht3 : t = rows.length := by rw [List.length_append] at ht; simp at ht; omega
      subst ht3
      rw [List.getElem_append_right (Nat.le_refl _)]
      simp only [Nat.sub_self, List.getElem_cons_zero]
      rcases fr10 x hx with h1 | h1
      · exact n12 x h1
      · intro e
        have := (q12.lt x e).2
        omega

end Go.Proofs.Ytcecegcbkcdpjaa
