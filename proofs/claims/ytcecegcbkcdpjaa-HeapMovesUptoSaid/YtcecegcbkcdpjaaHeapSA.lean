/-
  Sorting a row of numbers in memory: swapRange.
-/
import Derived.Test.YtcecegcbkcdpjaaHeapP
namespace Go.Proofs.Ytcecegcbkcdpjaa
open Go.RowKit
set_option linter.unusedVariables false
set_option maxHeartbeats 4000000

def valN (k : Nat) : Value := .int .i64 (k : Int)
/-- A row of numbers, whole. -/
structure Dat (w : World) (b : Nat) (L : List Nat) (rest : List Value) : Prop where
  row : Row w b 3 (L.map valN ++ rest)
theorem Dat.cell {w : World} {b : Nat} {L : List Nat} {rest : List Value} (h : Dat w b L rest) {i : Nat} (hi : i < L.length) : w.cell? ⟨b, i, none⟩ = some (.int .i64 ((L.getD i 0 : Nat) : Int)) := by
  refine h.row.cell ?_
  rw [List.getElem?_append_left (by simpa using hi), List.getElem?_map, List.getElem?_eq_getElem hi, List.getD_eq_getElem?_getD, List.getElem?_eq_getElem hi]
  rfl
theorem Dat.free {w : World} {b : Nat} {L : List Nat} {rest : List Value} (h : Dat w b L rest) (i : Nat) : w.frozen? ⟨b, i, none⟩ = false := h.row.free i
theorem Dat.set {w : World} {b : Nat} {L : List Nat} {rest : List Value} (h : Dat w b L rest) {i : Nat} (hi : i < L.length) (x : Nat) : Dat (w.setCell ⟨b, i, none⟩ (.int .i64 (x : Int))) b (L.set i x) rest := by
  refine ⟨?_⟩
  have := h.row.set i (.int .i64 (x : Int))
  rw [List.set_append_left (h := by simpa using hi)] at this
  rw [List.map_set]
  exact this
theorem Dat.drew {w : World} {b : Nat} {L : List Nat} {rest : List Value} (h : Dat w b L rest) : Dat w.drew b L rest := ⟨h.row.drew⟩
theorem Dat.keep {w w' : World} {b : Nat} {L : List Nat} {rest : List Value} (h : Dat w b L rest) (hb : Below w.heap.size w w') : Dat w' b L rest := ⟨h.row.keep (l := []) (.of_below hb) (by simp)⟩
/-- Two are changed for one another. -/
def swp (L : List Nat) (i j : Nat) : List Nat := (L.set i (L.getD j 0)).set j (L.getD i 0)
theorem swp_len (L : List Nat) (i j : Nat) : (swp L i j).length = L.length := by simp [swp]
theorem Dat.swap {w : World} {b : Nat} {L : List Nat} {rest : List Value} (h : Dat w b L rest) {i j : Nat} (hi : i < L.length) (hj : j < L.length) {x y : Nat} (hx : L.getD i 0 = x) (hy : L.getD j 0 = y) :
    Dat ((w.setCell ⟨b, i, none⟩ (.int .i64 (y : Int))).setCell ⟨b, j, none⟩ (.int .i64 (x : Int))) b (swp L i j) rest := by
  subst hx; subst hy
  exact (h.set hi _).set (by simpa using hj) _
theorem swp_get (L : List Nat) {i j : Nat} (hi : i < L.length) (hj : j < L.length) (t : Nat) : (swp L i j)[t]? = if t = j then L[i]? else if t = i then L[j]? else L[t]? := by
  unfold swp
  rw [List.getElem?_set, List.getElem?_set, List.length_set]
  by_cases h1 : t = j
  · subst h1
    rw [if_pos rfl, if_pos hj, if_pos rfl, List.getD_eq_getElem?_getD, List.getElem?_eq_getElem hi]; rfl
  · rw [if_neg (Ne.symm h1), if_neg h1]
    by_cases h2 : t = i
    · subst h2
      rw [if_pos rfl, if_pos hi, if_pos rfl, List.getD_eq_getElem?_getD, List.getElem?_eq_getElem hj]; rfl
    · rw [if_neg (Ne.symm h2), if_neg h2]
/-- Two in the midst of others. -/
theorem swp_mid (X Y Z : List Nat) (x y : Nat) : swp (X ++ x :: (Y ++ y :: Z)) X.length (X.length + 1 + Y.length) = X ++ y :: (Y ++ x :: Z) := by
  have e0 : (X ++ x :: (Y ++ y :: Z)).getD X.length 0 = x := by rw [List.getD_eq_getElem?_getD]; simp
  have e1 : (X ++ x :: (Y ++ y :: Z)).getD (X.length + 1 + Y.length) 0 = y := by
    rw [List.getD_eq_getElem?_getD, List.getElem?_append_right (by omega), show X.length + 1 + Y.length - X.length = Y.length + 1 by omega]
    simp
  unfold swp
  rw [e0, e1, List.set_append_right (h := Nat.le_refl _), Nat.sub_self, List.set_cons_zero, List.set_append_right (h := by omega), show X.length + 1 + Y.length - X.length = Y.length + 1 by omega, List.set_cons_succ, List.set_append_right (h := Nat.le_refl _), Nat.sub_self, List.set_cons_zero]

theorem swp_step (X P Y Q Z : List Nat) (hpq : P.length = Q.length) {j : Nat} (hj : j < P.length) :
    swp (X ++ (Q.take j ++ (P.drop j ++ (Y ++ (P.take j ++ (Q.drop j ++ Z)))))) (X.length + j) (X.length + P.length + Y.length + j) = X ++ (Q.take (j + 1) ++ (P.drop (j + 1) ++ (Y ++ (P.take (j + 1) ++ (Q.drop (j + 1) ++ Z))))) := by
  have hj2 : j < Q.length := by omega
  have e := swp_mid (X ++ Q.take j) (P.drop (j + 1) ++ (Y ++ P.take j)) (Q.drop (j + 1) ++ Z) P[j] Q[j]
  have e1 : (X ++ Q.take j).length = X.length + j := by simp; omega
  have e2 : X.length + j + 1 + (P.drop (j + 1) ++ (Y ++ P.take j)).length = X.length + P.length + Y.length + j := by simp; omega
  rw [e1, e2] at e
  rw [List.drop_eq_getElem_cons hj, List.drop_eq_getElem_cons hj2, List.take_succ_eq_append_getElem hj, List.take_succ_eq_append_getElem hj2]
  simp only [List.append_assoc, List.cons_append, List.nil_append] at e ⊢
  exact e

theorem c_swapRange (w : World) (b n c : Nat) (X P Y Q Z : List Nat) (rest : List Value) (hD : Dat w b (X ++ (P ++ (Y ++ (Q ++ Z)))) rest) (hn : n = (X ++ (P ++ (Y ++ (Q ++ Z)))).length) (hsm : n ≤ 1000000) (a b2 m : Nat) (ha : a = X.length) (hb2 : b2 = X.length + P.length + Y.length) (hm : m = P.length) (hpq : P.length = Q.length) (f : Value) :
    Calls Try.prog 53 #[.slice (some ⟨b, 0, none⟩) n c, .int .i64 a, .int .i64 b2, .int .i64 m, f] w fun e w' => e = .returned (.tuple #[]) ∧ Dat w' b (X ++ (Q ++ (Y ++ (P ++ Z)))) rest ∧ Upd [b] w w' := by
  have HD := Lib.hid hD
  have HN := Lib.hid hn
  have HA := Lib.hid ha
  have HB2 := Lib.hid hb2
  have HM := Lib.hid hm
  have HPQ := Lib.hid hpq
  have hbd : b2 + m ≤ n := by rw [hb2, hm, hn]; simp only [List.length_append]; omega
  have hab : a + m ≤ b2 := by omega
  clear hD hn ha hb2 hm hpq
  go_enter Try.func53, Try.ntmps53
  go_wp2
  go_loopw [10] (fun i wr => ∃ j : Nat, j ≤ m ∧ i = .int .i64 j ∧ Hid (Dat wr b (X ++ (Q.take j ++ (P.drop j ++ (Y ++ (P.take j ++ (Q.drop j ++ Z)))))) rest) ∧ Hid (Upd [b] w wr)) (fun i _ => m - (intOf i).toNat)
  case atStart => exact ⟨0, Nat.zero_le _, rfl, by unfold Hid; simpa using HD.out, Upd.refl _ _⟩
  case round =>
    clear HD
    obtain ⟨j, hj, rfl, HD, HU⟩ := hrel
    by_cases hlt : j < m
    · have hL : Hid ((X ++ (Q.take j ++ (P.drop j ++ (Y ++ (P.take j ++ (Q.drop j ++ Z)))))).length = n) := by
        unfold Hid; rw [HN.out]; simp only [List.length_append, List.length_take, List.length_drop]; have := HM.out; have := HPQ.out; omega
      have k1 := HD.out.cell (i := a + j) (by rw [hL.out]; omega)
      have k2 := HD.out.cell (i := b2 + j) (by rw [hL.out]; omega)
      have f1 := HD.out.free (a + j)
      have f2 := HD.out.free (b2 + j)
      have HSW := Lib.hid (fun x y hx hy => HD.out.drew.swap (i := a + j) (j := b2 + j) (by rw [hL.out]; omega) (by rw [hL.out]; omega) (x := x) (y := y) hx hy)
      have HNE := Lib.hid (show ¬ a + j = b2 + j by omega)
      have HST := Lib.hid (show swp (X ++ (Q.take j ++ (P.drop j ++ (Y ++ (P.take j ++ (Q.drop j ++ Z)))))) (a + j) (b2 + j) = X ++ (Q.take (j + 1) ++ (P.drop (j + 1) ++ (Y ++ (P.take (j + 1) ++ (Q.drop (j + 1) ++ Z))))) by rw [HA.out, HB2.out]; exact swp_step X P Y Q Z HPQ.out (by rw [← HM.out]; exact hlt))
      generalize hx : (X ++ (Q.take j ++ (P.drop j ++ (Y ++ (P.take j ++ (Q.drop j ++ Z)))))).getD (a + j) 0 = x at *
      generalize hy : (X ++ (Q.take j ++ (P.drop j ++ (Y ++ (P.take j ++ (Q.drop j ++ Z)))))).getD (b2 + j) 0 = y at *
      have HSW2 := Lib.hid (HSW.out x y (by first | exact hx | rfl) (by first | exact hy | rfl))
      clear hx hy HSW
      go_wp2_with fail
      go_region
      go_wp2
      refine ⟨⟨j + 1, by omega, by go_num, ?_, ((HU.out.setCell (by simp) _).setCell (by simp) _).drew⟩, by simp [intOf]; omega⟩
      show Dat _ _ _ _
      rw [← HST.out]
      exact HSW2.out
    · obtain rfl : m = j := by omega
      go_wp2
      go_end0
      refine ⟨rfl, ?_, HU.out⟩
      have := HD.out
      rw [HM.out, List.take_length, List.drop_length, HPQ.out, List.take_length, List.drop_length] at this
      simpa using this

end Go.Proofs.Ytcecegcbkcdpjaa
