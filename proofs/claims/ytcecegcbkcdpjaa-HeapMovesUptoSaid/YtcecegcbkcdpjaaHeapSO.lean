/-
  What is done to a heap, as it came in; its bulk.
-/
import Derived.Test.YtcecegcbkcdpjaaHeapSN
import Derived.Test.YtcecegcbkcdpjaaRows
namespace Go.Proofs.Ytcecegcbkcdpjaa
open Go.RowKit Go.ChangeShapes Go.WideShapes Go.ChangeAt
set_option linter.unusedVariables false
set_option maxHeartbeats 2000000

theorem bulk_pos {H : Type} (d : DataW H) : 1 ≤ Rows.uptoBulk d := by
  cases d with
  | lit l => cases l <;> simp [Rows.uptoBulk]
  | nil => simp [Rows.uptoBulk]
  | ptr d => simp [Rows.uptoBulk]
  | slice elems spare => simp [Rows.uptoBulk]
  | agg parts => simp [Rows.uptoBulk]
  | iface t d => simp [Rows.uptoBulk]
  | map entries => simp [Rows.uptoBulk]
  | held h => simp [Rows.uptoBulk]
theorem bulk_len {H : Type} : ∀ l : List (DataW H), l.length ≤ Rows.uptoBulkAll l
  | [] => Nat.zero_le _
  | d :: l => by
    have h1 := bulk_len l
    have h2 := bulk_pos d
    simp only [Rows.uptoBulkAll, List.length_cons]
    omega
theorem bulk_cnt {H : Type} : ∀ (ds : List DoH) (l : List (DataW H)), ds.length = l.length → (∀ (i : Nat) (d : DoH) (e : DataW H), ds[i]? = some d → l[i]? = some e → d.n + 5 ≤ Rows.uptoBulk e) → cntH ds ≤ Rows.uptoBulkAll l
  | [], l, _, _ => by simp [cntH]
  | d :: ds, [], h, _ => by simp at h
  | d :: ds, e :: l, h, hb => by
    have h1 := bulk_cnt ds l (by simpa using h) (fun i d' e' h1 h2 => hb (i + 1) d' e' (by simpa using h1) (by simpa using h2))
    have h2 := hb 0 d e rfl rfl
    unfold cntH at h1 ⊢
    simp only [Rows.uptoBulkAll, List.map_cons, List.sum_cons]
    omega

section
variable {H : Type} {enc : TypeId × Value → H} {P : Program} {w : World} {base : Nat} {spare : Nat → Bool} {held : Bool}
theorem cell_intsB {k : IntKind} {t e : TypeId} {m : Nat} {v : Value} {y : DataW H × List MemPlace} (ht : P.underlying t = some (.slice e)) (he : P.underlying e = some (.int k)) (hc : P.cellsOf e = 1)
    (h : DataW.trod enc P w base spare held m t [v] = some y) :
    ∃ (a : Option Addr) (n c : Nat) (l : List Int), v = .slice a n c ∧ Ints k w a n c l ∧ n + 1 ≤ Rows.uptoBulk y.1 := by
  obtain ⟨a, n, c, l, rfl, hi⟩ := cell_ints ht he hc h
  refine ⟨a, n, c, l, rfl, hi, ?_⟩
  rcases open_ints ht he hc h with ⟨hcs, hx⟩ | ⟨x, n', c', zs, hcs, _, hl, hm, hz, hx, hcell, hwz⟩
  · simp at hcs
    rw [hcs.2.1]; exact bulk_pos _
  · simp at hcs
    obtain ⟨rfl, rfl, rfl⟩ := hcs
    have hzn : n ≤ zs.length := by rw [hz]; split <;> omega
    have h1 := bulk_len (lits (H := H) k (zs.take n))
    rw [hx]
    simp only [Rows.uptoBulk]
    simp only [lits, List.length_map, List.length_take] at h1
    unfold lits
    omega
end

theorem open_doH {H : Type} {enc : TypeId × Value → H} {w : World} {base : Nat} {spare : Nat → Bool} {held : Bool} {fuel : Nat} {cs : List Value} {x : DataW H × List MemPlace}
    (h : DataW.trod enc Try.prog w base spare held fuel 61 cs = some x) : ∃ (a : Option Addr) (n c : Nat) (ds : List DoH), cs = [.slice a n c] ∧ DoHs w a n c ds ∧ cntH ds ≤ Rows.uptoBulk x.1 := by
  rcases Go.Deep.open_slice Try.underlying61 h with ⟨rfl, _⟩ | ⟨ad, n, c, m, n2, D, Pl, rfl, _, hn, hc, hmm, hx, hi⟩
  · exact ⟨none, 0, 0, [], rfl, ⟨rfl, Nat.le_refl _, Nat.zero_le _, fun i d h => by simp at h, fun d hd => by cases hd⟩, by simp [cntH]⟩
  have hd : ∀ i, i < n → ∃ d : DoH, (∃ ad', some ad = some ad' ∧ ∀ j v, (DoH.row d)[j]? = some v → w.cell? (ad'.add (i * 4 + j)) = some v) ∧ d.ok w ∧ d.n + 5 ≤ Rows.uptoBulk (D i) := fun i hin => by
    have him : i < m := by rw [hmm]; split <;> omega
    obtain ⟨vs, hcv, ht'⟩ := hi i him
    obtain ⟨_, hcl, hat⟩ := World.cells?_some hcv
    have hc1 : (Try.prog).cellsOf 64 = 4 := by kernel_rfl
    rw [hc1] at hcl hat
    obtain ⟨ys, n3, _, hye, _, hyl, hf⟩ := DataW.trod_struct Try.underlying64 ht'
    obtain ⟨v0, v1, v2, v3, rfl⟩ : ∃ a b c d, vs = [a, b, c, d] := by
      match vs, hcl with
      | [a, b, c, d], _ => exact ⟨a, b, c, d, rfl⟩
    have hyl3 : ys.length = 4 := by rw [hyl]; rfl
    obtain ⟨y0, y1, y2, y3, rfl⟩ : ∃ a b c d, ys = [a, b, c, d] := by
      match ys, hyl3 with
      | [a, b, c, d], _ => exact ⟨a, b, c, d, rfl⟩
    have hi1 : (Try.prog).cellsOf 3 = 1 := by kernel_rfl
    have hs1 : (Try.prog).cellsOf 39 = 1 := by kernel_rfl
    have t0 : DataW.trod enc Try.prog w base spare held n3 3 [v0] = some y0 := by
      have := show DataW.trod enc Try.prog w base spare held n3 3 (([v0, v1, v2, v3].drop 0).take ((Try.prog).cellsOf 3)) = some y0 from hf 0 _ rfl
      rw [hi1] at this
      exact this
    have t1 : DataW.trod enc Try.prog w base spare held n3 3 [v1] = some y1 := by
      have := show DataW.trod enc Try.prog w base spare held n3 3 (([v0, v1, v2, v3].drop 1).take ((Try.prog).cellsOf 3)) = some y1 from hf 1 _ rfl
      rw [hi1] at this
      exact this
    have t2 : DataW.trod enc Try.prog w base spare held n3 3 [v2] = some y2 := by
      have := show DataW.trod enc Try.prog w base spare held n3 3 (([v0, v1, v2, v3].drop 2).take ((Try.prog).cellsOf 3)) = some y2 from hf 2 _ rfl
      rw [hi1] at this
      exact this
    have t3 : DataW.trod enc Try.prog w base spare held n3 39 [v3] = some y3 := by
      have := show DataW.trod enc Try.prog w base spare held n3 39 (([v0, v1, v2, v3].drop 3).take ((Try.prog).cellsOf 39)) = some y3 from hf 3 _ rfl
      rw [hs1] at this
      exact this
    obtain ⟨k, rfl, wk⟩ := cell_int Try.underlying3 t0
    obtain ⟨q, rfl, wq⟩ := cell_int Try.underlying3 t1
    obtain ⟨p, rfl, wp⟩ := cell_int Try.underlying3 t2
    obtain ⟨b, bn, bc, l, rfl, hb, hbb⟩ := cell_intsB Try.underlying39 Try.underlying3 (by kernel_rfl) t3
    have hcell : ∀ j, j < 4 → w.cell? (ad.add (i * 4 + j)) = [Value.int .i64 k, .int .i64 q, .int .i64 p, .slice b bn bc][j]? := fun j hj => by
      have := hat j hj
      rw [Go.Deep.add_add] at this
      exact this
    refine ⟨⟨k, q, p, b, bn, bc, l⟩, ⟨ad, rfl, fun j v hv => ?_⟩, ⟨bounds_i64 wk, bounds_i64 wq, bounds_i64 wp, hb⟩, ?_⟩
    · have hj : j < 4 := (List.getElem?_eq_some_iff.1 hv).1
      rw [hcell j hj]
      exact hv
    · have h0 := bulk_pos y0.1
      have h1 := bulk_pos y1.1
      have h2 := bulk_pos y2.1
      have he : D i = .agg [y0.1, y1.1, y2.1, y3.1] := (Prod.mk.inj hye).1
      rw [he]
      simp only [Rows.uptoBulk, Rows.uptoBulkAll]
      show bn + 5 ≤ _
      omega
  obtain ⟨ds, hl, hp⟩ := list_of hd
  refine ⟨some ad, n, c, ds, rfl, ⟨hl.symm, hn, hc, ReadsBy.mk (fun d => by simp [DoH.row]) (fun i d hid => (hp i d hid).1), fun d hdm => ?_⟩, ?_⟩
  · obtain ⟨i, hi, rfl⟩ := List.getElem_of_mem hdm
    exact (hp i _ (List.getElem?_eq_getElem hi)).2.1
  · rw [hx]
    simp only [Rows.uptoBulk]
    have h1 := bulk_cnt ds ((List.range n).map D) (by simp [hl]) (fun i d e h1 h2 => by
      have hin : i < n := by rw [← hl]; exact (List.getElem?_eq_some_iff.1 h1).1
      rw [List.getElem?_map, List.getElem?_range hin] at h2
      simp only [Option.map_some, Option.some.injEq] at h2
      rw [← h2]
      exact (hp i d h1).2.2)
    omega

end Go.Proofs.Ytcecegcbkcdpjaa
