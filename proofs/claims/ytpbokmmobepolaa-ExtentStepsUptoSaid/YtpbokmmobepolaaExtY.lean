/-
  Rows of bytes that came in, each within the form's own reach.
-/
import Derived.Test.YtpbokmmobepolaaExtX
import Derived.SizedLaws
namespace Go.Proofs.Ytpbokmmobepolaa
open Go.RowKit Go.ChangeShapes Go.WideShapes Go.ChangeAt
set_option linter.unusedVariables false
set_option maxHeartbeats 2000000

theorem weights_all {H : Type} {P : Program} {e : TypeId} {d : DataW H} {q : Nat} : ∀ {l : List (DataW H)}, d ∈ l → q ∈ d.weights P e → q ∈ DataW.weightsAll P e l
  | [], h, _ => by cases h
  | x :: l, h, hq => by
    simp only [DataW.weightsAll, List.mem_append]
    rcases List.mem_cons.1 h with rfl | h
    · exact .inl hq
    · exact .inr (weights_all h hq)

section
variable {H : Type} {enc : TypeId × Value → H} {P : Program} {w : World} {base : Nat} {spare : Nat → Bool} {held : Bool}
theorem cell_intsW {k : IntKind} {t e : TypeId} {m : Nat} {v : Value} {y : DataW H × List MemPlace} (ht : P.underlying t = some (.slice e)) (he : P.underlying e = some (.int k)) (hc : P.cellsOf e = 1) (hb : 1 ≤ P.bytesOf e)
    (h : DataW.trod enc P w base spare held m t [v] = some y) (hwt : ∀ q ∈ y.1.weights P t, q ≤ reachBytes) :
    ∃ (a : Option Addr) (n c : Nat) (l : List Int), v = .slice a n c ∧ Ints k w a n c l ∧ n ≤ reachBytes := by
  obtain ⟨a, n, c, l, rfl, hi⟩ := cell_ints ht he hc h
  refine ⟨a, n, c, l, rfl, hi, ?_⟩
  rcases open_ints ht he hc h with ⟨hcs, _⟩ | ⟨x, n', c', zs, hcs, _, hl, hm, hz, hx, hcell, hwz⟩
  · simp at hcs
    rw [hcs.2.1]; exact Nat.zero_le _
  · simp at hcs
    obtain ⟨rfl, rfl, rfl⟩ := hcs
    have hzn : n ≤ zs.length := by rw [hz]; split <;> omega
    have h1 := hwt (((lits (H := H) k (zs.take n)).length + (lits (H := H) k (zs.drop n)).length) * P.bytesOf e) (by rw [hx]; simp [DataW.weights, ht])
    have h2 := Nat.le_trans (Nat.le_mul_of_pos_right _ hb) h1
    simp only [lits, List.length_map, List.length_take, List.length_drop] at h2
    omega
end

theorem open_slds {H : Type} {enc : TypeId × Value → H} {w : World} {base : Nat} {spare : Nat → Bool} {held : Bool} {fuel : Nat} {cs : List Value} {x : DataW H × List MemPlace}
    (h : DataW.trod enc Try.prog w base spare held fuel 26 cs = some x) (hwt : ∀ q ∈ x.1.weights Try.prog 26, q ≤ reachBytes) : ∃ (a : Option Addr) (n c : Nat) (ds : List SlD), cs = [.slice a n c] ∧ SlDs w a n c ds := by
  rcases Go.Deep.open_slice Try.underlying26 h with ⟨rfl, _⟩ | ⟨ad, n, c, m, n2, D, Pl, rfl, _, hn, hc, hmm, hx, hi⟩
  · exact ⟨none, 0, 0, [], rfl, rfl, Nat.le_refl _, Nat.zero_le _, .inl ⟨rfl, rfl, rfl⟩, fun d hd => by cases hd⟩
  have hd : ∀ i, i < n → ∃ d : SlD, w.cell? (ad.add i) = some d.val ∧ d.ok w := fun i hin => by
    have him : i < m := by rw [hmm]; split <;> omega
    obtain ⟨vs, hcv, ht'⟩ := hi i him
    obtain ⟨_, hcl, hat⟩ := World.cells?_some hcv
    have hc1 : (Try.prog).cellsOf 27 = 1 := by kernel_rfl
    rw [hc1] at hcl hat
    obtain ⟨v, rfl⟩ : ∃ v, vs = [v] := List.length_eq_one_iff.1 hcl
    have hmem : D i ∈ (List.range n).map D := List.mem_map.2 ⟨i, List.mem_range.2 hin, rfl⟩
    obtain ⟨b, bn, bc, l, rfl, hb, hr⟩ := cell_intsW Try.underlying27 Try.underlying5 (by kernel_rfl) (of_decide_eq_true (by kernel_rfl)) ht' (fun q hq => hwt q (by
      rw [hx]
      simp only [DataW.weights, Try.underlying26, List.mem_cons, List.mem_append]
      exact .inr (.inl (weights_all hmem hq))))
    refine ⟨⟨b, bn, bc, l⟩, ?_, hb.1, hb.2.1, hb.2.2.2.1, fun z hz => bounds_u8 (hb.2.2.2.2 z hz), hr⟩
    have := hat 0 (by omega)
    simp only [Nat.mul_one] at this
    rw [Go.Deep.add_add] at this
    simpa [SlD.val] using this
  obtain ⟨ds, hdl, hds⟩ := list_of hd
  refine ⟨some ad, n, c, ds, rfl, hdl.symm, hn, hc, ?_, fun d hm => ?_⟩
  · refine .inr ⟨ad, rfl, fun i u hu => ?_⟩
    rw [List.getElem?_map] at hu
    cases hdi : ds[i]? with
    | none => rw [hdi] at hu; cases hu
    | some d =>
      rw [hdi] at hu
      simp only [Option.map_some, Option.some.injEq] at hu
      rw [← hu]; exact (hds i d hdi).1
  · obtain ⟨i, hi, rfl⟩ := List.getElem_of_mem hm
    exact (hds i _ (List.getElem?_eq_getElem hi)).2

end Go.Proofs.Ytpbokmmobepolaa
