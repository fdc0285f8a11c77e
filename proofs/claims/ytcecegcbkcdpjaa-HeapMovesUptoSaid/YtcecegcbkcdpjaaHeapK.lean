/-
  Contracts of package heap: the first block that is free; is any word too great?
-/
import Derived.Test.YtcecegcbkcdpjaaHeapJ
namespace Go.Proofs.Ytcecegcbkcdpjaa
open Go.RowKit
set_option linter.unusedVariables false
set_option maxHeartbeats 4000000

theorem c_unused (w : World) (p q : Nat) (u : Bool) : Calls Try.prog 41 #[.agg #[.int .i64 p, .int .i64 q, .bool u]] w fun e w' => e = .returned (.bool (!u)) ∧ Below w.heap.size w w' := by
  go_enter Try.func41, Try.ntmps41
  go_wp2
  go_ret
  exact ⟨rfl, (Below.refl _ _).alloc (Nat.le_refl _) _⟩

/-- The first block that is free, or one more. -/
def freeIx (S : HpS) : Nat := S.bl.findIdx (fun b => !b.used)
theorem freeIx_at {S : HpS} {k : Nat} (hk : k < S.bl.length) (h : S.bl[k].used = false) (hz : ∀ j (hj : j < S.bl.length), j < k → S.bl[j].used = true) : freeIx S = k := by
  unfold freeIx
  rw [List.findIdx_eq hk]
  exact ⟨by simp [h], fun j hj => by simp [hz j (by omega) hj]⟩
theorem freeIx_no {S : HpS} (hz : ∀ j (hj : j < S.bl.length), S.bl[j].used = true) : freeIx S = S.bl.length := by
  unfold freeIx
  rw [List.findIdx_eq_length]
  intro b hb
  obtain ⟨j, hj, rfl⟩ := List.getElem_of_mem hb
  simp [hz j hj]

def freeV (S : HpS) : Int := if freeIx S < S.bl.length then (freeIx S : Int) else -1

theorem c_IndexFree {w : World} {B h g : Nat} {vb : Value} {S : HpS} (H : HpAt w B h g vb S) :
    Calls Try.prog 40 #[vb, .func (.func 41) #[] #[]] w fun e w' => e = .returned (.int .i64 (freeV S)) ∧ Below w.heap.size w w' := by
  have hfew := H.few
  obtain ⟨a, c, hv, -, -, -⟩ := owns_reads H.own
  have HO := Lib.hid H.own
  subst hv
  clear H
  go_enter Try.func40, Try.ntmps40
  go_wp2
  go_loopw [8] (fun i wr => ∃ k : Nat, k ≤ S.bl.length ∧ i = .int .i64 k ∧ Hid (∀ j (hj : j < S.bl.length), j < k → S.bl[j].used = true) ∧ Hid (Below w.heap.size w wr)) (fun i _ => S.bl.length - (intOf i).toNat)
  case atStart => exact ⟨0, Nat.zero_le _, rfl, fun j _ hj => by omega, Below.refl _ _⟩
  case round =>
    obtain ⟨k, hk, rfl, hz, HB⟩ := hrel
    by_cases hlt : k < S.bl.length
    · obtain ⟨b, cb, hv, c0, c1, c2⟩ := blk_cells ((Upd.of_below (l := []) HB.out).ownsAbove HO.out (by simp)) hlt
      cases hv
      have HY := Lib.hid (fun h => freeIx_at hlt h hz.out)
      have HN := Lib.hid (fun h : S.bl[k].used = true => (by
        intro j hj hjk
        by_cases hj2 : j = k
        · subst hj2; exact h
        · exact hz.out j hj (by omega) : ∀ j (hj : j < S.bl.length), j < k + 1 → S.bl[j].used = true))
      have HC := Lib.hid (fun u => c_unused wr S.bl[k].at_ S.bl[k].n u)
      generalize S.bl[k].at_ = p at *
      generalize S.bl[k].n = q at *
      generalize S.bl[k].used = u at *
      clear hz
      cases u
      · have HV := Lib.hid (HY.out rfl)
        have HC2 := Lib.hid (HC.out false)
        clear HY HN HC
        go_wp2_with (go_at_call 41; refine HC2.out.mono ?_; rintro e w' ⟨rfl, hb2⟩; have HB2 := Lib.hid hb2; clear hb2)
        go_ret
        exact ⟨by unfold freeV; rw [HV.out, if_pos hlt]; rfl, bNext HB.out HB2.out⟩
      · have HV := Lib.hid (HN.out rfl)
        have HC2 := Lib.hid (HC.out true)
        clear HY HN HC
        go_wp2_with (go_at_call 41; refine HC2.out.mono ?_; rintro e w' ⟨rfl, hb2⟩; have HB2 := Lib.hid hb2; clear hb2)
        go_roundw
        case rel => exact ⟨k + 1, by omega, by go_num, HV.out, bNext HB.out HB2.out⟩
        case measure => simp [intOf]; omega
    · have hkl : k = S.bl.length := by omega
      subst hkl
      have HV := Lib.hid (freeIx_no (fun j hj => hz.out j hj hj))
      clear hz
      go_wp2
      go_ret
      exact ⟨by unfold freeV; rw [HV.out, if_neg (Nat.lt_irrefl _)]; rfl, HB.out⟩

/-- A word that is none. -/
def wrBad (x : Int) : Bool := decide (x < 0) || decide (65535 < x)
theorem c_WrBad (o : Int) (w : World) : Calls Try.prog 45 #[.int .i64 o] w fun e w' => e = .returned (.bool (wrBad o)) ∧ w = w' := by
  by_cases h0 : o < 0
  · have hv : wrBad o = true := by unfold wrBad; simp [h0]
    rw [hv]
    clear hv
    go_enter Try.func45, Try.ntmps45
    go_wp2
    go_ret
    exact ⟨rfl, rfl⟩
  · have hv : wrBad o = decide (65535 < o) := by unfold wrBad; simp [h0]
    rw [hv]
    clear hv
    go_enter Try.func45, Try.ntmps45
    go_wp2
    go_ret
    exact ⟨rfl, rfl⟩
def badH (l : List Int) : Bool := l.any wrBad
theorem badH_yes {l : List Int} {k : Nat} (hk : k < l.length) (h : wrBad (l.getD k 0) = true) : badH l = true := by
  unfold badH
  rw [List.any_eq_true]
  refine ⟨l.getD k 0, ?_, h⟩
  rw [List.getD_eq_getElem?_getD, List.getElem?_eq_getElem hk]
  exact List.getElem_mem hk
theorem badH_no {l : List Int} (h : ∀ j, j < l.length → wrBad (l.getD j 0) = false) : badH l = false := by
  unfold badH
  rw [List.any_eq_false]
  intro x hx
  obtain ⟨j, hj, rfl⟩ := List.getElem_of_mem hx
  have := h j hj
  rw [List.getD_eq_getElem?_getD, List.getElem?_eq_getElem hj] at this
  simpa using this
theorem badH_iff {l : List Int} : badH l = false ↔ ∀ x ∈ l, 0 ≤ x ∧ x ≤ 65535 := by
  unfold badH
  rw [List.any_eq_false]
  unfold wrBad
  simp only [Bool.or_eq_true, decide_eq_true_eq, not_or, Int.not_lt]

theorem c_WrIndex (a : Option Addr) (n c : Nat) (l : List Int) (w : World) (e0 : n = l.length) (h : Reads w a c (l.map (Value.int .i64))) (hm : n ≤ 1000000000) :
    Calls Try.prog 48 #[.slice a n c, .func (.func 45) #[] #[]] w fun e w' => ∃ v : Int, e = .returned (.int .i64 v) ∧ decide (0 ≤ v) = badH l ∧ w = w' := by
  subst e0
  have HR := Lib.hid h
  clear h
  go_enter Try.func48, Try.ntmps48
  go_wp2
  go_loop [8] (fun i => ∃ k : Nat, k ≤ l.length ∧ i = .int .i64 k ∧ Hid (∀ j, j < k → wrBad (l.getD j 0) = false)) (fun i => l.length - (intOf i).toNat)
  case atStart => exact ⟨0, Nat.zero_le _, rfl, fun j hj => by omega⟩
  case round =>
    obtain ⟨k, hk, rfl, hz⟩ := hrel
    by_cases hlt : k < l.length
    · obtain ⟨b, off, rfl, hblt, hc⟩ := HR.out.at (by simp; omega)
      have hcell := hc k _ (getD_map8 hlt)
      have HC := Lib.hid (c_WrBad (l.getD k 0) w)
      have HY := Lib.hid (fun h => badH_yes (l := l) (k := k) hlt h)
      have HN := Lib.hid (fun h : wrBad (l.getD k 0) = false => (by
        intro j hj
        by_cases hjk : j = k
        · subst hjk; exact h
        · exact hz.out j (by omega) : ∀ j, j < k + 1 → wrBad (l.getD j 0) = false))
      generalize l.getD k 0 = x at *
      clear hc hz
      cases hx : wrBad x
      · rw [hx] at HC
        have HV := Lib.hid (HN.out hx)
        clear HY HN hx
        go_wp2_with (go_at_call 45; refine HC.out.mono ?_; rintro e w' ⟨rfl, rfl⟩)
        go_round
        case rel => exact ⟨k + 1, by omega, by go_num, HV.out⟩
        case measure => simp [intOf]; omega
      · rw [hx] at HC
        have HV := Lib.hid (HY.out hx)
        clear HY HN hx
        go_wp2_with (go_at_call 45; refine HC.out.mono ?_; rintro e w' ⟨rfl, rfl⟩)
        go_ret
        exact ⟨k, rfl, by rw [HV.out]; simp, rfl⟩
    · have hkl : k = l.length := by omega
      subst hkl
      have HV := Lib.hid (badH_no hz.out)
      clear hz
      go_wp2
      go_ret
      exact ⟨-1, rfl, by rw [HV.out]; rfl, rfl⟩

theorem c_WrContains (a : Option Addr) (n c : Nat) (l : List Int) (w : World) (e0 : n = l.length) (h : Reads w a c (l.map (Value.int .i64))) (hm : n ≤ 1000000000) :
    Calls Try.prog 44 #[.slice a n c, .func (.func 45) #[] #[]] w fun e w' => e = .returned (.bool (badH l)) ∧ w = w' := by
  have HI := Lib.hid (c_WrIndex a n c l w e0 h hm)
  clear h hm e0
  go_enter Try.func44, Try.ntmps44
  go_wp2_with (go_at_call 48; refine HI.out.mono ?_; rintro e w' ⟨v, rfl, hv, rfl⟩; have HV := Lib.hid hv; clear hv)
  go_ret
  refine ⟨?_, rfl⟩
  rw [← HV.out]
  rfl

end Go.Proofs.Ytcecegcbkcdpjaa
