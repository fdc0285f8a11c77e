/-
  Contracts of package wide: ref, Check, Size.
-/
import Derived.Test.YtdedidjobjdekaaWide0
import Derived.Test.YtdedidjobjdekaaWidePlain2
namespace Go.Proofs.Ytdedidjobjdekaa
open Go.RowKit
set_option linter.unusedVariables false
set_option maxHeartbeats 1000000

theorem c_wref (o : Int) (w : World) (b0 : -9223372036854775808 ≤ o) (b1 : o ≤ 9223372036854775807) : Calls Try.prog 38 #[.int .i64 o] w fun e w' => e = .returned (.bool (refIs o)) ∧ w = w' := by
  have H1 := Lib.hid (c_Number o w b0 b1)
  have H2 := Lib.hid (c_Named o w b0 b1)
  unfold refIs
  generalize numIs o = x at *
  generalize namIs o = y at *
  generalize numV o = a at *
  generalize namV o = b at *
  cases x <;> cases y
  all_goals
    go_enter Try.func38, Try.ntmps38
    go_wp2_with (first
      | (go_at_call 49; refine H1.out.mono ?_; rintro e w' ⟨rfl, rfl⟩)
      | (go_at_call 35; refine H2.out.mono ?_; rintro e w' ⟨rfl, rfl⟩))
    go_ret
    exact ⟨rfl, rfl⟩

theorem c_rref (o : Int) (w : World) : Calls Try.prog 40 #[.int .i64 o] w fun e w' => e = .returned (.bool (refIs o)) ∧ w = w' := by
  by_cases h2 : o % 2 = 0
  · have e1 := tmod2_even' h2
    have e2 := tmod2_even h2
    by_cases hr : 0 < o
    · by_cases hs : o < 2147483648
      · rw [refIs_yes (.inr (by omega))]
        go_enter Try.func40, Try.ntmps40
        go_wp2
        go_ret
        exact ⟨rfl, rfl⟩
      · rw [refIs_no (by omega)]
        go_enter Try.func40, Try.ntmps40
        go_wp2
        go_ret
        exact ⟨rfl, rfl⟩
    · rw [refIs_no (by omega)]
      go_enter Try.func40, Try.ntmps40
      go_wp2
      go_ret
      exact ⟨rfl, rfl⟩
  · have h3 : o % 2 = 1 := by omega
    have e1 := tmod2_odd' h3
    have e2 := tmod2_odd h3
    by_cases hr : -2147483647 ≤ o
    · by_cases hs : o ≤ 2147483647
      · rw [refIs_yes (.inl (by omega))]
        go_enter Try.func40, Try.ntmps40
        go_wp2
        go_ret
        exact ⟨rfl, rfl⟩
      · rw [refIs_no (by omega)]
        go_enter Try.func40, Try.ntmps40
        go_wp2
        go_ret
        exact ⟨rfl, rfl⟩
    · rw [refIs_no (by omega)]
      go_enter Try.func40, Try.ntmps40
      go_wp2
      go_ret
      exact ⟨rfl, rfl⟩

theorem c_WNo (o : Int) (w : World) (b0 : -9223372036854775808 ≤ o) (b1 : o ≤ 9223372036854775807) : Calls Try.prog 37 #[.int .i64 o] w fun e w' => e = .returned (.bool (!refIs o)) ∧ w = w' := by
  have H := Lib.hid (c_wref o w b0 b1)
  generalize refIs o = x at *
  go_enter Try.func37, Try.ntmps37
  go_wp2_with (go_at_call 38; refine H.out.mono ?_; rintro e w' ⟨rfl, rfl⟩)
  go_ret
  exact ⟨rfl, rfl⟩

/-- Is any of the words none? -/
def badW (l : List Int) : Bool := l.any (fun x => !refIs x)
theorem badW_yes {l : List Int} {k : Nat} (hk : k < l.length) (h : refIs (l.getD k 0) = false) : badW l = true := by
  unfold badW
  rw [List.any_eq_true]
  refine ⟨l.getD k 0, ?_, by rw [h]; rfl⟩
  rw [List.getD_eq_getElem?_getD, List.getElem?_eq_getElem hk]
  exact List.getElem_mem hk
theorem badW_no {l : List Int} (h : ∀ j, j < l.length → refIs (l.getD j 0) = true) : badW l = false := by
  unfold badW
  rw [List.any_eq_false]
  intro x hx
  obtain ⟨j, hj, rfl⟩ := List.getElem_of_mem hx
  have := h j hj
  rw [List.getD_eq_getElem?_getD, List.getElem?_eq_getElem hj] at this
  simpa using this
theorem badW_iff {l : List Int} : badW l = false ↔ ∀ x ∈ l, refIs x = true := by
  unfold badW
  rw [List.any_eq_false]
  simp

theorem c_WIndex (a : Option Addr) (n c : Nat) (l : List Int) (w : World) (e0 : n = l.length) (h : Reads w a c (l.map (Value.int .i64))) (hb : I64 l) (hm : n ≤ 1000000000) :
    Calls Try.prog 48 #[.slice a n c, .func (.func 37) #[] #[]] w fun e w' => ∃ v : Int, e = .returned (.int .i64 v) ∧ decide (0 ≤ v) = badW l ∧ w = w' := by
  subst e0
  have HR := Lib.hid h
  have HB := Lib.hid hb
  clear h hb
  go_enter Try.func48, Try.ntmps48
  go_wp2
  go_loop [8] (fun i => ∃ k : Nat, k ≤ l.length ∧ i = .int .i64 k ∧ Hid (∀ j, j < k → refIs (l.getD j 0) = true)) (fun i => l.length - (intOf i).toNat)
  case atStart => exact ⟨0, Nat.zero_le _, rfl, fun j hj => by omega⟩
  case round =>
    obtain ⟨k, hk, rfl, hz⟩ := hrel
    by_cases hlt : k < l.length
    · obtain ⟨b, off, rfl, hblt, hc⟩ := HR.out.at (by simp; omega)
      have hcell := hc k _ (by simp [hlt]; rfl)
      have hmem := HB.out _ (List.getElem_mem hlt)
      have hgd : l.getD k 0 = l[k] := by rw [List.getD_eq_getElem?_getD, List.getElem?_eq_getElem hlt]; rfl
      have HC := Lib.hid (c_WNo l[k] w hmem.1 hmem.2)
      have HY := Lib.hid (fun h : refIs l[k] = false => badW_yes (l := l) (k := k) hlt (by rw [hgd]; exact h))
      have HN := Lib.hid (fun h : refIs l[k] = true => (by
        intro j hj
        by_cases hjk : j = k
        · subst hjk; rw [hgd]; exact h
        · exact hz.out j (by omega) : ∀ j, j < k + 1 → refIs (l.getD j 0) = true))
      generalize l[k] = x at *
      clear hc hz hmem hgd
      cases hx : refIs x
      · rw [hx] at HC
        have HV := Lib.hid (HY.out hx)
        clear HY HN hx
        go_wp2_with (go_at_call 37; refine HC.out.mono ?_; rintro e w' ⟨rfl, rfl⟩)
        go_ret
        exact ⟨k, rfl, by rw [HV.out]; simp, rfl⟩
      · rw [hx] at HC
        have HV := Lib.hid (HN.out hx)
        clear HY HN hx
        go_wp2_with (go_at_call 37; refine HC.out.mono ?_; rintro e w' ⟨rfl, rfl⟩)
        go_round
        case rel => exact ⟨k + 1, by omega, by go_num, HV.out⟩
        case measure => simp [intOf]; omega
    · have hkl : k = l.length := by omega
      subst hkl
      have HV := Lib.hid (badW_no hz.out)
      clear hz
      go_wp2
      go_ret
      exact ⟨-1, rfl, by rw [HV.out]; rfl, rfl⟩

theorem c_WContains (a : Option Addr) (n c : Nat) (l : List Int) (w : World) (e0 : n = l.length) (h : Reads w a c (l.map (Value.int .i64))) (hb : I64 l) (hm : n ≤ 1000000000) :
    Calls Try.prog 36 #[.slice a n c, .func (.func 37) #[] #[]] w fun e w' => e = .returned (.bool (badW l)) ∧ w = w' := by
  have HI := Lib.hid (c_WIndex a n c l w e0 h hb hm)
  clear h hm e0 hb
  go_enter Try.func36, Try.ntmps36
  go_wp2_with (go_at_call 48; refine HI.out.mono ?_; rintro e w' ⟨v, rfl, hv, rfl⟩; have HV := Lib.hid hv; clear hv)
  go_ret
  refine ⟨?_, rfl⟩
  rw [← HV.out]
  rfl

end Go.Proofs.Ytdedidjobjdekaa
