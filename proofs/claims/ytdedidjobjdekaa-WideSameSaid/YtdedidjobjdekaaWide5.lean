/-
  Contracts of slices.Equal and slices.Clone at bytes and integers; wide.Same, wide.Copy.
-/
import Derived.Test.YtdedidjobjdekaaWide4
namespace Go.Proofs.Ytdedidjobjdekaa
open Go.RowKit
set_option linter.unusedVariables false
set_option maxHeartbeats 400000

theorem c_EqualB (a0 a1 : Option Addr) (n0 n1 c0 c1 : Nat) (l0 l1 : List Int) (w : World) (e0 : n0 = l0.length) (e1 : n1 = l1.length)
    (h0 : Reads w a0 c0 (l0.map (Value.int .u8))) (h1 : Reads w a1 c1 (l1.map (Value.int .u8))) (hm : n0 ≤ 1000000000) (hm1 : n1 ≤ 1000000000) :
    Calls Try.prog 34 #[.slice a0 n0 c0, .slice a1 n1 c1] w fun e w' => e = .returned (.bool (decide (l0 = l1))) ∧ Below w.heap.size w w' := by
  by_cases hl : n0 = n1
  · subst hl
    have E0 := Lib.hid e0
    have E1 := Lib.hid e1
    have H0 := Lib.hid h0
    have H1 := Lib.hid h1
    clear e0 e1 h0 h1
    go_enter Try.func34, Try.ntmps34
    go_wp2
    go_loopw [13] (fun i wr => ∃ k : Nat, k ≤ n0 ∧ i = .int .i64 k ∧ Hid (∀ j, j < k → l0.getD j 0 = l1.getD j 0) ∧ Hid (Below w.heap.size w wr)) (fun i _ => n0 - (intOf i).toNat)
    case atStart => exact ⟨0, Nat.zero_le _, rfl, fun j hj => by omega, Below.refl _ _⟩
    case round =>
      obtain ⟨k, hk, rfl, hz, hb⟩ := hrel
      by_cases hlt : k < n0
      · have hl0 : k < l0.length := by have := E0.out; omega
        have hl1 : k < l1.length := by have := E1.out; omega
        obtain ⟨b0, o0, rfl, _, hc0⟩ := (H0.out.below hb.out).at (by simp; omega)
        obtain ⟨b1, o1, rfl, _, hc1⟩ := (H1.out.below hb.out).at (by simp; omega)
        have k0 := hc0 k _ (getD_map8 hl0)
        have k1 := hc1 k _ (getD_map8 hl1)
        have HN := Lib.hid (fun h : l0.getD k 0 = l1.getD k 0 => (by
          intro j hj
          by_cases hjk : j = k
          · subst hjk; exact h
          · exact hz.out j (by omega) : ∀ j, j < k + 1 → l0.getD j 0 = l1.getD j 0))
        have HF := Lib.hid (fun h : l0.getD k 0 ≠ l1.getD k 0 => show l0 ≠ l1 from fun e => h (by rw [e]))
        clear hc0 hc1 hz
        generalize l0.getD k 0 = y0 at *
        generalize l1.getD k 0 = y1 at *
        by_cases hy : y0 = y1
        · subst hy
          have HN2 := Lib.hid (HN.out rfl)
          clear HN HF
          go_wp2
          go_region
          go_wp2
          go_roundw
          case rel => exact ⟨k + 1, by omega, by go_num, HN2.out, bDrew hb.out⟩
          case measure => simp [intOf]; omega
        · go_wp2
          go_region
          go_wp2
          go_ret
          exact ⟨by rw [decide_eq_false (HF.out hy)]; rfl, bDrew hb.out⟩
      · have hkl : k = n0 := by omega
        subst hkl
        have hEq := Lib.hid (show l0 = l1 from by
          apply List.ext_getElem (by rw [← E0.out, ← E1.out])
          intro i h1 h2
          have := hz.out i (by rw [E0.out]; exact h1)
          rwa [List.getD_eq_getElem?_getD, List.getElem?_eq_getElem h1, List.getD_eq_getElem?_getD, List.getElem?_eq_getElem h2] at this)
        go_wp2
        go_ret
        exact ⟨by rw [decide_eq_true hEq.out]; rfl, hb.out⟩
  · have HN := Lib.hid (show l0 ≠ l1 from fun e => hl (by rw [e0, e1, e]))
    clear e0 e1 h0 h1
    go_enter Try.func34, Try.ntmps34
    go_wp2
    go_ret
    exact ⟨by rw [decide_eq_false HN.out]; rfl, Below.refl _ _⟩

theorem c_EqualI (a0 a1 : Option Addr) (n0 n1 c0 c1 : Nat) (l0 l1 : List Int) (w : World) (e0 : n0 = l0.length) (e1 : n1 = l1.length)
    (h0 : Reads w a0 c0 (l0.map (Value.int .i64))) (h1 : Reads w a1 c1 (l1.map (Value.int .i64))) (hm : n0 ≤ 1000000000) (hm1 : n1 ≤ 1000000000) :
    Calls Try.prog 44 #[.slice a0 n0 c0, .slice a1 n1 c1] w fun e w' => e = .returned (.bool (decide (l0 = l1))) ∧ Below w.heap.size w w' := by
  by_cases hl : n0 = n1
  · subst hl
    have E0 := Lib.hid e0
    have E1 := Lib.hid e1
    have H0 := Lib.hid h0
    have H1 := Lib.hid h1
    clear e0 e1 h0 h1
    go_enter Try.func44, Try.ntmps44
    go_wp2
    go_loopw [13] (fun i wr => ∃ k : Nat, k ≤ n0 ∧ i = .int .i64 k ∧ Hid (∀ j, j < k → l0.getD j 0 = l1.getD j 0) ∧ Hid (Below w.heap.size w wr)) (fun i _ => n0 - (intOf i).toNat)
    case atStart => exact ⟨0, Nat.zero_le _, rfl, fun j hj => by omega, Below.refl _ _⟩
    case round =>
      obtain ⟨k, hk, rfl, hz, hb⟩ := hrel
      by_cases hlt : k < n0
      · have hl0 : k < l0.length := by have := E0.out; omega
        have hl1 : k < l1.length := by have := E1.out; omega
        obtain ⟨b0, o0, rfl, _, hc0⟩ := (H0.out.below hb.out).at (by simp; omega)
        obtain ⟨b1, o1, rfl, _, hc1⟩ := (H1.out.below hb.out).at (by simp; omega)
        have k0 := hc0 k _ (getD_map8 hl0)
        have k1 := hc1 k _ (getD_map8 hl1)
        have HN := Lib.hid (fun h : l0.getD k 0 = l1.getD k 0 => (by
          intro j hj
          by_cases hjk : j = k
          · subst hjk; exact h
          · exact hz.out j (by omega) : ∀ j, j < k + 1 → l0.getD j 0 = l1.getD j 0))
        have HF := Lib.hid (fun h : l0.getD k 0 ≠ l1.getD k 0 => show l0 ≠ l1 from fun e => h (by rw [e]))
        clear hc0 hc1 hz
        generalize l0.getD k 0 = y0 at *
        generalize l1.getD k 0 = y1 at *
        by_cases hy : y0 = y1
        · subst hy
          have HN2 := Lib.hid (HN.out rfl)
          clear HN HF
          go_wp2
          go_region
          go_wp2
          go_roundw
          case rel => exact ⟨k + 1, by omega, by go_num, HN2.out, bDrew hb.out⟩
          case measure => simp [intOf]; omega
        · go_wp2
          go_region
          go_wp2
          go_ret
          exact ⟨by rw [decide_eq_false (HF.out hy)]; rfl, bDrew hb.out⟩
      · have hkl : k = n0 := by omega
        subst hkl
        have hEq := Lib.hid (show l0 = l1 from by
          apply List.ext_getElem (by rw [← E0.out, ← E1.out])
          intro i h1 h2
          have := hz.out i (by rw [E0.out]; exact h1)
          rwa [List.getD_eq_getElem?_getD, List.getElem?_eq_getElem h1, List.getD_eq_getElem?_getD, List.getElem?_eq_getElem h2] at this)
        go_wp2
        go_ret
        exact ⟨by rw [decide_eq_true hEq.out]; rfl, hb.out⟩
  · have HN := Lib.hid (show l0 ≠ l1 from fun e => hl (by rw [e0, e1, e]))
    clear e0 e1 h0 h1
    go_enter Try.func44, Try.ntmps44
    go_wp2
    go_ret
    exact ⟨by rw [decide_eq_false HN.out]; rfl, Below.refl _ _⟩

def MadeIntsW (w : World) (l : List Int) (e : Ending) (w' : World) : Prop :=
  ∃ v, e = .returned v ∧ w'.ownsRow w.heap.size 3 1 v l.length (l.map (Value.int .i64)) ∧ Below w.heap.size w w'

theorem c_Clone (x : Addr) (n c : Nat) (l : List Int) (w : World) (e0 : n = l.length) (h : Reads w (some x) c (l.map (Value.int .u8))) (hm : n ≤ 1000000000) :
    Calls Try.prog 33 #[.slice (some x) n c] w (MadeBytes w l) := by
  subst e0
  have hs := h.alloc (.cells #[] 5)
  have HS := Lib.hid hs
  clear hs
  have hn := fun w => Lib.run_eql_slice_nil (P := Try.prog) w 23 5 (some x) l.length c 0 0 Try.underlying23
  go_enter Try.func33, Try.ntmps33
  go_wp2_with (at_builtin; refine wpList_app rfl _ _ 23 rfl w.heap.size 5 (.int .u8 0) 1 1 Try.underlying23 inf_u8 rfl (by decide) _ 0 [] rfl (World.ownsRow_made w #[] 0 (Nat.le_refl _) (Nat.zero_le _) rfl) (some x) l.length c _ rfl (by simp) HS.out (ints_one _ _) (by unfold maxLen; omega) (by omega) (by simp) ?_)
  intro v1 w1 own1 gr1
  have bel1 : Below w.heap.size w w1 := ((Below.refl _ _).alloc (Nat.le_refl _) _).grown gr1 (by simp) (fun k hk => by simp [Value.ownBlock] at hk; omega)
  clear gr1
  go_wp2
  go_ret
  exact ⟨v1, rfl, own1, bel1⟩

theorem c_CloneI (x : Addr) (n c : Nat) (l : List Int) (w : World) (e0 : n = l.length) (h : Reads w (some x) c (l.map (Value.int .i64))) (hm : n ≤ 1000000000) :
    Calls Try.prog 45 #[.slice (some x) n c] w (MadeIntsW w l) := by
  subst e0
  have hs := h.alloc (.cells #[] 3)
  have HS := Lib.hid hs
  clear hs
  have hn := fun w => Lib.run_eql_slice_nil (P := Try.prog) w 22 3 (some x) l.length c 0 0 Try.underlying22
  go_enter Try.func45, Try.ntmps45
  go_wp2_with (at_builtin; refine wpList_app rfl _ _ 22 rfl w.heap.size 3 (.int .i64 0) 1 8 Try.underlying22 inf_intW rfl (by decide) _ 0 [] rfl (World.ownsRow_made w #[] 0 (Nat.le_refl _) (Nat.zero_le _) rfl) (some x) l.length c _ rfl (by simp) HS.out (ints_one _ _) (by unfold maxLen; omega) (by omega) (by simp) ?_)
  intro v1 w1 own1 gr1
  have bel1 : Below w.heap.size w w1 := ((Below.refl _ _).alloc (Nat.le_refl _) _).grown gr1 (by simp) (fun k hk => by simp [Value.ownBlock] at hk; omega)
  clear gr1
  go_wp2
  go_ret
  exact ⟨v1, rfl, own1, bel1⟩

end Go.Proofs.Ytdedidjobjdekaa
