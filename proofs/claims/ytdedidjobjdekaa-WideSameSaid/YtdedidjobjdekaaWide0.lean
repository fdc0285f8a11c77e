/-
  What the laws of wide objects use besides: whether two rows of integers are the same; what is owned.
-/
import Derived.Test.YtdedidjobjdekaaWord3
import Derived.Test.YtdedidjobjdekaaOpen
namespace Go.Proofs.Ytdedidjobjdekaa
open Go.RowKit
set_option linter.unusedVariables false
set_option maxHeartbeats 400000

theorem owns_mono {w : World} {base base' : Nat} {e : TypeId} {size : Nat} {v : Value} {n : Nat} {xs : List Value} (h : w.ownsRow base e size v n xs) (hb : base' ≤ base) : w.ownsRow base' e size v n xs := by
  refine ⟨h.1, ?_⟩
  rcases h.2 with h2 | ⟨g, cap, cur, rfl, hbg, rest⟩
  · exact .inl h2
  · exact .inr ⟨g, cap, cur, rfl, by omega, rest⟩

theorem reads_pre {w : World} {a : Option Addr} {c : Nat} {xs : List Value} (h : Reads w a c xs) (k : Nat) : Reads w a c (xs.take k) := by
  rcases h with ⟨rfl, rfl, rfl⟩ | ⟨x, rfl, h⟩
  · exact .inl ⟨rfl, rfl, by simp⟩
  · refine .inr ⟨x, rfl, fun i u hu => h i u ?_⟩
    rw [List.getElem?_take] at hu
    split at hu
    · exact hu
    · cases hu

theorem inf_intW : (Try.prog.info? 3).map (fun i => (i.zero, i.size, i.bytes)) = some (some (.int .i64 0), 1, 8) := by kernel_rfl

theorem c_SameInts (a0 a1 : Option Addr) (n0 n1 c0 c1 : Nat) (l0 l1 : List Int) (w : World) (e0 : n0 = l0.length) (e1 : n1 = l1.length)
    (h0 : Reads w a0 c0 (l0.map (Value.int .i64))) (h1 : Reads w a1 c1 (l1.map (Value.int .i64))) (hm : n0 ≤ 1000000000) (hm1 : n1 ≤ 1000000000) :
    Calls Try.prog 27 #[.slice a0 n0 c0, .slice a1 n1 c1] w fun e w' => e = .returned (.bool (decide (l0 = l1))) ∧ Below w.heap.size w w' := by
  by_cases hl : n0 = n1
  · subst hl
    have E0 := Lib.hid e0
    have E1 := Lib.hid e1
    have H0 := Lib.hid h0
    have H1 := Lib.hid h1
    clear e0 e1 h0 h1
    go_enter Try.func27, Try.ntmps27
    go_wp2
    go_loopw [5] (fun i wr => ∃ k : Nat, k ≤ n0 ∧ i = .int .i64 k ∧ Hid (∀ j, j < k → l0.getD j 0 = l1.getD j 0) ∧ Hid (Below w.heap.size w wr)) (fun i _ => n0 - (intOf i).toNat)
    case atStart => exact ⟨0, Nat.zero_le _, rfl, fun j hj => by omega, Below.refl _ _⟩
    case round =>
      obtain ⟨k, hk, rfl, hz, hb⟩ := hrel
      by_cases hlt : k < n0
      · have hl0 : k < l0.length := by have := E0.out; omega
        have hl1 : k < l1.length := by have := E1.out; omega
        obtain ⟨b0, o0, rfl, _, hc0⟩ := (H0.out.below hb.out).at (by simp; omega)
        obtain ⟨b1, o1, rfl, _, hc1⟩ := (H1.out.below hb.out).at (by simp; omega)
        have k0 := hc0 k _ (getD_map8 hl0)
        have k1 := hc1 k _ (getD_map8 hl1)
        have HN := Lib.hid (fun h : l0.getD k 0 = l1.getD k 0 => (by
          intro j hj
          by_cases hjk : j = k
          · subst hjk; exact h
          · exact hz.out j (by omega) : ∀ j, j < k + 1 → l0.getD j 0 = l1.getD j 0))
        have HF := Lib.hid (fun h : l0.getD k 0 ≠ l1.getD k 0 => show l0 ≠ l1 from fun e => h (by rw [e]))
        clear hc0 hc1 hz
        generalize l0.getD k 0 = y0 at *
        generalize l1.getD k 0 = y1 at *
        by_cases hy : y0 = y1
        · subst hy
          have HN2 := Lib.hid (HN.out rfl)
          clear HN HF
          go_wp2
          go_region
          go_wp2
          go_roundw
          case rel => exact ⟨k + 1, by omega, by go_num, HN2.out, bDrew hb.out⟩
          case measure => simp [intOf]; omega
        · go_wp2
          go_region
          go_wp2
          go_ret
          exact ⟨by rw [decide_eq_false (HF.out hy)]; rfl, bDrew hb.out⟩
      · have hkl : k = n0 := by omega
        subst hkl
        have hEq := Lib.hid (show l0 = l1 from by
          apply List.ext_getElem (by rw [← E0.out, ← E1.out])
          intro i h1 h2
          have := hz.out i (by rw [E0.out]; exact h1)
          rwa [List.getD_eq_getElem?_getD, List.getElem?_eq_getElem h1, List.getD_eq_getElem?_getD, List.getElem?_eq_getElem h2] at this)
        go_wp2
        go_ret
        exact ⟨by rw [decide_eq_true hEq.out]; rfl, hb.out⟩
  · have HN := Lib.hid (show l0 ≠ l1 from fun e => hl (by rw [e0, e1, e]))
    clear e0 e1 h0 h1
    go_enter Try.func27, Try.ntmps27
    go_wp2
    go_ret
    exact ⟨by rw [decide_eq_false HN.out]; rfl, Below.refl _ _⟩

theorem c_SameIntsYesW (a0 a1 : Option Addr) (n c0 c1 : Nat) (l : List Int) (w : World) (e0 : n = l.length) (h0 : Reads w a0 c0 (l.map (Value.int .i64))) (h1 : Reads w a1 c1 (l.map (Value.int .i64))) (hm : n ≤ 1000000000) :
    Calls Try.prog 27 #[.slice a0 n c0, .slice a1 n c1] w fun e w' => e = .returned (.bool true) ∧ Below w.heap.size w w' := by
  have := c_SameInts a0 a1 n n c0 c1 l l w e0 e0 h0 h1 hm hm
  rwa [decide_eq_true rfl] at this

end Go.Proofs.Ytdedidjobjdekaa
