/-
  The law SchedSignals.
-/
import Derived.Test.YtbkaafbkmcgfjaaSchedO
namespace Go.Proofs.Ytbkaafbkmcgfjaa
open Go.RowKit
set_option linter.unusedVariables false
set_option maxHeartbeats 4000000
set_option maxRecDepth 20000

/-- One process of a priority: idle, active, waiting, active again; signals. -/
def zs (pp i : Nat) : RS := ⟨[⟨pp, 0, 0⟩], [i], 0⟩
def za (pp i : Nat) : RS := ⟨[⟨pp, 1, 2⟩], [i], 2⟩
def zw (pp : Nat) : RS := ⟨[⟨pp, 3, 3⟩], [0], 3⟩
def zb (pp : Nat) : RS := ⟨[⟨pp, 1, 5⟩], [0], 5⟩

theorem z_spawn (pp : Nat) (h1 : 1 ≤ pp) (h8 : pp ≤ 8) : spE newR pp = 0 ∧ spV newR pp = 1 ∧ spR newR pp = ⟨[⟨pp, 0, 0⟩], [], 0⟩ := by
  have hE : spE newR pp = 0 := by
    unfold spE
    rw [if_neg (by omega), if_neg (by decide)]
  refine ⟨hE, ?_, ?_⟩
  · unfold spV; rw [if_pos hE]; rfl
  · unfold spR; rw [if_pos hE]; rfl
theorem z_sem (pp : Nat) : smE ⟨[⟨pp, 0, 0⟩], [], 0⟩ = 0 ∧ smV ⟨[⟨pp, 0, 0⟩], [], 0⟩ = 1 ∧ smR ⟨[⟨pp, 0, 0⟩], [], 0⟩ = zs pp 0 := ⟨rfl, rfl, rfl⟩
theorem z_sig (pp i : Nat) : siE (zs pp i) 1 = 0 ∧ siR (zs pp i) 1 = zs pp (i + 1) := ⟨rfl, rfl⟩
theorem z_res (pp i : Nat) : rsE (zs pp i) [1] = 0 ∧ rsR (zs pp i) [1] = za pp i := ⟨rfl, rfl⟩
theorem z_act (pp i : Nat) : actR (za pp i) = 1 := rfl
theorem z_wait (pp i : Nat) : waE (za pp (i + 1)) 1 = 0 ∧ waR (za pp (i + 1)) 1 = za pp i := ⟨rfl, rfl⟩
theorem z_at (pp i : Nat) : atL (za pp i) 3 0 = [] := rfl
theorem z_wait0 (pp : Nat) : waE (za pp 0) 1 = 0 ∧ waR (za pp 0) 1 = zw pp := ⟨rfl, rfl⟩
theorem z_atw (pp : Nat) : atL (zw pp) 3 0 = [1] := rfl
theorem z_sigw (pp : Nat) : siE (zw pp) 1 = 0 ∧ siR (zw pp) 1 = zb pp := ⟨rfl, rfl⟩
theorem z_actb (pp : Nat) : actR (zb pp) = 1 ∧ actR (zw pp) = 0 := ⟨rfl, rfl⟩

theorem law_SchedSignals (a0 a1 : Int) (w : World) (w0 : (Lit.int .u8 a0).wf = true) (w1 : (Lit.int .u8 a1).wf = true) :
    Calls Try.prog 8 #[.int .u8 a0, .int .u8 a1] w fun e w' => e = .returned (.bool true) ∧ Below w.heap.size w w' := by
  have h0 := bounds_u8 w0
  have h1 := bounds_u8 w1
  clear w0 w1
  go_enter Try.func8, Try.ntmps8
  go_wp2_with fail
  refine (x_New _).mono ?_
  rintro e w1 ⟨L1, rfl, hx, hb⟩
  have HX := Lib.hid hx
  have HB := Lib.hid hb
  clear hx hb
  generalize hM : w.heap.size = M at *
  have HM := Lib.hid hM
  clear hM
  --BODY
  obtain ⟨pp, hpp⟩ : ∃ pp : Nat, 1 + a1 % 8 = (pp : Int) := ⟨(1 + a1 % 8).toNat, by omega⟩
  obtain ⟨N, hN⟩ : ∃ N : Nat, a0 % 50 = (N : Int) := ⟨(a0 % 50).toNat, by omega⟩
  have hp1 : 1 ≤ pp := by omega
  have hp8 : pp ≤ 8 := by omega
  have hN50 : N < 50 := by omega
  have hS := z_spawn pp hp1 hp8
  have HS := Lib.hid hS
  clear hS
  go_wp2_with fail
  refine (x_Spawn HX.out (by omega) (pp : Int)).mono ?_
  rw [HS.out.1, HS.out.2.1, HS.out.2.2]
  rintro e w2 ⟨L2, rfl, hx, hm⟩
  have HB := Lib.hid (bMov HB.out HX.out (Nat.le_refl _) hm)
  have HX : Hid (SX w2 M M 0 L2 ⟨[⟨pp, 0, 0⟩], [], 0⟩) := hx
  clear hx hm
  clear hpp
  go_wp2_with fail
  refine (x_Sem HX.out).mono ?_
  rw [(z_sem pp).1, (z_sem pp).2.1]
  rintro e w3 ⟨L3, rfl, hx, hm⟩
  have HB := Lib.hid (bMov HB.out HX.out (Nat.le_refl _) hm)
  have HX : Hid (SX w3 M M 0 L3 (zs pp 0)) := hx
  clear hx hm
  go_wp2
  go_loopw [10] (fun i wr => ∃ (k : Nat) (K : Lay), k ≤ N ∧ i = .int .i64 k ∧ Hid (SX wr M M k K (zs pp k)) ∧ Hid (Below M w wr)) (fun i _ => N - (intOf i).toNat)
  case atStart => exact ⟨0, _, Nat.zero_le _, rfl, HX.out, HB.out⟩
  case round =>
    obtain ⟨k, K, hk, rfl, HX, HB⟩ := hrel
    by_cases hlt : k < N
    · go_wp2_with fail
      refine (x_Signal HX.out (by omega) 1).mono ?_
      rw [(z_sig pp k).1, (z_sig pp k).2]
      rintro e w4 ⟨L4, rfl, hx, hm⟩
      have HB := Lib.hid (bMov HB.out HX.out (Nat.le_refl _) hm)
      have HX : Hid (SX w4 M M (k + 1) L4 (zs pp (k + 1))) := hx
      clear hx hm
      go_wp2
      go_roundw
      case rel => exact ⟨k + 1, _, by omega, by go_num, HX.out, HB.out⟩
      case measure => simp [intOf]; omega
    · obtain rfl : N = k := by omega
      go_wp2_with fail
      have b1 : Below wr.heap.size wr (wr.alloc (.cells #[.int .i64 1] 3)) := (Below.refl _ _).alloc (Nat.le_refl _) _
      have hlt := HX.out.lt
      refine (x_Resume (HX.out.below b1) (by omega) (some ⟨wr.heap.size, 0, none⟩) 1 1 [1] rfl (Reads.madeAt rfl) (Nat.le_refl _) (by omega) (fun y hy hm => by cases hy; exact absurd (hlt _ hm) (Nat.lt_irrefl _))).mono ?_
      rw [(z_res pp N).1, (z_res pp N).2]
      rintro e w5 ⟨L5, rfl, hx, hm⟩
      have HB := Lib.hid (bMov (bBel HB.out HX.out (Nat.le_refl _) b1) (HX.out.below b1) (Nat.le_refl _) hm)
      have HX : Hid (SX w5 M M N L5 (za pp N)) := hx
      clear hx hm
      clear b1 hlt
      go_wp2
      go_loopw [11] (fun i wr => ∃ (k : Nat) (K : Lay), k ≤ N ∧ i = .int .i64 k ∧ Hid (SX wr M M N K (za pp (N - k))) ∧ Hid (Below M w wr)) (fun i _ => N - (intOf i).toNat)
      case atStart => exact ⟨0, _, Nat.zero_le _, rfl, HX.out, HB.out⟩
      case round =>
        obtain ⟨k, K, hk, rfl, HX, HB⟩ := hrel
        by_cases hlt : k < N
        · obtain ⟨j, hj⟩ : ∃ j, N - k = j + 1 := ⟨N - k - 1, by omega⟩
          have hj2 : N - (k + 1) = j := by omega
          have hj3 : (N : Int) - (k : Int) = (j : Int) + 1 := by omega
          have HJ := Lib.hid hj2
          rw [hj] at HX
          clear hj hj2
          go_wp2_with fail
          refine (x_Waiting HX.out (by omega) 0 Nat.zero_lt_one).mono ?_
          rw [show atL (za pp (j + 1)) (3 + 0) 0 = [] from rfl, show (za pp (j + 1)).sems.getD 0 0 = j + 1 from rfl]
          rintro e w6 ⟨v, rfl, own, b5⟩
          obtain ⟨a6, c6, rfl, hR, hc, ha⟩ := owns_reads own
          have hlt := HX.out.lt
          have HLT := Lib.hid hlt
          have HB := Lib.hid (bBel HB.out HX.out (Nat.le_refl _) b5)
          have HX := Lib.hid (HX.out.below b5)
          have hRB : ∀ y, a6 = some y → wr.heap.size ≤ y.block := fun y hy => (ha y hy).1
          have HR := Lib.hid hR
          have HRB := Lib.hid hRB
          clear own b5 hR ha hRB hlt
          go_wp2_with fail
          refine (x_Wait HX.out (by omega) 1).mono ?_
          rw [(z_wait pp j).1, (z_wait pp j).2]
          rintro e w7 ⟨L7, rfl, hx, hm⟩
          have HB := Lib.hid (bMov HB.out HX.out (Nat.le_refl _) hm)
          have HX : Hid (SX w7 M M N L7 (za pp j)) := hx
          clear hx hm
          go_wp2_with fail
          refine (x_Active HX.out).mono ?_
          rw [z_act pp j]
          rintro e w' ⟨rfl, rfl⟩
          go_wp2
          go_roundw
          case rel => exact ⟨k + 1, _, by omega, by go_num, by rw [HJ.out]; exact HX.out, HB.out⟩
          case measure => simp [intOf]; omega
        · obtain rfl : N = k := by omega
          rw [Nat.sub_self] at HX
          go_wp2_with fail
          refine (x_Wait HX.out (by omega) 1).mono ?_
          rw [(z_wait0 pp).1, (z_wait0 pp).2]
          rintro e w8 ⟨L8, rfl, hx, hm⟩
          have HB := Lib.hid (bMov HB.out HX.out (Nat.le_refl _) hm)
          have HX : Hid (SX w8 M M N L8 (zw pp)) := hx
          clear hx hm
          go_wp2_with fail
          refine (x_Waiting HX.out (by omega) 0 Nat.zero_lt_one).mono ?_
          rw [show atL (zw pp) (3 + 0) 0 = [1] from rfl, show (zw pp).sems.getD 0 0 = 0 from rfl]
          rintro e w9 ⟨v, rfl, own, b5⟩
          obtain ⟨a9, c9, rfl, hR, hc, ha⟩ := owns_reads own
          have hlt := HX.out.lt
          have HLT := Lib.hid hlt
          have HB := Lib.hid (bBel HB.out HX.out (Nat.le_refl _) b5)
          have HX := Lib.hid (HX.out.below b5)
          have hRB : ∀ y, a9 = some y → w8.heap.size ≤ y.block := fun y hy => (ha y hy).1
          have HR := Lib.hid hR
          have HRB := Lib.hid hRB
          clear own b5 hR ha hRB hlt
          go_wp2_with fail
          refine (x_Active HX.out).mono ?_
          rw [(z_actb pp).2]
          rintro e w' ⟨rfl, rfl⟩
          go_wp2_with fail
          refine (x_Signal HX.out (by omega) 1).mono ?_
          rw [(z_sigw pp).1, (z_sigw pp).2]
          rintro e w10 ⟨L10, rfl, hx, hm⟩
          have HR := Lib.hid (hm.up.reads HR.out (fun y hy hmem => Nat.lt_irrefl _ (Nat.lt_of_lt_of_le (HLT.out _ hmem) (HRB.out y hy))))
          have HB := Lib.hid (bMov HB.out HX.out (Nat.le_refl _) hm)
          have HX : Hid (SX w10 M M (N + 1) L10 (zb pp)) := hx
          clear hx hm
          go_wp2_with fail
          refine (c_SameInts a9 (some ⟨w10.heap.size, 0, none⟩) 1 1 c9 1 [1] [1] _ rfl rfl (HR.out.alloc _) (Reads.madeAt rfl) (by decide) (by decide)).mono ?_
          rw [show decide (([1] : List Int) = [1]) = true from rfl]
          rintro e w99 ⟨rfl, b7⟩
          have b6 : Below w10.heap.size w10 w99 := ((Below.refl _ _).alloc (Nat.le_refl _) _).trans (b7.mono (by simp))
          have HB := Lib.hid (bBel HB.out HX.out (Nat.le_refl _) b6)
          have HX := Lib.hid (HX.out.below b6)
          clear b6 b7
          go_wp2_with fail
          refine (x_Active HX.out).mono ?_
          rw [(z_actb pp).1]
          rintro e w' ⟨rfl, rfl⟩
          go_wp2_with fail
          refine (c_known20 _).mono ?_
          rintro e w' ⟨rfl, bk⟩
          have HB := Lib.hid (bBel HB.out HX.out (Nat.le_refl _) bk)
          clear bk
          go_wp2
          go_ret
          exact ⟨rfl, by rw [HM.out]; exact HB.out⟩

end Go.Proofs.Ytbkaafbkmcgfjaa
