/-
  websterlaw20.same: a scheduler and the document's state that it is told by.
-/
import Derived.Test.YtbkaafbkmcgfjaaSchedAC
import Derived.Test.YtbkaafbkmcgfjaaSchedO
namespace Go.Proofs.Ytbkaafbkmcgfjaa
open Go.RowKit
set_option linter.unusedVariables false
set_option maxHeartbeats 4000000
set_option maxRecDepth 20000

theorem c_SameIntsT {a0 a1 : Option Addr} {n c0 c1 : Nat} {l : List Int} {w : World} (e0 : n = l.length) (h0 : Reads w a0 c0 (l.map (Value.int .i64))) (h1 : Reads w a1 c1 (l.map (Value.int .i64))) (hm : n ≤ 1000) :
    Calls Try.prog 25 #[.slice a0 n c0, .slice a1 n c1] w fun e w' => e = .returned (.bool true) ∧ Below w.heap.size w w' := by
  have := c_SameInts a0 a1 n n c0 c1 l l w e0 e0 h0 h1 (by omega) (by omega)
  rwa [decide_eq_true rfl] at this

theorem c_same {w : World} {m base B : Nat} {L : Lay} {x : RS} {a1 a2 : Option Addr} {c1 c2 : Nat} (hx : SX w m base B L x) (hv : RefV w a1 c1 a2 c2 x) (hB : B ≤ 1000000) (hnow : x.now ≤ 990000) :
    Calls Try.prog 23 #[.pointer (some ⟨m, 0, none⟩), refV a1 c1 a2 c2 x] w fun e w' => e = .returned (.bool true) ∧ Below w.heap.size w w' := by
  obtain ⟨W, hW⟩ : ∃ W, W = w.alloc (.cells #[.slice a1 x.P.length c1, .slice a2 x.sems.length c2, .int .i64 x.now] 41) := ⟨_, rfl⟩
  have hb : Below w.heap.size w W := by rw [hW]; exact (Below.refl _ _).alloc (Nat.le_refl _) _
  have hr : Row W w.heap.size 41 (refC a1 c1 a2 c2 x) := by rw [hW]; exact Row.made w _ _
  have HX := Lib.hid (hx.below hb)
  have HV := Lib.hid (hv.below hb)
  have HB := Lib.hid hb
  have hn := hx.inv.n
  have hm := hx.inv.m
  have HW := Lib.hid hW
  have hsz : w.heap.size ≤ W.heap.size := hb.size
  have HSZ := Lib.hid hsz
  obtain ⟨q0, hq0⟩ : ∃ q, q = w.heap.size := ⟨_, rfl⟩
  rw [← hq0] at hr
  have HQ0 := Lib.hid hq0
  have HR := Lib.hid hr
  have k0 := hr.cell (i := 0) rfl
  have k1 := hr.cell (i := 1) rfl
  have k2 := hr.cell (i := 2) rfl
  clear hx hv hb hr hW hsz hq0
  unfold refV
  go_enter Try.func23, Try.ntmps23
  go_wp2_with fail
  rw [← HW.out, ← HQ0.out]
  have HA1 := Lib.hid (x_Active (HX.out.below (bDrew (Below.refl _ W))))
  have hA2 := c_rActive (w := W.drew) (HV.out.below (bDrew (Below.refl _ W))) hn
  unfold refV at hA2
  have HA2 := Lib.hid hA2
  clear hA2
  generalize actR x = A at *
  refine wp_region_planH (fun z => z.cell? ⟨q0, 0, none⟩ = some (.slice a1 x.P.length c1) ∧ z.cell? ⟨q0, 1, none⟩ = some (.slice a2 x.sems.length c2) ∧ z.cell? ⟨q0, 2, none⟩ = some (.int .i64 x.now)) [(0, true), (2, true), (1, false), (3, false), (4, true)] (by kernel_rfl) (by kernel_rfl) (fun _ _ _ _ _ h => h) ⟨k0, k1, k2⟩ ?_
  (repeat (refine wpPlanH_free rfl (fun K hK => ?_); go_simp; (try go_bits); refine hK _ ?_; clear hK K))
  refine wpPlanH_load (.agg #[.slice a1 x.P.length c1, .slice a2 x.sems.length c2, .int .i64 x.now]) rfl rfl (fun x hS => by obtain ⟨s0, s1, s2⟩ := hS; go_simp) (fun K hK => ?_)
  refine hK _ ?_
  clear hK K
  refine wpPlanH_sole rfl ?_
  have HS : W.drew.cell? ⟨q0, 0, none⟩ = some (.slice a1 x.P.length c1) ∧ W.drew.cell? ⟨q0, 1, none⟩ = some (.slice a2 x.sems.length c2) ∧ W.drew.cell? ⟨q0, 2, none⟩ = some (.int .i64 x.now) := ⟨k0, k1, k2⟩
  have HS2 := Lib.hid HS
  clear k0 k1 k2 HS
  go_wp2_with fail
  refine HA1.out.mono ?_
  rintro e w' ⟨rfl, rfl⟩
  go_wp2
  refine ⟨HS2.out, ?_⟩
  refine wpPlanH_sole rfl ?_
  go_wp2_with fail
  refine HA2.out.mono ?_
  rintro e v3 ⟨rfl, b3⟩
  have hS3 := And.intro (cellKeep b3 HS2.out.1) (And.intro (cellKeep b3 HS2.out.2.1) (cellKeep b3 HS2.out.2.2))
  have b3' : Below W.heap.size W v3 := bNext (bDrew (Below.refl _ W)) b3
  have HB3 := Lib.hid b3'
  clear b3 b3' HA1 HA2 HS2
  go_wp2
  refine ⟨hS3, ?_⟩
  clear hS3
  (repeat (refine wpPlanH_free rfl (fun K hK => ?_); go_simp; (try go_bits); refine hK _ ?_; clear hK K))
  refine wpPlanH_nil ?_
  go_wp2
  have HX0 := Lib.hid HX.out
  have HV0 := Lib.hid HV.out
  have HR0 := Lib.hid HR.out
  go_loopw [5] (fun i wr => ∃ p : Nat, 1 ≤ p ∧ p ≤ 9 ∧ i = .int .i64 p ∧ Hid (Below W.heap.size W wr)) (fun i _ => 9 - (intOf i).toNat)
  case atStart => exact ⟨1, by omega, by omega, rfl, HB3.out⟩
  case round =>
    obtain ⟨p, hp1, hp9, rfl, HBr⟩ := hrel
    have HX := Lib.hid (HX0.out.below HBr.out)
    have HV := Lib.hid (HV0.out.below HBr.out)
    have hr := HR0.out.keep (l := []) (.of_below HBr.out) (by simp)
    have k0 := hr.cell (i := 0) rfl
    have k1 := hr.cell (i := 1) rfl
    have k2 := hr.cell (i := 2) rfl
    clear hr
    by_cases hlt : p ≤ 8
    · have HA1 := Lib.hid (x_Ready (HX.out.below (bDrew (Below.refl _ wr))) hB p hp1 hlt)
      have hlen := atL_len x 2 p
      generalize hL : atL x 2 p = l at *
      have HL := Lib.hid hL
      clear hL
      go_wp2_with fail
      refine wp_region_planH (fun z => z.cell? ⟨q0, 0, none⟩ = some (.slice a1 x.P.length c1) ∧ z.cell? ⟨q0, 1, none⟩ = some (.slice a2 x.sems.length c2) ∧ z.cell? ⟨q0, 2, none⟩ = some (.int .i64 x.now)) [(0, true), (1, true), (3, true), (4, true), (2, false), (5, false), (6, false), (7, true)] (by kernel_rfl) (by kernel_rfl) (fun _ _ _ _ _ h => h) ⟨k0, k1, k2⟩ ?_
      (repeat (refine wpPlanH_free rfl (fun K hK => ?_); go_simp; (try go_bits); refine hK _ ?_; clear hK K))
      refine wpPlanH_load (.agg #[.slice a1 x.P.length c1, .slice a2 x.sems.length c2, .int .i64 x.now]) rfl rfl (fun x hS => by obtain ⟨s0, s1, s2⟩ := hS; go_simp) (fun K hK => ?_)
      refine hK _ ?_
      clear hK K
      (repeat (refine wpPlanH_free rfl (fun K hK => ?_); go_simp; (try go_bits); refine hK _ ?_; clear hK K))
      refine wpPlanH_sole rfl ?_
      have HS : wr.drew.cell? ⟨q0, 0, none⟩ = some (.slice a1 x.P.length c1) ∧ wr.drew.cell? ⟨q0, 1, none⟩ = some (.slice a2 x.sems.length c2) ∧ wr.drew.cell? ⟨q0, 2, none⟩ = some (.int .i64 x.now) := ⟨k0, k1, k2⟩
      have HS2 := Lib.hid HS
      clear k0 k1 k2 HS
      go_wp2_with fail
      refine HA1.out.mono ?_
      rintro e v4 ⟨v, rfl, own, b4⟩
      obtain ⟨u1, e1, rfl, hR1, -, -⟩ := owns_reads own
      have HR1 := Lib.hid hR1
      have HS3 := Lib.hid (And.intro (cellKeep b4 HS2.out.1) (And.intro (cellKeep b4 HS2.out.2.1) (cellKeep b4 HS2.out.2.2)))
      have HB4 := Lib.hid (show Below W.heap.size W v4 from bNext HBr.out (bNext (bDrew (Below.refl _ wr)) b4))
      have hA2 := c_rAt (HV0.out.below HB4.out) hn (by omega) 2 p (by omega) (by omega)
      unfold refV at hA2
      rw [show ((2 : Nat) : Int) = 2 from rfl, HL.out] at hA2
      have HA2 := Lib.hid hA2
      clear own b4 hR1 hA2 HA1 HS2
      go_wp2
      refine ⟨HS3.out, ?_⟩
      refine wpPlanH_sole rfl ?_
      go_wp2_with fail
      refine HA2.out.mono ?_
      rintro e v5 ⟨v, rfl, own, b5⟩
      obtain ⟨u2, e2, rfl, hR2, -, -⟩ := owns_reads own
      have HC := Lib.hid (c_SameIntsT rfl (HR1.out.below b5) hR2 (by omega))
      have HS4 := Lib.hid (And.intro (cellKeep b5 HS3.out.1) (And.intro (cellKeep b5 HS3.out.2.1) (cellKeep b5 HS3.out.2.2)))
      have HB5 := Lib.hid (bNext HB4.out b5)
      clear own b5 hR2 HA2 HS3
      go_wp2
      refine ⟨HS4.out, ?_⟩
      refine wpPlanH_sole rfl ?_
      go_wp2_with fail
      refine HC.out.mono ?_
      rintro e v6 ⟨rfl, b6⟩
      have HS5 := Lib.hid (And.intro (cellKeep b6 HS4.out.1) (And.intro (cellKeep b6 HS4.out.2.1) (cellKeep b6 HS4.out.2.2)))
      have HB6 := Lib.hid (bNext HB5.out b6)
      clear b6 HC HS4
      go_wp2
      refine ⟨HS5.out, ?_⟩
      (repeat (refine wpPlanH_free rfl (fun K hK => ?_); go_simp; (try go_bits); refine hK _ ?_; clear hK K))
      refine wpPlanH_nil ?_
      go_wp2
      go_roundw
      case rel => exact ⟨p + 1, by omega, by omega, by go_num, HB6.out⟩
      case measure => simp [intOf]; omega
    · obtain rfl : p = 9 := by omega
      clear hlt
      rw [show Value.int .i64 ((9 : Nat) : Int) = Value.int .i64 9 from rfl]
      go_wp2
      go_loopw [6] (fun i wr => ∃ j : Nat, j ≤ x.sems.length ∧ i = .int .i64 ((j : Int) + 1) ∧ Hid (Below W.heap.size W wr)) (fun i _ => x.sems.length + 1 - (intOf i).toNat)
      case atStart => exact ⟨0, Nat.zero_le _, rfl, HBr.out⟩
      case round =>
        obtain ⟨j, hj, rfl, HBr⟩ := hrel
        have HX := Lib.hid (HX0.out.below HBr.out)
        have HV := Lib.hid (HV0.out.below HBr.out)
        have hr := HR0.out.keep (l := []) (.of_below HBr.out) (by simp)
        have k0 := hr.cell (i := 0) rfl
        have k1 := hr.cell (i := 1) rfl
        have k2 := hr.cell (i := 2) rfl
        clear hr
        by_cases hlt : j < x.sems.length
        · have HA1 := Lib.hid (x_Waiting HX.out hB j hlt)
          obtain ⟨s, hs⟩ : ∃ s, s = x.sems.getD j 0 := ⟨_, rfl⟩
          rw [← hs] at HA1
          have HSV := Lib.hid hs
          clear hs
          have hlen := atL_len x (3 + j) 0
          generalize hL : atL x (3 + j) 0 = l at *
          have HL := Lib.hid hL
          have e1 : (j : Int) + 1 - 1 = j := by omega
          clear hL
          go_wp2_with fail
          refine HA1.out.mono ?_
          rintro e v4 ⟨v, rfl, own, b4⟩
          obtain ⟨u1, d1, rfl, hR1, -, -⟩ := owns_reads own
          have HR1 := Lib.hid hR1
          have HB4 := Lib.hid (bNext HBr.out b4)
          have k0 := cellKeep b4 k0
          have k1 := cellKeep b4 k1
          have k2 := cellKeep b4 k2
          have hA2 := c_rAt (HV0.out.below HB4.out) hn (by omega) (3 + j) 0 (by omega) (by omega)
          unfold refV at hA2
          rw [show ((3 + j : Nat) : Int) = 2 + ((j : Int) + 1) from by omega, show ((0 : Nat) : Int) = 0 from rfl, HL.out] at hA2
          have HA2 := Lib.hid hA2
          clear own b4 hR1 hA2 HA1
          go_wp2_with fail
          refine HA2.out.mono ?_
          rintro e v5 ⟨v, rfl, own, b5⟩
          obtain ⟨u2, d2, rfl, hR2, -, -⟩ := owns_reads own
          have HC := Lib.hid (c_SameIntsT rfl (HR1.out.below b5) hR2 (by omega))
          have HB5 := Lib.hid (bNext HB4.out b5)
          have k0 := cellKeep b5 k0
          have k1 := cellKeep b5 k1
          have k2 := cellKeep b5 k2
          clear own b5 hR2 HA2
          go_wp2_with fail
          refine HC.out.mono ?_
          rintro e v6 ⟨rfl, b6⟩
          have HB6 := Lib.hid (bNext HB5.out b6)
          have k0 := cellKeep b6 k0
          have k2 := cellKeep b6 k2
          obtain ⟨sb, so, ha2, _, hsc⟩ := (HV0.out.below HB6.out).rs.at (by simp; omega)
          have ps : v6.cell? ⟨sb, so + j, none⟩ = some (.int .i64 (s : Int)) := by rw [HSV.out]; exact hsc j _ (intsN_get hlt)
          have k1 := cellKeep b6 k1
          rw [ha2] at k1
          clear ha2
          clear b6 HC hsc
          go_wp2
          go_roundw
          case rel => exact ⟨j + 1, by omega, by go_num, HB6.out⟩
          case measure => simp [intOf]; omega
        · obtain rfl : j = x.sems.length := by omega
          clear hlt
          go_wp2
          go_ret
          exact ⟨rfl, HB.out.trans (HBr.out.mono HSZ.out)⟩

end Go.Proofs.Ytbkaafbkmcgfjaa
