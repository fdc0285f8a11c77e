/-
  Contracts of package heap: byPlace, order where all are in order.
-/
import Derived.Test.YtcecegcbkcdpjaaHeapC
namespace Go.Proofs.Ytcecegcbkcdpjaa
open Go.RowKit
set_option linter.unusedVariables false
set_option maxHeartbeats 4000000

theorem c_byPlace {w : World} {B h g : Nat} {vb : Value} {S : HpS} (H : HpAt w B h g vb S) (i j : Nat) (hi : i < S.bl.length) (hj : j < S.bl.length) (h1 : S.bl[i].at_ ≤ 32768) (h2 : S.bl[j].at_ ≤ 32768) :
    Calls Try.prog 47 #[.pointer (some ⟨h, 0, none⟩), .int .i64 i, .int .i64 j] w fun e w' => e = .returned (.int .i64 ((S.bl[i].at_ : Int) - (S.bl[j].at_ : Int))) ∧ Below w.heap.size w w' := by
  have k1 := H.head.cell (i := 1) rfl
  obtain ⟨b, c, hv, c0, -, -⟩ := blk_cells H.own hi
  obtain ⟨b', c', hv', d0, -, -⟩ := blk_cells H.own hj
  rw [hv] at hv'
  cases hv'
  subst hv
  clear H
  generalize S.bl[i].at_ = p at *
  generalize S.bl[j].at_ = q at *
  have hw : RowKit.wrap64 ((p : Int) - (q : Int)) = (p : Int) - (q : Int) := by unfold RowKit.wrap64; omega
  go_enter Try.func47, Try.ntmps47
  go_wp2_with fail
  refine wp_region_planH (fun z => z.cell? ⟨h, 1, none⟩ = some (.slice (some ⟨b, 0, none⟩) S.bl.length c) ∧ z.cell? ⟨b, i * 3, none⟩ = some (.int .i64 p) ∧ z.cell? ⟨b, j * 3, none⟩ = some (.int .i64 q)) [(0, true), (1, true), (2, true), (3, true), (4, true), (5, true), (6, true), (7, true), (8, true), (9, true), (10, true), (11, true), (12, true), (13, true), (14, true), (15, true), (16, true), (17, true)] (by kernel_rfl) (by kernel_rfl) (fun _ _ _ _ _ h => h) ⟨k1, c0, d0⟩ ?_
  clear k1 c0 d0
  have hbd : Below w.heap.size w w.drew := bDrew (Below.refl _ w)
  generalize w.drew = wd at *
  (repeat (refine wpPlanH_free rfl (fun K hK => ?_); go_simp; (try go_bits); refine hK _ ?_; clear hK K))
  refine wpPlanH_load (.slice (some ⟨b, 0, none⟩) S.bl.length c) rfl rfl (fun x hS => by obtain ⟨s0, s1, s2⟩ := hS; go_simp) (fun K hK => ?_)
  refine hK _ ?_
  clear hK K
  (repeat (refine wpPlanH_free rfl (fun K hK => ?_); go_simp; (try go_bits); refine hK _ ?_; clear hK K))
  refine wpPlanH_load (.int .i64 p) rfl rfl (fun x hS => by obtain ⟨s0, s1, s2⟩ := hS; go_simp) (fun K hK => ?_)
  refine hK _ ?_
  clear hK K
  (repeat (refine wpPlanH_free rfl (fun K hK => ?_); go_simp; (try go_bits); refine hK _ ?_; clear hK K))
  refine wpPlanH_load (.slice (some ⟨b, 0, none⟩) S.bl.length c) rfl rfl (fun x hS => by obtain ⟨s0, s1, s2⟩ := hS; go_simp) (fun K hK => ?_)
  refine hK _ ?_
  clear hK K
  (repeat (refine wpPlanH_free rfl (fun K hK => ?_); go_simp; (try go_bits); refine hK _ ?_; clear hK K))
  refine wpPlanH_load (.int .i64 q) rfl rfl (fun x hS => by obtain ⟨s0, s1, s2⟩ := hS; go_simp) (fun K hK => ?_)
  refine hK _ ?_
  clear hK K
  (repeat (refine wpPlanH_free rfl (fun K hK => ?_); go_simp; (try go_bits); refine hK _ ?_; clear hK K))
  refine wpPlanH_nil ?_
  go_wp2
  go_ret
  exact ⟨rfl, hbd⟩

end Go.Proofs.Ytcecegcbkcdpjaa
