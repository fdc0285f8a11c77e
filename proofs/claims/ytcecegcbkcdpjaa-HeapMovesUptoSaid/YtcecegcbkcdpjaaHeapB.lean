/-
  Contracts of package heap: New, Read.
-/
import Derived.Test.YtcecegcbkcdpjaaHeapA
namespace Go.Proofs.Ytcecegcbkcdpjaa
open Go.RowKit
set_option linter.unusedVariables false
set_option maxHeartbeats 4000000

theorem inf_u16 : (Try.prog.info? 56).map (fun i => (i.zero, i.size, i.bytes)) = some (some (.int .u16 0), 1, 2) := by kernel_rfl
def newH (N : Nat) : HpS := ⟨N, List.replicate N 0, []⟩

theorem c_HNewNo (k : Int) (w : World) (h : k < 0 ∨ 32768 < k) : Calls Try.prog 25 #[.int .i64 k] w fun e w' => e = .returned (.tuple #[.pointer none, .int .i64 2]) ∧ w = w' := by
  by_cases h0 : k < 0
  · go_enter Try.func25, Try.ntmps25
    go_wp2
    go_ret2
    exact ⟨rfl, rfl⟩
  · have h1 : 32768 < k := by omega
    clear h
    go_enter Try.func25, Try.ntmps25
    go_wp2
    go_ret2
    exact ⟨rfl, rfl⟩

theorem c_HNew (N : Nat) (w : World) (hN : N ≤ 32768) : Calls Try.prog 25 #[.int .i64 N] w fun e w' => ∃ h g, e = .returned (.tuple #[.pointer (some ⟨h, 0, none⟩), .int .i64 0]) ∧ HpAt w' w.heap.size h g (.slice none 0 0) (newH N) ∧ h ≠ g ∧ Below w.heap.size w w' := by
  go_enter Try.func25, Try.ntmps25
  go_wp2_with (at_make; refine wpList_mk rfl _ _ 55 rfl 56 (.int .u16 0) 2 Try.underlying55 inf_u16 rfl .i64 .i64 _ _ N rfl rfl rfl rfl (by omega) (by unfold maxLen; omega) ?_)
  intro w2 row upd
  have lt := row.lt
  have HRr := Lib.hid row
  have HU := Lib.hid upd
  clear row upd
  go_wp2
  go_ret2
  refine ⟨w2.heap.size, w.heap.size, rfl, ⟨Row.made _ _ _, ?_, World.ownsRow_nil _ _ _ _, by simp [newH], hN, Nat.zero_le _, ⟨by omega, Nat.le_refl _⟩, ?_⟩, by omega, (HU.out.alloc _).below (Nat.le_refl _) (by simp)⟩
  · show Row _ _ _ ((List.replicate N 0).map (Value.int .u16))
    rw [List.map_replicate]; exact HRr.out.alloc _
  · intro x hx
    rw [List.eq_of_mem_replicate hx]; omega

theorem c_Read {w : World} {B h g : Nat} {vb : Value} {S : HpS} (H : HpAt w B h g vb S) (m : Nat) (hm : m < S.bl.length) (hu : S.bl[m].used = true) (i : Nat) (hi : i < S.bl[m].n) (hN : S.bl[m].at_ + S.bl[m].n ≤ S.N) :
    Calls Try.prog 35 #[.pointer (some ⟨h, 0, none⟩), .int .i64 m, .int .i64 i] w fun e w' => e = .returned (.tuple #[.int .i64 (S.ws.getD (S.bl[m].at_ + i) 0), .int .i64 0]) ∧ Below w.heap.size w w' := by
  have HC := Lib.hid (c_has H m)
  rw [hasB_is hm hu] at HC
  have k0 := H.head.cell (i := 0) rfl
  have k1 := H.head.cell (i := 1) rfl
  have hsm := H.small
  have hlt : S.bl[m].at_ + i < S.ws.length := by rw [H.len]; omega
  have kw := H.data.cell (i := S.bl[m].at_ + i) (v := .int .u16 (S.ws.getD (S.bl[m].at_ + i) 0)) (by simp [hlt])
  have hwd := H.word (S.ws.getD (S.bl[m].at_ + i) 0) (by rw [List.getD_eq_getElem?_getD, List.getElem?_eq_getElem hlt]; exact List.getElem_mem hlt)
  obtain ⟨b, c, hv, c0, c1, c2⟩ := blk_cells H.own hm
  subst hv
  generalize S.ws.getD (S.bl[m].at_ + i) 0 = x at *
  generalize S.bl[m].at_ = at' at *
  generalize S.bl[m].n = n at *
  have hx0 : (0 : Int) ≤ (at' : Int) + (i : Int) := by omega
  have hx1 : (at' : Int) + (i : Int) < (S.N : Int) := by omega
  have hx2 : ((at' : Int) + (i : Int)).toNat = at' + i := by omega
  clear H hu hlt c2
  go_enter Try.func35, Try.ntmps35
  go_wp2_with fail
  refine HC.out.mono ?_
  rintro e w' ⟨rfl, rfl⟩
  go_wp2_with fail
  refine wp_region_planH (fun z => z.cell? ⟨h, 0, none⟩ = some (.slice (some ⟨g, 0, none⟩) S.N S.N) ∧ z.cell? ⟨h, 1, none⟩ = some (.slice (some ⟨b, 0, none⟩) S.bl.length c) ∧ z.cell? ⟨b, m * 3, none⟩ = some (.int .i64 at') ∧ z.cell? ⟨g, at' + i, none⟩ = some (.int .u16 x)) [(0, true), (1, true), (2, true), (3, true), (4, true), (5, true), (6, true), (7, true), (8, true), (9, true), (10, true), (11, true), (12, true), (13, true), (14, true), (15, true), (16, true), (17, true), (18, true)] (by kernel_rfl) (by kernel_rfl) (fun _ _ _ _ _ h => h) ⟨k0, k1, c0, kw⟩ ?_
  clear k0 k1 c0 kw
  have hbd : Below w.heap.size w w.drew := bDrew (Below.refl _ w)
  generalize w.drew = wd at *
  (repeat (refine wpPlanH_free rfl (fun K hK => ?_); go_simp; (try go_bits); refine hK _ ?_; clear hK K))
  refine wpPlanH_load (.slice (some ⟨g, 0, none⟩) S.N S.N) rfl rfl (fun x hS => by obtain ⟨s0, s1, s2, s3⟩ := hS; go_simp) (fun K hK => ?_)
  refine hK _ ?_
  clear hK K
  (repeat (refine wpPlanH_free rfl (fun K hK => ?_); go_simp; (try go_bits); refine hK _ ?_; clear hK K))
  refine wpPlanH_load (.slice (some ⟨b, 0, none⟩) S.bl.length c) rfl rfl (fun x hS => by obtain ⟨s0, s1, s2, s3⟩ := hS; go_simp) (fun K hK => ?_)
  refine hK _ ?_
  clear hK K
  (repeat (refine wpPlanH_free rfl (fun K hK => ?_); go_simp; (try go_bits); refine hK _ ?_; clear hK K))
  refine wpPlanH_load (.int .i64 at') rfl rfl (fun x hS => by obtain ⟨s0, s1, s2, s3⟩ := hS; go_simp) (fun K hK => ?_)
  refine hK _ ?_
  clear hK K
  (repeat (refine wpPlanH_free rfl (fun K hK => ?_); go_simp; (try go_bits); refine hK _ ?_; clear hK K))
  refine wpPlanH_load (.int .u16 x) rfl rfl (fun x hS => by obtain ⟨s0, s1, s2, s3⟩ := hS; go_simp) (fun K hK => ?_)
  refine hK _ ?_
  clear hK K
  (repeat (refine wpPlanH_free rfl (fun K hK => ?_); go_simp; (try go_bits); refine hK _ ?_; clear hK K))
  refine wpPlanH_nil ?_
  go_wp2
  go_ret2
  exact ⟨rfl, hbd⟩

end Go.Proofs.Ytcecegcbkcdpjaa
