/-
  The walk of the law WordPut.
-/
import Derived.Test.YtiidbfopbkbhpaaWordLaws2
import Derived.Test.YtiidbfopbkbhpaaPlan
namespace Go.Proofs.Ytiidbfopbkbhpaa
open Go.RowKit Go.ChangeShapes Go.ChangeAt
set_option linter.unusedVariables false

set_option maxHeartbeats 1000000 in
theorem law_WordPut (a b : Int) (w : World) (w0 : (Lit.int .i64 a).wf = true) (w1 : (Lit.int .i64 b).wf = true) :
    Calls Try.prog 13 #[.int .i64 a, .int .i64 b] w fun e w' => e = .returned (.bool true) ∧ Below w.heap.size w w' := by
  obtain ⟨b0, b1⟩ := bounds_i64 w0
  obtain ⟨b2, b3⟩ := bounds_i64 w1
  clear w0 w1
  go_enter Try.func13, Try.ntmps13
  go_wp2_with fail
  refine (c_Put a _ b0 b1).mono ?_; rintro e w' ⟨rfl, rfl⟩
  go_wp2_with fail
  refine (c_GetPut _ _ _ a (wrap32 a) _ rfl (by omega) rfl (put_reads _ _ _ _)).mono ?_; rintro e w' ⟨rfl, rfl⟩
  go_wp2_with fail
  refine (c_All _ 2 _ [a, b] _ rfl (Reads.madeAt (xs := [.int .i64 a, .int .i64 b]) (by simp)) (by intro x hx; simp at hx; omega) (by omega)).mono ?_
  rintro e w' ⟨v, rfl, hown, hbel⟩
  obtain ⟨av, cv, rfl, hrd, hcv, _⟩ := owns_reads hown
  rw [show (allB [a, b]).length = 8 from rfl] at *
  obtain ⟨bv, ov, rfl, hbv, hcell⟩ := hrd.at (by simp [allB, put4])
  clear hown hrd
  have r0 : Reads w' (some ⟨w.heap.size, 0, none⟩) 4 ((put4 a).map (Value.int .u8)) := by
    refine Reads.below ((put_reads w a 4 _).alloc _) hbel
  have ra : Reads w' (some ⟨bv, ov, none⟩) cv ((put4 a).map (Value.int .u8)) := by
    refine .inr ⟨_, rfl, fun i u hu => ?_⟩
    rw [add_flat]; refine hcell i u ?_
    match i, hu with
    | 0, hu => exact hu
    | 1, hu => exact hu
    | 2, hu => exact hu
    | 3, hu => exact hu
    | i + 4, hu => simp [put4] at hu
  have rb : Reads w' (some ⟨bv, ov + 4, none⟩) (cv - 4) ((put4 b).map (Value.int .u8)) := by
    refine .inr ⟨_, rfl, fun i u hu => ?_⟩
    rw [add_flat, Nat.add_assoc]; refine hcell (4 + i) u ?_
    match i, hu with
    | 0, hu => exact hu
    | 1, hu => exact hu
    | 2, hu => exact hu
    | 3, hu => exact hu
    | i + 4, hu => simp [put4] at hu
  have h32 : wrap32 a % 4294967296 = a % 4294967296 := by unfold wrap32; omega
  have hc4 : ¬ cv = 4 := by omega
  have hc5 : (4 : Int) ≤ (cv : Int) := by omega
  have R0 := Lib.hid r0
  have RA := Lib.hid ra
  have RB := Lib.hid rb
  have HB := Lib.hid hbel
  clear r0 ra rb hcell hbel
  go_wp2_with fail
  refine wp_region_plan [(0, true), (1, true), (2, true), (3, true), (4, true), (5, true), (6, true), (7, true), (8, true), (9, true), (10, true), (11, true), (12, true), (13, true), (14, true), (15, true), (16, true), (17, true), (18, true), (19, true), (20, true), (21, true), (22, true), (23, false), (24, true), (25, true), (26, true), (27, true), (28, true), (29, false), (30, false), (31, true), (32, true), (33, false), (34, true), (35, true)] (by kernel_rfl) (by kernel_rfl) (fun _ _ _ _ _ h => h) ?_
  (repeat (refine wpPlan_free rfl (fun K hK => ?_); go_simp; (try go_bits); refine hK _ ?_; clear hK K))
  refine wpPlan_sole rfl ?_
  go_wp2_with (go_at_call 30; (with_reducible refine (c_Same _ _ _ _ _ _ (put4 a) (put4 a) _ (put4_len _).symm (put4_len _).symm (Reads.drew RA.out) (Reads.drew R0.out) (put4_byt _) (put4_byt _)).mono ?_); rintro e w' ⟨rfl, rfl⟩)
  (repeat (refine wpPlan_free rfl (fun K hK => ?_); go_simp; (try go_bits); refine hK _ ?_; clear hK K))
  refine wpPlan_sole rfl ?_
  go_wp2_with (go_at_call 28; refine (c_Put b _ b2 b3).mono ?_; rintro e w' ⟨rfl, rfl⟩)
  (repeat (refine wpPlan_free rfl (fun K hK => ?_); go_simp; (try go_bits); refine hK _ ?_; clear hK K))
  refine wpPlan_sole rfl ?_
  go_wp2_with (go_at_call 30; (with_reducible refine (c_Same _ _ _ _ _ _ (put4 b) (put4 b) _ (put4_len _).symm (put4_len _).symm (Reads.drew (Reads.alloc RB.out _)) (Reads.drew (put_reads _ b _ _)) (put4_byt _) (put4_byt _)).mono ?_); rintro e w' ⟨rfl, rfl⟩)
  (repeat (refine wpPlan_free rfl (fun K hK => ?_); go_simp; (try go_bits); refine hK _ ?_; clear hK K))
  refine wpPlan_sole rfl ?_
  go_wp2_with (go_at_call 16; refine (c_known _).mono ?_; rintro e w' ⟨rfl, hbel⟩)
  (repeat (refine wpPlan_free rfl (fun K hK => ?_); go_simp; (try go_bits); refine hK _ ?_; clear hK K))
  refine wpPlan_nil ?_
  go_wp2
  go_ret
  refine ⟨rfl, ?_⟩
  exact bNext (bDrew (bAlloc (bNext (bAlloc (bAlloc (Below.refl _ _))) HB.out))) hbel

end Go.Proofs.Ytiidbfopbkbhpaa
