/-
  Contracts of package extent: Get.
-/
import Derived.Test.YtpbokmmobepolaaExtG
namespace Go.Proofs.Ytpbokmmobepolaa
open Go.RowKit Go.Maps
set_option linter.unusedVariables false
set_option maxHeartbeats 2000000

theorem livesYes {w : World} {I : SpI} {S : SpS} (h : SpAt w I S) (p n s : Int) (hx : exOk (p, n, s)) (hf : S.f (p, n, s) = true) :
    Calls Try.prog 30 #[.pointer (some ⟨I.m, 0, none⟩), .agg #[.int .i64 p, .int .i64 n, .int .i64 s]] w fun e w' => e = .returned (.int .i64 0) ∧ Below w.heap.size w w' := by
  have := c_lives h p n s hx
  rw [hf] at this
  exact this
theorem livesNo {w : World} {I : SpI} {S : SpS} (h : SpAt w I S) (p n s : Int) (hx : exOk (p, n, s)) (hf : S.f (p, n, s) = false) :
    Calls Try.prog 30 #[.pointer (some ⟨I.m, 0, none⟩), .agg #[.int .i64 p, .int .i64 n, .int .i64 s]] w fun e w' => e = .returned (.int .i64 4) ∧ Below w.heap.size w w' := by
  have := c_lives h p n s hx
  rw [hf] at this
  exact this

theorem SpAt.reading {w w' : World} {I : SpI} {S : SpS} (h : SpAt w I S) {r : Nat} (hd : DiskAt w' I.d I.dg S.N r S.q S.bs) (u : Upd [I.d] w w') : SpAt w' I { S with r := r } := by
  have hne := h.ne
  simp [SpI.all] at hne
  exact ⟨h.row.keep u (by simp; omega), hd, h.bt.keep u (by simp; omega) (by simp; omega), h.lv.keep u (by simp; omega), h.ne⟩

theorem exOk_nat {F n s : Nat} (h1 : F ≤ 1000000) (h2 : n ≤ 1000000) (h3 : s ≤ 100000000) : exOk ((F : Int), (n : Int), (s : Int)) :=
  ⟨wf_i64 (by show _ ≤ (F : Int); omega) (by show (F : Int) ≤ _; omega), wf_i64 (by show _ ≤ (n : Int); omega) (by show (n : Int) ≤ _; omega), wf_i64 (by show _ ≤ (s : Int); omega) (by show (s : Int) ≤ _; omega)⟩

theorem c_EGetNo {w : World} {I : SpI} {S : SpS} (h : SpAt w I S) (p n s : Int) (hx : exOk (p, n, s)) (hf : S.f (p, n, s) = false) :
    Calls Try.prog 13 #[.pointer (some ⟨I.m, 0, none⟩), .agg #[.int .i64 p, .int .i64 n, .int .i64 s]] w fun e w' => e = .returned (.tuple #[.slice none 0 0, .int .i64 4]) ∧ Below w.heap.size w w' := by
  have bW : Below w.heap.size w (w.alloc (.cells #[.int .i64 p, .int .i64 n, .int .i64 s] 34)) := (Below.refl _ _).alloc (Nat.le_refl _) _
  have HC := Lib.hid (livesNo (h.below bW) p n s hx hf)
  have HB := Lib.hid bW
  clear h hx hf bW
  go_enter Try.func13, Try.ntmps13
  go_wp2_with fail
  refine HC.out.mono ?_
  rintro e w' ⟨rfl, hb⟩
  have HB := Lib.hid (bNext HB.out hb)
  clear hb HC
  go_wp2
  go_ret2
  exact ⟨rfl, HB.out⟩

theorem reads_cap {w : World} {a : Option Addr} {c c' : Nat} {xs : List Value} (h : Reads w a c xs) (hc : a = none → c' = 0) : Reads w a c' xs := by
  rcases h with ⟨h1, -, h3⟩ | h
  · exact .inl ⟨h1, hc h1, h3⟩
  · exact .inr h
def GetPost (I : SpI) (S : SpS) (F n sz : Nat) (w : World) (e : Ending) (w' : World) : Prop :=
  ∃ a c, e = .returned (.tuple #[.slice a sz c, .int .i64 0]) ∧ Reads w' a c (((S.bs.drop (64 * F)).take sz).map (Value.int .u8)) ∧ (∀ y, a = some y → w.heap.size ≤ y.block) ∧ SpAt w' I { S with r := S.r + n } ∧ Upd [I.d] w w'

theorem sector_snoc (bs : List Int) (F k : Nat) : (bs.drop (64 * F)).take (64 * k) ++ sector bs (F + k) = (bs.drop (64 * F)).take (64 * (k + 1)) := by
  unfold sector
  rw [show 64 * (k + 1) = 64 * k + 64 by omega, List.take_add, List.drop_drop]
  congr 3
  omega

theorem c_EGet {w : World} {I : SpI} {S : SpS} (h : SpAt w I S) (F n sz : Nat) (hF : F + n ≤ S.N) (hsz : sz ≤ 64 * n) (hr : S.r + n < 1000000) (hf : S.f ((F : Int), (n : Int), (sz : Int)) = true) :
    Calls Try.prog 13 #[.pointer (some ⟨I.m, 0, none⟩), .agg #[.int .i64 F, .int .i64 n, .int .i64 sz]] w (GetPost I S F n sz w) := by
  have hN := h.dk.small
  have hlen := h.dk.len
  have HLEN := Lib.hid hlen
  clear hlen
  obtain ⟨X, hX⟩ : ∃ X, X = w.heap.size := ⟨_, rfl⟩
  obtain ⟨W, hW⟩ : ∃ W, W = w.alloc (.cells #[.int .i64 F, .int .i64 n, .int .i64 sz] 34) := ⟨_, rfl⟩
  have bW : Below w.heap.size w W := by rw [hW]; exact (Below.refl _ _).alloc (Nat.le_refl _) _
  have rX : Row W X 34 [.int .i64 F, .int .i64 n, .int .i64 sz] := by rw [hW, hX]; exact Row.made w _ _
  have hWs : W.heap.size = X + 1 := by rw [hW, hX]; simp
  have hXI : ∀ k ∈ I.all, k < X := by rw [hX]; exact h.lt
  have HS := Lib.hid (h.below bW)
  have HXX := Lib.hid hX
  have HW := Lib.hid hW
  have HWS := Lib.hid hWs
  have HXI := Lib.hid hXI
  have HBW := Lib.hid bW
  have HRX := Lib.hid rX
  have HC := Lib.hid (livesYes HS.out (F : Int) (n : Int) (sz : Int) (exOk_nat (by omega) (by omega) (by omega)) hf)
  clear h hX hW bW rX hXI hWs hf
  go_enter Try.func13, Try.ntmps13
  go_wp2_with fail
  rw [← HW.out, ← HXX.out]
  clear HW
  refine HC.out.mono ?_
  rintro e w1 ⟨rfl, hb⟩
  have r1 := HRX.out.keep (l := []) (.of_below hb) (by simp)
  have x1 := r1.cell (i := 1) rfl
  have HS1 := Lib.hid (HS.out.below hb)
  have HU1 : Hid (Upd [I.d] W w1) := Upd.of_below hb
  have HR1 := Lib.hid r1
  clear hb HC r1
  go_wp2_with fail
  go_loopw [7, 19] (fun o i wr => ∃ k : Nat, k ≤ n ∧ i = .int .i64 k ∧ Hid (SpAt wr I { S with r := S.r + k }) ∧ Hid (wr.ownsRow (X + 1) 5 1 o (64 * k) (((S.bs.drop (64 * F)).take (64 * k)).map (Value.int .u8))) ∧ Hid (Row wr X 34 [.int .i64 F, .int .i64 n, .int .i64 sz]) ∧ Hid (Upd [I.d] W wr)) (fun _ i _ => n - (intOf i).toNat)
  case atStart => exact ⟨0, Nat.zero_le _, rfl, HS1.out, by unfold Hid; exact World.ownsRow_nil _ _ _ _, HR1.out, HU1.out⟩
  case round =>
    clear HS1 HR1 HU1 x1
    obtain ⟨k, hk, rfl, HSK, HOK, HRX, HU⟩ := hrel
    by_cases hlt : k < n
    · have x0 := HRX.out.cell (i := 0) rfl
      have k0 := HSK.out.row.cell (i := 0) rfl
      go_wp2_with fail
      refine wp_region_planH (fun z => z.cell? ⟨I.m, 0, none⟩ = some (.pointer (some ⟨I.d, 0, none⟩)) ∧ z.cell? ⟨X, 0, none⟩ = some (.int .i64 F)) [(0, true), (1, true), (2, true), (3, true), (4, true), (5, true), (6, true), (7, true), (8, false), (9, true), (10, true), (11, true), (12, true), (13, true)] (by kernel_rfl) (by kernel_rfl) (fun _ _ _ _ _ h => h) ⟨k0, x0⟩ ?_
      have HS2 := Lib.hid (show wr.drew.cell? ⟨I.m, 0, none⟩ = some (.pointer (some ⟨I.d, 0, none⟩)) ∧ wr.drew.cell? ⟨X, 0, none⟩ = some (.int .i64 F) from ⟨k0, x0⟩)
      clear k0 x0
      (repeat (refine wpPlanH_free rfl (fun K hK => ?_); go_simp; (try go_bits); refine hK _ ?_; clear hK K))
      refine wpPlanH_load (.pointer (some ⟨I.d, 0, none⟩)) rfl rfl (fun x hS => by obtain ⟨s0, s1⟩ := hS; go_simp) (fun K hK => ?_)
      refine hK _ ?_
      clear hK K
      (repeat (refine wpPlanH_free rfl (fun K hK => ?_); go_simp; (try go_bits); refine hK _ ?_; clear hK K))
      refine wpPlanH_load (.int .i64 F) rfl rfl (fun x hS => by obtain ⟨s0, s1⟩ := hS; go_simp) (fun K hK => ?_)
      refine hK _ ?_
      clear hK K
      (repeat (refine wpPlanH_free rfl (fun K hK => ?_); go_simp; (try go_bits); refine hK _ ?_; clear hK K))
      refine wpPlanH_sole rfl ?_
      have hRD := c_Read _ _ _ _ _ _ wr.drew (HSK.out.dk.keep (l := []) (Upd.refl _ _).drew (by simp) (by simp)) (by show S.r + k < 1000000; omega) (F + k) (by show F + k < S.N; omega)
      rw [Int.natCast_add] at hRD
      have HRD := Lib.hid hRD
      clear hRD
      go_wp2_with fail
      refine HRD.out.mono ?_
      rintro e v ⟨sv, rfl, own, hd, hu⟩
      have hu2 : Upd [I.d] wr v := ((Upd.refl _ _).drew).trans hu
      have hne : X ∉ [I.d] := fun hm => by
        have := HXI.out I.d (by simp [SpI.all])
        simp at hm
        omega
      have HSN : Hid (SpAt v I { S with r := S.r + (k + 1) }) := HSK.out.reading hd hu2
      have HRN := Lib.hid (HRX.out.keep hu2 hne)
      have HON := Lib.hid (hu2.owns HOK.out (fun j hj hm => by
        have h1 := (HOK.out.lt j hj).1
        have h2 := HXI.out I.d (by simp [SpI.all])
        simp at hm
        omega))
      obtain ⟨sa, sc, rfl, hsr, -, -⟩ := owns_reads own
      have HSR := Lib.hid hsr
      have HUN := Lib.hid (HU.out.trans hu2)
      have hXlt : X + 1 ≤ v.heap.size := by have h1 := HUN.out.size; have h2 := HWS.out; omega
      clear own hd hu hu2 hne HRD HS2 hsr
      go_wp2
      refine ⟨⟨HSN.out.row.cell (i := 0) rfl, HRN.out.cell (i := 0) rfl⟩, ?_⟩
      (repeat (refine wpPlanH_free rfl (fun K hK => ?_); go_simp; (try go_bits); refine hK _ ?_; clear hK K))
      refine wpPlanH_nil ?_
      go_wp2_with (at_builtin; refine wpList_app rfl _ _ 27 rfl (X + 1) 5 (.int .u8 0) 1 1 Try.underlying27 inf_u8 rfl (by decide) _ (64 * k) _ rfl HON.out sa 64 sc _ rfl (by have := HLEN.out; simp [sector]; omega) HSR.out (ints_one _ _) (by unfold maxLen; omega) (by omega) hXlt ?_)
      intro v' v2 own gr
      rw [← List.map_drop, ← List.map_take, ← List.map_append, sector_snoc] at own
      have hbk : ∀ j, u7.ownBlock = some j → X + 1 ≤ j := fun j hj => (HON.out.lt j hj).1
      have hu3 : Upd u7.ownBlock.toList v v2 := ⟨gr.os, gr.tape, gr.output, gr.size, fun j hj hn => gr.block j hj (fun e => hn (by rw [← e]; simp))⟩
      have hni : ∀ j, j ≤ X → j ∉ u7.ownBlock.toList := fun j hj hm => by
        have := hbk j (by simpa using hm)
        omega
      have HSM := Lib.hid (HSN.out.keep hu3 (fun j hj => hni j (by have := HXI.out j hj; omega)))
      have HRM := Lib.hid (HRN.out.keep hu3 (hni X (Nat.le_refl _)))
      have HUM : Hid (Upd [I.d] W v2) := Upd.new (m := I.d :: u7.ownBlock.toList) ((HUN.out.mono (by simp)).trans (hu3.mono (fun j hj => List.mem_cons_of_mem _ hj))) (fun j hj => by
        rcases List.mem_cons.1 hj with h1 | h1
        · exact .inl (by simp [h1])
        · refine .inr ?_
          have h2 := hbk j (by simpa using h1)
          have h3 := HWS.out
          omega)
      have HOM : Hid (v2.ownsRow (X + 1) 5 1 v' (64 * (k + 1)) (((S.bs.drop (64 * F)).take (64 * (k + 1))).map (Value.int .u8))) := own
      clear own gr hu3 hni hbk HSN HRN HON HSR HUN
      go_wp2
      go_roundw
      case rel => exact ⟨k + 1, by omega, by go_num, HSM.out, HOM.out, HRM.out, HUM.out⟩
      case measure => simp [intOf]; omega
    · obtain rfl : n = k := by omega
      have x2 := HRX.out.cell (i := 2) rfl
      obtain ⟨oa, oc, rfl, hr0, hc0, hb0⟩ := owns_reads HOK.out
      have i1 : (sz : Int) ≤ (oc : Int) := by omega
      clear hlt
      go_wp2_with fail
      go_ret2
      have hrr : Reads wr oa sz (((S.bs.drop (64 * F)).take sz).map (Value.int .u8)) := by
        have h1 := reads_pre hr0 sz
        rw [← List.map_take, List.take_take, Nat.min_eq_left hsz] at h1
        exact reads_cap h1 (fun h0 => by
          rcases hr0 with ⟨-, h2, -⟩ | ⟨y, h2, -⟩
          · omega
          · rw [h0] at h2; cases h2)
      refine ⟨oa, sz, rfl, hrr, fun y hy => ?_, HSK.out, (Upd.of_below HBW.out).trans HU.out⟩
      have h1 := (hb0 y hy).1
      have h2 := HXX.out
      omega

end Go.Proofs.Ytpbokmmobepolaa
