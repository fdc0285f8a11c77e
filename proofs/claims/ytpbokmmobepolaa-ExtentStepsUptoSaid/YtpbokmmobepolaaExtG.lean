/-
  Contracts of package extent: lives, wipe.
-/
import Derived.Test.YtpbokmmobepolaaExtE
namespace Go.Proofs.Ytpbokmmobepolaa
open Go.RowKit Go.Maps
set_option linter.unusedVariables false
set_option maxHeartbeats 2000000

def liveE (b : Bool) : Int := match b with | true => 0 | false => 4
theorem c_lives {w : World} {I : SpI} {S : SpS} (h : SpAt w I S) (p n s : Int) (hx : exOk (p, n, s)) :
    Calls Try.prog 30 #[.pointer (some ⟨I.m, 0, none⟩), .agg #[.int .i64 p, .int .i64 n, .int .i64 s]] w fun e w' => e = .returned (.int .i64 (liveE (S.f (p, n, s)))) ∧ Below w.heap.size w w' := by
  have HH := Lib.hid h
  have HX := Lib.hid hx
  clear h hx
  go_enter Try.func30, Try.ntmps30
  obtain ⟨X, hX⟩ : ∃ X, X = w.heap.size := ⟨_, rfl⟩
  obtain ⟨W, hW⟩ : ∃ W, W = w.alloc (.cells #[.int .i64 p, .int .i64 n, .int .i64 s] 34) := ⟨_, rfl⟩
  have bW : Below w.heap.size w W := by rw [hW]; exact (Below.refl _ _).alloc (Nat.le_refl _) _
  have rX : Row W X 34 [.int .i64 p, .int .i64 n, .int .i64 s] := by rw [hW, hX]; exact Row.made w _ _
  have HS : Hid (SpAt W I S) := HH.out.below bW
  have HXX := Lib.hid hX
  have HBW := Lib.hid bW
  have HW := Lib.hid hW
  have k2 := HS.out.row.cell (i := 2) rfl
  have x0 := rX.cell (i := 0) rfl
  have x1 := rX.cell (i := 1) rfl
  have x2 := rX.cell (i := 2) rfl
  clear hX hW bW rX
  go_wp2_with fail
  rw [← HW.out, ← HXX.out]
  clear HW
  refine wp_region_planH (fun z => z.cell? ⟨I.m, 2, none⟩ = some (.map (some I.mp)) ∧ z.cell? ⟨X, 0, none⟩ = some (.int .i64 p) ∧ z.cell? ⟨X, 1, none⟩ = some (.int .i64 n) ∧ z.cell? ⟨X, 2, none⟩ = some (.int .i64 s) ∧ LiveAt z I.mp S.c S.f) [(0, true), (1, true), (2, true), (3, true), (4, true), (5, true), (6, true), (7, true)] (by kernel_rfl) (by kernel_rfl) (fun _ _ _ _ _ h => h) ⟨k2, x0, x1, x2, HS.out.lv.keep (l := []) (Upd.refl _ _).drew (by simp)⟩ ?_
  clear k2 x0 x1 x2
  (repeat (refine wpPlanH_free rfl (fun K hK => ?_); go_simp; (try go_bits); refine hK _ ?_; clear hK K))
  refine wpPlanH_load (.map (some I.mp)) rfl rfl (fun x hS => by obtain ⟨s0, s1, s2, s3, s4⟩ := hS; go_simp) (fun K hK => ?_)
  refine hK _ ?_
  clear hK K
  refine wpPlanH_load (.agg #[.int .i64 p, .int .i64 n, .int .i64 s]) rfl rfl (fun x hS => by obtain ⟨s0, s1, s2, s3, s4⟩ := hS; go_simp) (fun K hK => ?_)
  refine hK _ ?_
  clear hK K
  refine wpPlanH_load (.bool (S.f (p, n, s))) rfl rfl (fun x hS => by
    obtain ⟨s0, s1, s2, s3, s4⟩ := hS
    have h5 := s4.look HX.out
    unfold exV at h5
    go_simp) (fun K hK => ?_)
  refine hK _ ?_
  clear hK K
  (repeat (refine wpPlanH_free rfl (fun K hK => ?_); go_simp; (try go_bits); refine hK _ ?_; clear hK K))
  refine wpPlanH_nil ?_
  obtain ⟨v, hv⟩ : ∃ v, v = S.f (p, n, s) := ⟨_, rfl⟩
  rw [← hv]
  have bD : Below w.heap.size w W.drew := bDrew HBW.out
  generalize W.drew = wd at *
  have HBD := Lib.hid bD
  have HV := Lib.hid hv
  clear hv bD
  cases v
  · go_wp2
    go_ret
    exact ⟨by rw [← HV.out]; rfl, HBD.out⟩
  · go_wp2
    go_ret
    exact ⟨by rw [← HV.out]; rfl, HBD.out⟩

/-- Sectors of noughts. -/
theorem pad_nil (k : Nat) : filled (chunk [] k) = List.replicate 64 0 := by simp [filled, chunk]
def wiped (S : SpS) (F n : Nat) (s : Int) : SpS := { S with bs := splice S.bs (64 * F) (padS [] n), f := liveOut ((F : Int), (n : Int), s) S.f }

theorem c_wipe {w : World} {I : SpI} {S : SpS} (h : SpAt w I S) (F n : Nat) (s : Int) (hF : F + n ≤ S.N) (hx : exOk ((F : Int), (n : Int), s)) :
    Calls Try.prog 35 #[.pointer (some ⟨I.m, 0, none⟩), .agg #[.int .i64 F, .int .i64 n, .int .i64 s]] w fun e w' => e = .returned (.tuple #[]) ∧ SpAt w' I (wiped S F n s) ∧ Upd [I.dg, I.mp] w w' := by
  have hN := h.dk.small
  have HH := Lib.hid h
  have HEX := Lib.hid hx
  have HLT := Lib.hid h.lt
  clear h hx
  go_enter Try.func35, Try.ntmps35
  go_wp2
  obtain ⟨X, hX⟩ : ∃ X, X = w.heap.size := ⟨_, rfl⟩
  obtain ⟨W, hW⟩ : ∃ W, W = w.alloc (.cells #[.int .i64 F, .int .i64 n, .int .i64 s] 34) := ⟨_, rfl⟩
  have bW : Below w.heap.size w W := by rw [hW]; exact (Below.refl _ _).alloc (Nat.le_refl _) _
  have rX : Row W X 34 [.int .i64 F, .int .i64 n, .int .i64 s] := by rw [hW, hX]; exact Row.made w _ _
  have hXI : ∀ k ∈ I.all, k < X := by rw [hX]; exact HLT.out
  rw [← hW, ← hX]
  have HXI := Lib.hid hXI
  have HS : Hid (SpAt W I S) := HH.out.below bW
  have HXX := Lib.hid hX
  have HBW := Lib.hid bW
  have HRX := Lib.hid rX
  clear hX hW bW rX hXI
  go_loopw [7] (fun i wr => ∃ k : Nat, k ≤ n ∧ i = .int .i64 k ∧ Hid (SpAt wr I { S with bs := splice S.bs (64 * F) (padS [] k) }) ∧ Hid (Row wr X 34 [.int .i64 F, .int .i64 n, .int .i64 s]) ∧ Hid (Upd [I.dg] W wr)) (fun i _ => n - (intOf i).toNat)
  case atStart => exact ⟨0, Nat.zero_le _, rfl, by unfold Hid; rw [show padS [] 0 = [] from rfl, splice_none _ _ (by have := HS.out.dk.len; omega)]; exact HS.out, HRX.out, Upd.refl _ _⟩
  case round =>
    clear HRX
    obtain ⟨k, hk, rfl, HSK, HRX, HU⟩ := hrel
    have x0 := HRX.out.cell (i := 0) rfl
    by_cases hlt : k < n
    · have k0 := HSK.out.row.cell (i := 0) rfl
      go_wp2_with fail
      refine wp_region_planH (fun z => z.cell? ⟨I.m, 0, none⟩ = some (.pointer (some ⟨I.d, 0, none⟩)) ∧ z.cell? ⟨X, 0, none⟩ = some (.int .i64 F)) [(0, true), (1, true), (2, true), (3, true), (4, true), (5, true), (6, true), (7, true), (8, false), (9, false)] (by kernel_rfl) (by kernel_rfl) (fun _ _ _ _ _ h => h) ⟨k0, x0⟩ ?_
      have HS2 := Lib.hid (show wr.drew.cell? ⟨I.m, 0, none⟩ = some (.pointer (some ⟨I.d, 0, none⟩)) ∧ wr.drew.cell? ⟨X, 0, none⟩ = some (.int .i64 F) from ⟨k0, x0⟩)
      clear k0 x0
      (repeat (refine wpPlanH_free rfl (fun K hK => ?_); go_simp; (try go_bits); refine hK _ ?_; clear hK K))
      refine wpPlanH_load (.pointer (some ⟨I.d, 0, none⟩)) rfl rfl (fun x hS => by obtain ⟨s0, s1⟩ := hS; go_simp) (fun K hK => ?_)
      refine hK _ ?_
      clear hK K
      (repeat (refine wpPlanH_free rfl (fun K hK => ?_); go_simp; (try go_bits); refine hK _ ?_; clear hK K))
      refine wpPlanH_load (.int .i64 F) rfl rfl (fun x hS => by obtain ⟨s0, s1⟩ := hS; go_simp) (fun K hK => ?_)
      refine hK _ ?_
      clear hK K
      (repeat (refine wpPlanH_free rfl (fun K hK => ?_); go_simp; (try go_bits); refine hK _ ?_; clear hK K))
      refine wpPlanH_sole rfl ?_
      obtain ⟨vd, hvd⟩ : ∃ z, z = wr.drew := ⟨_, rfl⟩
      have hbd : Upd [] wr vd := by rw [hvd]; exact (Upd.refl _ wr).drew
      rw [← hvd] at HS2 ⊢
      clear hvd
      go_wp2
      have hb : Below vd.heap.size vd (vd.alloc (.cells #[.int .i64 ((F : Int) + k)] 3)) := (Below.refl _ _).alloc (Nat.le_refl _) _
      refine ⟨⟨cellKeep hb HS2.out.1, cellKeep hb HS2.out.2⟩, ?_⟩
      have hSV : SpAt vd I { S with bs := splice S.bs (64 * F) (padS [] k) } := HSK.out.keep hbd (by simp)
      have hRV := HRX.out.keep hbd (by simp)
      have hC := c_Clear _ _ _ _ _ _ _ (hSV.dk.keep (l := []) (.of_below hb) (by simp) (by simp)) (some ⟨vd.heap.size, 0, none⟩) 1 1 [(F : Int) + k] rfl (Reads.madeAt rfl) (fun x hx => by cases hx; have := hSV.dk.data.lt; simp; omega) (fun x hx => by simp at hx; subst hx; show 0 ≤ (F : Int) + k ∧ (F : Int) + k < (S.N : Int); omega) (by omega)
      have hcl : clearAll (splice S.bs (64 * F) (padS [] k)) [(F : Int) + k] = splice S.bs (64 * F) (padS [] (k + 1)) := by
        rw [← lay_step HH.out.dk.len (by omega), pad_nil]
        show splice _ (64 * ((F : Int) + k).toNat) _ = _
        rw [show ((F : Int) + k).toNat = F + k by omega]
      have HC := Lib.hid hC
      have HCL := Lib.hid hcl
      have HSV := Lib.hid hSV
      have HRV := Lib.hid hRV
      have HBV := Lib.hid (hbd.trans (.of_below hb))
      clear hC hcl hb hbd hSV hRV
      refine wpPlanH_sole rfl ?_
      go_wp2_with fail
      refine HC.out.mono ?_
      rintro e v ⟨rfl, hd, hu⟩
      rw [HCL.out] at hd
      have hu2 : Upd [I.dg] wr v := (HBV.out.mono (by simp)).trans hu
      have hSN := HSK.out.write hd (hu2.mono (by simp))
      have hne : X ∉ [I.dg] := fun hm => by
        have := HXI.out I.dg (by simp [SpI.all])
        simp at hm
        omega
      have HRN := Lib.hid (HRX.out.keep hu2 hne)
      have HSN : Hid (SpAt v I { S with bs := splice S.bs (64 * F) (padS [] (k + 1)) }) := hSN
      have HUN := Lib.hid (HU.out.trans hu2)
      clear hd hu hu2 hSN hne HC HCL HSV HRV HBV HS2
      go_wp2
      refine ⟨⟨HSN.out.row.cell (i := 0) rfl, HRN.out.cell (i := 0) rfl⟩, ?_⟩
      refine wpPlanH_nil ?_
      go_wp2
      go_roundw
      case rel => exact ⟨k + 1, by omega, by go_num, HSN.out, HRN.out, HUN.out⟩
      case measure => simp [intOf]; omega
    · obtain rfl : n = k := by omega
      have x1 := HRX.out.cell (i := 1) rfl
      have x2 := HRX.out.cell (i := 2) rfl
      have k2 := HSK.out.row.cell (i := 2) rfl
      clear hlt
      go_wp2_with fail
      refine wp_region_planH (fun z => z.cell? ⟨I.m, 2, none⟩ = some (.map (some I.mp)) ∧ z.cell? ⟨X, 0, none⟩ = some (.int .i64 F) ∧ z.cell? ⟨X, 1, none⟩ = some (.int .i64 n) ∧ z.cell? ⟨X, 2, none⟩ = some (.int .i64 s)) [(0, true), (1, true), (2, true), (3, true), (4, true), (5, false)] (by kernel_rfl) (by kernel_rfl) (fun _ _ _ _ _ h => h) ⟨k2, x0, x1, x2⟩ ?_
      clear k2 x0 x1 x2
      (repeat (refine wpPlanH_free rfl (fun K hK => ?_); go_simp; (try go_bits); refine hK _ ?_; clear hK K))
      refine wpPlanH_load (.map (some I.mp)) rfl rfl (fun x hS => by obtain ⟨s0, s1, s2, s3⟩ := hS; go_simp) (fun K hK => ?_)
      refine hK _ ?_
      clear hK K
      (repeat (refine wpPlanH_free rfl (fun K hK => ?_); go_simp; (try go_bits); refine hK _ ?_; clear hK K))
      refine wpPlanH_load (.agg #[.int .i64 F, .int .i64 n, .int .i64 s]) rfl rfl (fun x hS => by obtain ⟨s0, s1, s2, s3⟩ := hS; go_simp) (fun K hK => ?_)
      refine hK _ ?_
      clear hK K
      refine wpPlanH_sole rfl ?_
      refine wpList_dead rfl _ _ rfl I.mp S.c S.f rfl (HSK.out.lv.keep (l := []) (Upd.refl _ _).drew (by simp)) ((F : Int), (n : Int), s) HEX.out rfl ?_
      intro v2 hl hu
      have hu' : Upd [I.mp] wr v2 := ((Upd.refl _ _).drew).trans hu
      have hS2 := HSK.out.live hl hu'
      have hmX : X ∉ [I.mp] := fun hm => by
        have h1 := HXI.out I.mp (by simp [SpI.all])
        simp at hm
        omega
      have hX2 := HRX.out.keep hu' hmX
      refine ⟨⟨hS2.row.cell (i := 2) rfl, hX2.cell (i := 0) rfl, hX2.cell (i := 1) rfl, hX2.cell (i := 2) rfl⟩, ?_⟩
      have HS2 : Hid (SpAt v2 I (wiped S F n s)) := hS2
      have HU2 := Lib.hid hu'
      clear hl hu hu' hS2 hmX hX2
      refine wpPlanH_nil ?_
      go_wp2
      go_end0
      refine ⟨rfl, HS2.out, ?_⟩
      exact ((Upd.of_below HBW.out).trans (HU.out.mono (by simp))).trans (HU2.out.mono (by simp))

end Go.Proofs.Ytpbokmmobepolaa
