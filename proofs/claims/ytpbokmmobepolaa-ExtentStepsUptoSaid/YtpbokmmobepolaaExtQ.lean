/-
  Contracts of package extent: Set. (Written by esgen.py.)
-/
import Derived.Test.YtpbokmmobepolaaExtP
namespace Go.Proofs.Ytpbokmmobepolaa
open Go.RowKit Go.Maps
set_option linter.unusedVariables false
set_option maxHeartbeats 4000000

def SetPost (I : SpI) (S : SpS) (F n sz : Nat) (d : List Int) (w : World) (e : Ending) (w' : World) : Prop :=
  Upd [I.d, I.dg, I.mp, I.bg] w w' ∧
  ((secs d.length = n ∧ e = .returned (.tuple #[.agg #[.int .i64 F, .int .i64 (secs d.length), .int .i64 d.length], .int .i64 0]) ∧ SpAt w' I (laid { S with f := liveOut ((F : Int), (n : Int), (sz : Int)) S.f } F d)) ∨
   (secs d.length ≠ n ∧ FirstIs (fill S.b F n false) S.N (secs d.length) none ∧ e = .returned (.tuple #[.agg #[.int .i64 0, .int .i64 0, .int .i64 0], .int .i64 3]) ∧ SpAt w' I S) ∨
   (secs d.length ≠ n ∧ ∃ G : Nat, FirstIs (fill S.b F n false) S.N (secs d.length) (some G) ∧ e = .returned (.tuple #[.agg #[.int .i64 G, .int .i64 (secs d.length), .int .i64 d.length], .int .i64 0]) ∧
     SpAt w' I (putS (wiped { S with b := fill S.b F n false } F n sz) G d)))

theorem c_ESet {w : World} {I : SpI} {S : SpS} (h : SpAt w I S) (F n sz : Nat) (hF : F + n ≤ S.N) (hn1 : 1 ≤ n) (hsz : sz ≤ 10000000) (hf : S.f ((F : Int), (n : Int), (sz : Int)) = true) (hrun : runIs S.b F n true) (d : List Int) (hq : S.q + secs d.length < 1000000) (hcS : S.c < 999999)
    (a : Option Addr) (len cap : Nat) (e0 : len = d.length) (hl : len ≤ 1000000) (hb : Byt d) (hr : Reads w a cap (d.map (Value.int .u8))) (hcap : len ≤ cap) (hd : 0 < len → ∀ y, a = some y → y.block ∉ I.all) :
    Calls Try.prog 17 #[.pointer (some ⟨I.m, 0, none⟩), .agg #[.int .i64 F, .int .i64 n, .int .i64 sz], .slice a len cap] w (SetPost I S F n sz d w) := by
  have hN := h.dk.small
  obtain ⟨X, hX⟩ : ∃ X, X = w.heap.size := ⟨_, rfl⟩
  obtain ⟨W, hW⟩ : ∃ W, W = (w.alloc (.cells #[.int .i64 F, .int .i64 n, .int .i64 sz] 34)).alloc (.cells #[.int .i64 0, .int .i64 0, .int .i64 0] 34) := ⟨_, rfl⟩
  have bW : Below w.heap.size w W := by rw [hW]; exact ((Below.refl _ _).alloc (Nat.le_refl _) _).alloc (by simp) _
  have rX : Row W X 34 [.int .i64 F, .int .i64 n, .int .i64 sz] := by rw [hW, hX]; exact (Row.made w _ _).alloc _
  have rR : Row W (X + 1) 34 [.int .i64 0, .int .i64 0, .int .i64 0] := by
    rw [hW, hX]
    have := Row.made (w.alloc (.cells #[.int .i64 F, .int .i64 n, .int .i64 sz] 34)) [.int .i64 0, .int .i64 0, .int .i64 0] 34
    simpa using this
  have hXI : ∀ k ∈ I.all, k < X := by rw [hX]; exact h.lt
  have HSP := Lib.hid (h.below bW)
  have HXX := Lib.hid hX
  have HW := Lib.hid hW
  have HXI := Lib.hid hXI
  have HRX := Lib.hid rX
  have HRR := Lib.hid rR
  have HUT : Hid (Upd [I.d, I.dg, I.mp, I.bg, X, X + 1] w W) := Upd.of_below bW
  have HRUN := Lib.hid hrun
  have HB := Lib.hid hb
  have HRD := Lib.hid hr
  have HD := Lib.hid hd
  have HE := Lib.hid e0
  have hsl := secs_le d.length
  have hpos := secs_pos d.length
  have HLV := Lib.hid hf
  have HC := Lib.hid (livesYes HSP.out (F : Int) (n : Int) (sz : Int) (exOk_nat (by omega) (by omega) (by omega)) hf)
  have HEX := Lib.hid (exOk_nat (F := F) (n := n) (s := sz) (by omega) (by omega) (by omega))
  clear h hX hW bW rX rR hXI hf hrun hb hr hd
  have hSecs : ∀ z : World, Calls Try.prog 8 #[.int .i64 len] z fun e w' => e = .returned (.int .i64 (secs d.length)) ∧ z = w' := fun z => by
    have := c_Sectors len z (by omega)
    rw [show secs len = secs d.length by rw [e0]] at this
    exact this
  obtain ⟨N2, hN2⟩ : ∃ N2, N2 = secs d.length := ⟨_, rfl⟩
  rw [← hN2] at hq hsl hpos hSecs
  have HN2 := Lib.hid hN2
  have HSecs := Lib.hid hSecs
  clear hSecs hN2 e0
  go_enter Try.func17, Try.ntmps17
  go_wp2_with fail
  rw [← HW.out, ← HXX.out]
  clear HW
  refine HC.out.mono ?_
  rintro e w1 ⟨rfl, hb⟩
  have HSP := Lib.hid (HSP.out.below hb)
  have HRX := Lib.hid (HRX.out.keep (l := []) (.of_below hb) (by simp))
  have HRR := Lib.hid (HRR.out.keep (l := []) (.of_below hb) (by simp))
  have HUT : Hid (Upd [I.d, I.dg, I.mp, I.bg, X, X + 1] w _) := HUT.out.trans (Upd.of_below hb)
  clear hb HC
  have x0 := HRX.out.cell (i := 0) rfl
  have x1 := HRX.out.cell (i := 1) rfl
  have x2 := HRX.out.cell (i := 2) rfl
  go_wp2_with fail
  refine wp_region_planH (fun z => z.cell? ⟨X, 0, none⟩ = some (.int .i64 F) ∧ z.cell? ⟨X, 1, none⟩ = some (.int .i64 n) ∧ z.cell? ⟨X, 2, none⟩ = some (.int .i64 sz)) [(0, true), (1, true), (3, true), (4, true), (2, false), (5, true)] (by kernel_rfl) (by kernel_rfl) (fun _ _ _ _ _ h => h) ⟨x0, x1, x2⟩ ?_
  clear x0 x1 x2
  (repeat (refine wpPlanH_free rfl (fun K hK => ?_); go_simp; (try go_bits); refine hK _ ?_; clear hK K))
  refine wpPlanH_load (.int .i64 n) rfl rfl (fun x hS => by obtain ⟨s0, s1, s2⟩ := hS; go_simp) (fun K hK => ?_)
  refine hK _ ?_
  clear hK K
  refine wpPlanH_sole rfl ?_
  go_wp2_with fail
  refine (HSecs.out _).mono ?_
  rintro e w' ⟨rfl, rfl⟩
  go_wp2
  refine ⟨⟨HRX.out.cell (i := 0) rfl, HRX.out.cell (i := 1) rfl, HRX.out.cell (i := 2) rfl⟩, ?_⟩
  (repeat (refine wpPlanH_free rfl (fun K hK => ?_); go_simp; (try go_bits); refine hK _ ?_; clear hK K))
  refine wpPlanH_nil ?_
  have hbd : Below w1.heap.size w1 w1.drew := bDrew (Below.refl _ w1)
  generalize w1.drew = wd at *
  have HSP := Lib.hid (HSP.out.below hbd)
  have HRX := Lib.hid (HRX.out.keep (l := []) (.of_below hbd) (by simp))
  have HRR := Lib.hid (HRR.out.keep (l := []) (.of_below hbd) (by simp))
  have HUT : Hid (Upd [I.d, I.dg, I.mp, I.bg, X, X + 1] w _) := HUT.out.trans (Upd.of_below hbd)
  clear hbd
  by_cases hs : N2 = n
  · obtain rfl : n = N2 := hs.symm
    have x0 := HRX.out.cell (i := 0) rfl
    have x1 := HRX.out.cell (i := 1) rfl
    have x2 := HRX.out.cell (i := 2) rfl
    have k0 := HSP.out.row.cell (i := 2) rfl
    go_wp2_with fail
    refine wp_region_planH (fun z => z.cell? ⟨I.m, 2, none⟩ = some (.map (some I.mp)) ∧ z.cell? ⟨X, 0, none⟩ = some (.int .i64 F) ∧ z.cell? ⟨X, 1, none⟩ = some (.int .i64 n) ∧ z.cell? ⟨X, 2, none⟩ = some (.int .i64 sz)) [(0, true), (1, true), (2, true), (3, true), (4, true), (5, false)] (by kernel_rfl) (by kernel_rfl) (fun _ _ _ _ _ h => h) ⟨k0, x0, x1, x2⟩ ?_
    clear x0 x1 x2 k0
    (repeat (refine wpPlanH_free rfl (fun K hK => ?_); go_simp; (try go_bits); refine hK _ ?_; clear hK K))
    refine wpPlanH_load (.map (some I.mp)) rfl rfl (fun x hS => by obtain ⟨s0, s1, s2, s3⟩ := hS; go_simp) (fun K hK => ?_)
    refine hK _ ?_
    clear hK K
    (repeat (refine wpPlanH_free rfl (fun K hK => ?_); go_simp; (try go_bits); refine hK _ ?_; clear hK K))
    refine wpPlanH_load (.agg #[.int .i64 F, .int .i64 n, .int .i64 sz]) rfl rfl (fun x hS => by obtain ⟨s0, s1, s2, s3⟩ := hS; go_simp) (fun K hK => ?_)
    refine hK _ ?_
    clear hK K
    refine wpPlanH_sole rfl ?_
    refine wpList_dead rfl _ _ rfl I.mp S.c S.f rfl (HSP.out.lv.keep (l := []) (Upd.refl _ _).drew (by simp)) ((F : Int), (n : Int), (sz : Int)) HEX.out rfl ?_
    intro v2 hl hu
    have hu' : Upd [I.mp] wd v2 := ((Upd.refl _ _).drew).trans hu
    have HSP := Lib.hid (HSP.out.live hl hu')
    have hnX : ∀ j, X ≤ j → j ∉ [I.mp] := fun j hj hm => by
        have h_mp := HXI.out I.mp (by simp [SpI.all])
        simp at hm
        omega
    have HRX := Lib.hid (HRX.out.keep hu' (hnX X (Nat.le_refl _)))
    have HRR := Lib.hid (HRR.out.keep hu' (hnX (X + 1) (by omega)))
    have HUT := Lib.hid (HUT.out.trans (hu'.mono (m := [I.d, I.dg, I.mp, I.bg, X, X + 1]) (by simp)))
    refine ⟨⟨HSP.out.row.cell (i := 2) rfl, HRX.out.cell (i := 0) rfl, HRX.out.cell (i := 1) rfl, HRX.out.cell (i := 2) rfl⟩, ?_⟩
    clear hl hu hu' hnX
    refine wpPlanH_nil ?_
    have x0 := HRX.out.cell (i := 0) rfl
    have x1 := HRX.out.cell (i := 1) rfl
    have x2 := HRX.out.cell (i := 2) rfl
    have hLY := c_lay HSP.out F d (by rw [← HN2.out]; show F + n ≤ S.N; omega) (sz : Int) (by rw [← HN2.out]; exact hq) hcS a len cap HE.out HB.out (reads_keep HRD.out HUT.out (fun h0 y hy hm => by
    have h1 := HD.out (by have := HE.out; simp at h0; omega) y hy
    have h2 := HRD.out
    have h3 := readBlock h2 h0 y hy
    have h4 := HXX.out
    simp [SpI.all] at h1
    simp at hm
    omega)) hcap HD.out
    rw [← HN2.out] at hLY
    have HLY := Lib.hid hLY
    clear hLY
    go_wp2_with fail
    refine HLY.out.mono ?_
    rintro e wl ⟨rfl, hsp, hu⟩
    have HSP := Lib.hid hsp
    unfold exV
    have hnX : ∀ j, X ≤ j → j ∉ [I.d, I.dg, I.mp] := fun j hj hm => by
        have h_d := HXI.out I.d (by simp [SpI.all])
        have h_dg := HXI.out I.dg (by simp [SpI.all])
        have h_mp := HXI.out I.mp (by simp [SpI.all])
        simp at hm
        omega
    have HRX := Lib.hid (HRX.out.keep hu (hnX X (Nat.le_refl _)))
    have HRR := Lib.hid (HRR.out.keep hu (hnX (X + 1) (by omega)))
    have HUT := Lib.hid (HUT.out.trans (hu.mono (m := [I.d, I.dg, I.mp, I.bg, X, X + 1]) (by simp)))
    clear hsp hu hnX x0 x1 x2 HLY
    rw [← HN2.out, ← HE.out]
    have y0 := HRR.out.cell (i := 0) rfl
    have y1 := HRR.out.cell (i := 1) rfl
    have y2 := HRR.out.cell (i := 2) rfl
    have g0 := HRR.out.free 0
    have g1 := HRR.out.free 1
    have g2 := HRR.out.free 2
    go_wp2_with fail
    obtain ⟨v3, hv3⟩ : ∃ v3, v3 = ((wl.setCell ⟨X + 1, 0, none⟩ (.int .i64 F)).setCell ⟨X + 1, 1, none⟩ (.int .i64 n)).setCell ⟨X + 1, 2, none⟩ (.int .i64 len) := ⟨_, rfl⟩
    have hR3 : Row v3 (X + 1) 34 [.int .i64 F, .int .i64 n, .int .i64 len] := by rw [hv3]; exact ((HRR.out.set 0 _).set 1 _).set 2 _
    have u3 : Upd [X + 1] wl v3 := by rw [hv3]; exact (((Upd.refl [X + 1] wl).setCell (by simp) _).setCell (by simp) _).setCell (by simp) _
    rw [← hv3]
    have HU3 := Lib.hid u3
    clear hv3 u3 y0 y1 y2 g0 g1 g2
    have z0 := hR3.cell (i := 0) rfl
    have z1 := hR3.cell (i := 1) rfl
    have z2 := hR3.cell (i := 2) rfl
    clear hR3
    (try simp only [Exit.inBlock, Exit.then])
    refine bodyPost_ret (by rw [results_cellT rfl]; go_simp; rfl) rfl ?_
    have hIX : ∀ k ∈ I.all, k ∉ [X + 1] := fun k hk hm => by
      have := HXI.out k hk
      simp at hm
      omega
    have hSF := HSP.out.keep HU3.out hIX
    have hUF : Upd [I.d, I.dg, I.mp, I.bg] w v3 := Upd.new (m := [I.d, I.dg, I.mp, I.bg, X, X + 1]) (HUT.out.trans (HU3.out.mono (by simp))) (fun j hj => by
      have := HXX.out
      simp at hj ⊢
      omega)
    exact ⟨hUF, .inl ⟨by rw [← HN2.out], by rw [← HN2.out, ← HE.out]; try rfl, hSF⟩⟩
  · have hs' : ¬ (N2 : Int) = n := by omega
    have hok : okRun S.N (F : Int) (n : Int) := ⟨by omega, by omega, by omega⟩
    have hrun' : runIs S.b (F : Int).toNat (n : Int).toNat true := by rw [Int.toNat_natCast, Int.toNat_natCast]; exact HRUN.out
    have hE : chgE S.b S.N (F : Int) (n : Int) true 4 = 0 := by unfold chgE; rw [if_pos hok, if_pos hrun']
    have hB2 : chgB S.b S.N (F : Int) (n : Int) true = fill S.b F n false := by unfold chgB; rw [if_pos ⟨hok, hrun'⟩, Int.toNat_natCast, Int.toNat_natCast]; rfl
    have HOK := Lib.hid hok
    have HE1 := Lib.hid hE
    have HB2 := Lib.hid hB2
    clear hok hrun' hE hB2
    have x0 := HRX.out.cell (i := 0) rfl
    have x1 := HRX.out.cell (i := 1) rfl
    have x2 := HRX.out.cell (i := 2) rfl
    have k0 := HSP.out.row.cell (i := 1) rfl
    go_wp2_with fail
    refine wp_region_planH (fun z => z.cell? ⟨I.m, 1, none⟩ = some (.pointer (some ⟨I.bm, 0, none⟩)) ∧ z.cell? ⟨X, 0, none⟩ = some (.int .i64 F) ∧ z.cell? ⟨X, 1, none⟩ = some (.int .i64 n) ∧ z.cell? ⟨X, 2, none⟩ = some (.int .i64 sz)) [(0, true), (1, true), (2, true), (3, true), (4, true), (5, true), (6, true), (7, true), (8, false)] (by kernel_rfl) (by kernel_rfl) (fun _ _ _ _ _ h => h) ⟨k0, x0, x1, x2⟩ ?_
    clear x0 x1 x2 k0
    (repeat (refine wpPlanH_free rfl (fun K hK => ?_); go_simp; (try go_bits); refine hK _ ?_; clear hK K))
    refine wpPlanH_load (.pointer (some ⟨I.bm, 0, none⟩)) rfl rfl (fun x hS => by obtain ⟨s0, s1, s2, s3⟩ := hS; go_simp) (fun K hK => ?_)
    refine hK _ ?_
    clear hK K
    (repeat (refine wpPlanH_free rfl (fun K hK => ?_); go_simp; (try go_bits); refine hK _ ?_; clear hK K))
    refine wpPlanH_load (.int .i64 F) rfl rfl (fun x hS => by obtain ⟨s0, s1, s2, s3⟩ := hS; go_simp) (fun K hK => ?_)
    refine hK _ ?_
    clear hK K
    (repeat (refine wpPlanH_free rfl (fun K hK => ?_); go_simp; (try go_bits); refine hK _ ?_; clear hK K))
    refine wpPlanH_load (.int .i64 n) rfl rfl (fun x hS => by obtain ⟨s0, s1, s2, s3⟩ := hS; go_simp) (fun K hK => ?_)
    refine hK _ ?_
    clear hK K
    refine wpPlanH_sole rfl ?_
    have hT := c_BFree _ _ _ _ wd.drew (HSP.out.bt.keep (l := []) (Upd.refl _ _).drew (by simp) (by simp)) (F : Int) (n : Int) (by omega) (by omega) (by omega)
    unfold ChgPost at hT
    rw [HE1.out, HB2.out] at hT
    have HT := Lib.hid hT
    clear hT
    go_wp2_with fail
    refine HT.out.mono ?_
    rintro e v2 ⟨rfl, hm, hu⟩
    have hu' : Upd [I.bg] wd v2 := ((Upd.refl _ _).drew).trans hu
    have HSP : Hid (SpAt v2 I { S with b := fill S.b F n false }) := HSP.out.bits hm hu'
    have hnX : ∀ j, X ≤ j → j ∉ [I.bg] := fun j hj hm => by
        have h_bg := HXI.out I.bg (by simp [SpI.all])
        simp at hm
        omega
    have HRX := Lib.hid (HRX.out.keep hu' (hnX X (Nat.le_refl _)))
    have HRR := Lib.hid (HRR.out.keep hu' (hnX (X + 1) (by omega)))
    have HUT := Lib.hid (HUT.out.trans (hu'.mono (m := [I.d, I.dg, I.mp, I.bg, X, X + 1]) (by simp)))
    clear hm hu hu' hnX HT
    go_wp2
    refine ⟨⟨HSP.out.row.cell (i := 1) rfl, HRX.out.cell (i := 0) rfl, HRX.out.cell (i := 1) rfl, HRX.out.cell (i := 2) rfl⟩, ?_⟩
    refine wpPlanH_nil ?_
    have x0 := HRX.out.cell (i := 0) rfl
    have x1 := HRX.out.cell (i := 1) rfl
    have x2 := HRX.out.cell (i := 2) rfl
    have k0 := HSP.out.row.cell (i := 1) rfl
    go_wp2_with fail
    refine wp_region_planH (fun z => z.cell? ⟨I.m, 1, none⟩ = some (.pointer (some ⟨I.bm, 0, none⟩)) ∧ z.cell? ⟨X, 0, none⟩ = some (.int .i64 F) ∧ z.cell? ⟨X, 1, none⟩ = some (.int .i64 n) ∧ z.cell? ⟨X, 2, none⟩ = some (.int .i64 sz)) [(0, true), (1, true), (2, true), (3, true), (4, true), (5, true), (6, false), (7, false), (8, true), (9, true), (10, true), (11, true), (12, true)] (by kernel_rfl) (by kernel_rfl) (fun _ _ _ _ _ h => h) ⟨k0, x0, x1, x2⟩ ?_
    clear x0 x1 x2 k0
    (repeat (refine wpPlanH_free rfl (fun K hK => ?_); go_simp; (try go_bits); refine hK _ ?_; clear hK K))
    refine wpPlanH_load (.pointer (some ⟨I.bm, 0, none⟩)) rfl rfl (fun x hS => by obtain ⟨s0, s1, s2, s3⟩ := hS; go_simp) (fun K hK => ?_)
    refine hK _ ?_
    clear hK K
    (repeat (refine wpPlanH_free rfl (fun K hK => ?_); go_simp; (try go_bits); refine hK _ ?_; clear hK K))
    refine wpPlanH_sole rfl ?_
    go_wp2_with fail
    refine (HSecs.out _).mono ?_
    rintro e w' ⟨rfl, rfl⟩
    go_wp2
    refine ⟨⟨HSP.out.row.cell (i := 1) rfl, HRX.out.cell (i := 0) rfl, HRX.out.cell (i := 1) rfl, HRX.out.cell (i := 2) rfl⟩, ?_⟩
    refine wpPlanH_sole rfl ?_
    have HF := Lib.hid (c_First _ _ _ _ v2.drew (HSP.out.bt.keep (l := []) (Upd.refl _ _).drew (by simp) (by simp)) (N2 : Int) (by omega))
    go_wp2_with fail
    refine HF.out.mono ?_
    rintro e w' ⟨⟨o, ho, rfl⟩, rfl⟩
    clear HF
    have ho2 : FirstIs (fill S.b F n false) S.N N2 o := by
      rcases ho with ⟨h1, -⟩ | ⟨-, h1⟩
      · omega
      · rwa [Int.toNat_natCast] at h1
    have HO := Lib.hid ho2
    clear ho ho2
    unfold firstV
    go_wp2
    refine ⟨⟨HSP.out.row.cell (i := 1) rfl, HRX.out.cell (i := 0) rfl, HRX.out.cell (i := 1) rfl, HRX.out.cell (i := 2) rfl⟩, ?_⟩
    (repeat (refine wpPlanH_free rfl (fun K hK => ?_); go_simp; (try go_bits); refine hK _ ?_; clear hK K))
    refine wpPlanH_nil ?_
    have hbd : Below v2.heap.size v2 v2.drew := bDrew (Below.refl _ v2)
    generalize v2.drew = vd at *
    have HSP := Lib.hid (HSP.out.below hbd)
    have HRX := Lib.hid (HRX.out.keep (l := []) (.of_below hbd) (by simp))
    have HRR := Lib.hid (HRR.out.keep (l := []) (.of_below hbd) (by simp))
    have HUT : Hid (Upd [I.d, I.dg, I.mp, I.bg, X, X + 1] w _) := HUT.out.trans (Upd.of_below hbd)
    clear hbd
    cases o with
    | none =>
      have hok2 : chgE (fill S.b F n false) S.N (F : Int) (n : Int) false 3 = 0 := by
        unfold chgE
        rw [if_pos HOK.out, if_pos (by rw [Int.toNat_natCast, Int.toNat_natCast]; exact fill_run _ _ _ _)]
      have hB3 : chgB (fill S.b F n false) S.N (F : Int) (n : Int) false = S.b := by
        unfold chgB
        rw [if_pos ⟨HOK.out, by rw [Int.toNat_natCast, Int.toNat_natCast]; exact fill_run _ _ _ _⟩, Int.toNat_natCast, Int.toNat_natCast]
        exact fill_back HRUN.out false
      have HE2 := Lib.hid hok2
      have HB3 := Lib.hid hB3
      clear hok2 hB3
      have x0 := HRX.out.cell (i := 0) rfl
      have x1 := HRX.out.cell (i := 1) rfl
      have x2 := HRX.out.cell (i := 2) rfl
      have k0 := HSP.out.row.cell (i := 1) rfl
      go_wp2_with fail
      refine wp_region_planH (fun z => z.cell? ⟨I.m, 1, none⟩ = some (.pointer (some ⟨I.bm, 0, none⟩)) ∧ z.cell? ⟨X, 0, none⟩ = some (.int .i64 F) ∧ z.cell? ⟨X, 1, none⟩ = some (.int .i64 n) ∧ z.cell? ⟨X, 2, none⟩ = some (.int .i64 sz)) [(0, true), (1, true), (2, true), (3, true), (4, true), (5, true), (6, true), (7, true), (8, false)] (by kernel_rfl) (by kernel_rfl) (fun _ _ _ _ _ h => h) ⟨k0, x0, x1, x2⟩ ?_
      clear x0 x1 x2 k0
      (repeat (refine wpPlanH_free rfl (fun K hK => ?_); go_simp; (try go_bits); refine hK _ ?_; clear hK K))
      refine wpPlanH_load (.pointer (some ⟨I.bm, 0, none⟩)) rfl rfl (fun x hS => by obtain ⟨s0, s1, s2, s3⟩ := hS; go_simp) (fun K hK => ?_)
      refine hK _ ?_
      clear hK K
      (repeat (refine wpPlanH_free rfl (fun K hK => ?_); go_simp; (try go_bits); refine hK _ ?_; clear hK K))
      refine wpPlanH_load (.int .i64 F) rfl rfl (fun x hS => by obtain ⟨s0, s1, s2, s3⟩ := hS; go_simp) (fun K hK => ?_)
      refine hK _ ?_
      clear hK K
      (repeat (refine wpPlanH_free rfl (fun K hK => ?_); go_simp; (try go_bits); refine hK _ ?_; clear hK K))
      refine wpPlanH_load (.int .i64 n) rfl rfl (fun x hS => by obtain ⟨s0, s1, s2, s3⟩ := hS; go_simp) (fun K hK => ?_)
      refine hK _ ?_
      clear hK K
      refine wpPlanH_sole rfl ?_
      have hT := c_Take _ _ _ _ vd.drew (HSP.out.bt.keep (l := []) (Upd.refl _ _).drew (by simp) (by simp)) (F : Int) (n : Int) (by omega) (by omega) (by omega)
      unfold ChgPost at hT
      rw [HE2.out, HB3.out] at hT
      have HT := Lib.hid hT
      clear hT
      go_wp2_with fail
      refine HT.out.mono ?_
      rintro e wl ⟨rfl, hm, hu⟩
      have hu' : Upd [I.bg] vd wl := ((Upd.refl _ _).drew).trans hu
      have HSP : Hid (SpAt wl I S) := HSP.out.bits hm hu'
      have hnX : ∀ j, X ≤ j → j ∉ [I.bg] := fun j hj hm => by
          have h_bg := HXI.out I.bg (by simp [SpI.all])
          simp at hm
          omega
      have HRX := Lib.hid (HRX.out.keep hu' (hnX X (Nat.le_refl _)))
      have HRR := Lib.hid (HRR.out.keep hu' (hnX (X + 1) (by omega)))
      have HUT := Lib.hid (HUT.out.trans (hu'.mono (m := [I.d, I.dg, I.mp, I.bg, X, X + 1]) (by simp)))
      clear hm hu hu' hnX HT
      go_wp2
      refine ⟨⟨HSP.out.row.cell (i := 1) rfl, HRX.out.cell (i := 0) rfl, HRX.out.cell (i := 1) rfl, HRX.out.cell (i := 2) rfl⟩, ?_⟩
      refine wpPlanH_nil ?_
      have y0 := HRR.out.cell (i := 0) rfl
      have y1 := HRR.out.cell (i := 1) rfl
      have y2 := HRR.out.cell (i := 2) rfl
      have g0 := HRR.out.free 0
      have g1 := HRR.out.free 1
      have g2 := HRR.out.free 2
      go_wp2_with fail
      obtain ⟨v3, hv3⟩ : ∃ v3, v3 = ((wl.setCell ⟨X + 1, 0, none⟩ (.int .i64 0)).setCell ⟨X + 1, 1, none⟩ (.int .i64 0)).setCell ⟨X + 1, 2, none⟩ (.int .i64 0) := ⟨_, rfl⟩
      have hR3 : Row v3 (X + 1) 34 [.int .i64 0, .int .i64 0, .int .i64 0] := by rw [hv3]; exact ((HRR.out.set 0 _).set 1 _).set 2 _
      have u3 : Upd [X + 1] wl v3 := by rw [hv3]; exact (((Upd.refl [X + 1] wl).setCell (by simp) _).setCell (by simp) _).setCell (by simp) _
      rw [← hv3]
      have HU3 := Lib.hid u3
      clear hv3 u3 y0 y1 y2 g0 g1 g2
      have z0 := hR3.cell (i := 0) rfl
      have z1 := hR3.cell (i := 1) rfl
      have z2 := hR3.cell (i := 2) rfl
      clear hR3
      (try simp only [Exit.inBlock, Exit.then])
      refine bodyPost_ret (by rw [results_cellT rfl]; go_simp; rfl) rfl ?_
      have hIX : ∀ k ∈ I.all, k ∉ [X + 1] := fun k hk hm => by
        have := HXI.out k hk
        simp at hm
        omega
      have hSF := HSP.out.keep HU3.out hIX
      have hUF : Upd [I.d, I.dg, I.mp, I.bg] w v3 := Upd.new (m := [I.d, I.dg, I.mp, I.bg, X, X + 1]) (HUT.out.trans (HU3.out.mono (by simp))) (fun j hj => by
        have := HXX.out
        simp at hj ⊢
        omega)
      exact ⟨hUF, .inr (.inl ⟨by rw [← HN2.out]; exact hs, by rw [← HN2.out]; exact HO.out, rfl, hSF⟩)⟩
    | some G =>
      have hfit : G + N2 ≤ S.N := HO.out.1
      have hrunG : runIs (fill S.b F n false) G N2 false := HO.out.2.1
      have HRG := Lib.hid hrunG
      clear hrunG
      have x0 := HRX.out.cell (i := 0) rfl
      have x1 := HRX.out.cell (i := 1) rfl
      have x2 := HRX.out.cell (i := 2) rfl
      have HWI := Lib.hid (c_wipe HSP.out F n (sz : Int) hF HEX.out)
      go_wp2_with fail
      refine HWI.out.mono ?_
      rintro e v4 ⟨rfl, hsp, hu⟩
      have HSP := Lib.hid hsp
      have hnX : ∀ j, X ≤ j → j ∉ [I.dg, I.mp] := fun j hj hm => by
          have h_dg := HXI.out I.dg (by simp [SpI.all])
          have h_mp := HXI.out I.mp (by simp [SpI.all])
          simp at hm
          omega
      have HRX := Lib.hid (HRX.out.keep hu (hnX X (Nat.le_refl _)))
      have HRR := Lib.hid (HRR.out.keep hu (hnX (X + 1) (by omega)))
      have HUT := Lib.hid (HUT.out.trans (hu.mono (m := [I.d, I.dg, I.mp, I.bg, X, X + 1]) (by simp)))
      clear hsp hu hnX x0 x1 x2 HWI
      go_wp2_with fail
      refine (HSecs.out _).mono ?_
      rintro e w' ⟨rfl, rfl⟩
      have k1 := HSP.out.row.cell (i := 1) rfl
      have hok : okRun S.N (G : Int) (N2 : Int) := ⟨by omega, by omega, by omega⟩
      have hrun' : runIs (fill S.b F n false) (G : Int).toNat (N2 : Int).toNat false := by rw [Int.toNat_natCast, Int.toNat_natCast]; exact HRG.out
      have hE : chgE (fill S.b F n false) S.N (G : Int) (N2 : Int) false 3 = 0 := by unfold chgE; rw [if_pos hok, if_pos hrun']
      have hB2 : chgB (fill S.b F n false) S.N (G : Int) (N2 : Int) false = fill (fill S.b F n false) G N2 true := by unfold chgB; rw [if_pos ⟨hok, hrun'⟩, Int.toNat_natCast, Int.toNat_natCast]; rfl
      have hT := c_Take _ _ _ _ v4 HSP.out.bt (G : Int) (N2 : Int) (by omega) (by omega) (by omega)
      unfold ChgPost at hT
      rw [show (wiped { S with b := fill S.b F n false } F n (sz : Int)).b = fill S.b F n false from rfl, show (wiped { S with b := fill S.b F n false } F n (sz : Int)).N = S.N from rfl, hE, hB2] at hT
      have HT := Lib.hid hT
      clear hok hrun' hE hB2 hT
      go_wp2_with fail
      refine HT.out.mono ?_
      rintro e v5 ⟨rfl, hm, hu⟩
      have HSP := Lib.hid (HSP.out.bits hm hu)
      have hnX : ∀ j, X ≤ j → j ∉ [I.bg] := fun j hj hm => by
          have h_bg := HXI.out I.bg (by simp [SpI.all])
          simp at hm
          omega
      have HRX := Lib.hid (HRX.out.keep hu (hnX X (Nat.le_refl _)))
      have HRR := Lib.hid (HRR.out.keep hu (hnX (X + 1) (by omega)))
      have HUT := Lib.hid (HUT.out.trans (hu.mono (m := [I.d, I.dg, I.mp, I.bg, X, X + 1]) (by simp)))
      clear hm hu hnX HT k1
      have hLY := c_lay HSP.out G d (by rw [← HN2.out]; exact hfit) 0 (by rw [← HN2.out]; exact hq) hcS a len cap HE.out HB.out (reads_keep HRD.out HUT.out (fun h0 y hy hm => by
    have h1 := HD.out (by have := HE.out; simp at h0; omega) y hy
    have h2 := HRD.out
    have h3 := readBlock h2 h0 y hy
    have h4 := HXX.out
    simp [SpI.all] at h1
    simp at hm
    omega)) hcap HD.out
      rw [← HN2.out] at hLY
      have HLY := Lib.hid hLY
      clear hLY
      go_wp2_with fail
      refine HLY.out.mono ?_
      rintro e wl ⟨rfl, hsp, hu⟩
      have HSP := Lib.hid hsp
      unfold exV
      have hnX : ∀ j, X ≤ j → j ∉ [I.d, I.dg, I.mp] := fun j hj hm => by
          have h_d := HXI.out I.d (by simp [SpI.all])
          have h_dg := HXI.out I.dg (by simp [SpI.all])
          have h_mp := HXI.out I.mp (by simp [SpI.all])
          simp at hm
          omega
      have HRX := Lib.hid (HRX.out.keep hu (hnX X (Nat.le_refl _)))
      have HRR := Lib.hid (HRR.out.keep hu (hnX (X + 1) (by omega)))
      have HUT := Lib.hid (HUT.out.trans (hu.mono (m := [I.d, I.dg, I.mp, I.bg, X, X + 1]) (by simp)))
      clear hsp hu hnX HLY
      rw [← HN2.out, ← HE.out]
      have y0 := HRR.out.cell (i := 0) rfl
      have y1 := HRR.out.cell (i := 1) rfl
      have y2 := HRR.out.cell (i := 2) rfl
      have g0 := HRR.out.free 0
      have g1 := HRR.out.free 1
      have g2 := HRR.out.free 2
      go_wp2_with fail
      obtain ⟨v3, hv3⟩ : ∃ v3, v3 = ((wl.setCell ⟨X + 1, 0, none⟩ (.int .i64 G)).setCell ⟨X + 1, 1, none⟩ (.int .i64 N2)).setCell ⟨X + 1, 2, none⟩ (.int .i64 len) := ⟨_, rfl⟩
      have hR3 : Row v3 (X + 1) 34 [.int .i64 G, .int .i64 N2, .int .i64 len] := by rw [hv3]; exact ((HRR.out.set 0 _).set 1 _).set 2 _
      have u3 : Upd [X + 1] wl v3 := by rw [hv3]; exact (((Upd.refl [X + 1] wl).setCell (by simp) _).setCell (by simp) _).setCell (by simp) _
      rw [← hv3]
      have HU3 := Lib.hid u3
      clear hv3 u3 y0 y1 y2 g0 g1 g2
      have z0 := hR3.cell (i := 0) rfl
      have z1 := hR3.cell (i := 1) rfl
      have z2 := hR3.cell (i := 2) rfl
      clear hR3
      (try simp only [Exit.inBlock, Exit.then])
      refine bodyPost_ret (by rw [results_cellT rfl]; go_simp; rfl) rfl ?_
      have hIX : ∀ k ∈ I.all, k ∉ [X + 1] := fun k hk hm => by
        have := HXI.out k hk
        simp at hm
        omega
      have hSF := HSP.out.keep HU3.out hIX
      have hUF : Upd [I.d, I.dg, I.mp, I.bg] w v3 := Upd.new (m := [I.d, I.dg, I.mp, I.bg, X, X + 1]) (HUT.out.trans (HU3.out.mono (by simp))) (fun j hj => by
        have := HXX.out
        simp at hj ⊢
        omega)
      refine ⟨hUF, .inr (.inr ⟨by rw [← HN2.out]; exact hs, G, by rw [← HN2.out]; exact HO.out, by rw [← HN2.out, ← HE.out]; try rfl, ?_⟩)⟩
      unfold putS
      rw [← HN2.out]
      exact hSF

end Go.Proofs.Ytpbokmmobepolaa
