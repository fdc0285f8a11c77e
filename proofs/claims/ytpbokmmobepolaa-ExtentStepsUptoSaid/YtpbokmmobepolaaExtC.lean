/-
  Contracts of package extent: lay.
-/
import Derived.Test.YtpbokmmobepolaaExtB
namespace Go.Proofs.Ytpbokmmobepolaa
open Go.RowKit Go.Maps
set_option linter.unusedVariables false
set_option maxHeartbeats 2000000

def laid (S : SpS) (F : Nat) (b : List Int) : SpS :=
  { S with q := S.q + secs b.length, bs := splice S.bs (64 * F) (padS b (secs b.length)), c := S.c + 1, f := liveIn ((F : Int), (secs b.length : Int), (b.length : Int)) S.f }
def LayPost (I : SpI) (S : SpS) (F : Nat) (b : List Int) (w : World) (e : Ending) (w' : World) : Prop :=
  e = .returned (exV ((F : Int), (secs b.length : Int), (b.length : Int))) ∧ SpAt w' I (laid S F b) ∧ Upd [I.d, I.dg, I.mp] w w'

theorem c_lay {w : World} {I : SpI} {S : SpS} (h : SpAt w I S) (F : Nat) (b : List Int) (hF : F + secs b.length ≤ S.N) (s0 : Int) (hq : S.q + secs b.length < 1000000) (hcS : S.c < 999999) (a : Option Addr) (len cap : Nat) (e0 : len = b.length)
    (hb : Byt b) (hr : Reads w a cap (b.map (Value.int .u8))) (hcap : len ≤ cap) (hd : 0 < len → ∀ y, a = some y → y.block ∉ I.all) :
    Calls Try.prog 29 #[.pointer (some ⟨I.m, 0, none⟩), .agg #[.int .i64 F, .int .i64 (secs b.length), .int .i64 s0], .slice a len cap] w (LayPost I S F b w) := by
  have hn1 := secs_pos b.length
  have hn2 := secs_room b.length
  have hn3 : ∀ k, k < secs b.length → 64 * k ≤ b.length := fun k hk => by unfold secs at hk; omega
  have hN := h.dk.small
  have HN3 := Lib.hid hn3
  have HH := Lib.hid h
  have HB := Lib.hid hb
  have HR := Lib.hid hr
  have HD := Lib.hid hd
  have HE := Lib.hid e0
  obtain ⟨n, hn⟩ : ∃ n, n = secs b.length := ⟨_, rfl⟩
  rw [← hn] at hF hq hn1 hn2 HN3 ⊢
  have HN := Lib.hid hn
  clear h hb hr hd hn hn3
  rw [← HE.out] at hn2
  have hlt := HH.out.lt
  have HLT := Lib.hid hlt
  clear hlt e0
  go_enter Try.func29, Try.ntmps29
  go_wp2
  obtain ⟨W, hW⟩ : ∃ W, W = (w.alloc (.cells #[.int .i64 F, .int .i64 n, .int .i64 s0] 34)).alloc (.cells #[.int .i64 0, .int .i64 0, .int .i64 0] 34) := ⟨_, rfl⟩
  obtain ⟨X, hX⟩ : ∃ X, X = w.heap.size := ⟨_, rfl⟩
  have bW : Below w.heap.size w W := by rw [hW]; exact ((Below.refl _ _).alloc (Nat.le_refl _) _).alloc (by simp) _
  have rX : Row W X 34 [.int .i64 F, .int .i64 n, .int .i64 s0] := by rw [hW, hX]; exact (Row.made w _ _).alloc _
  have rR : Row W (X + 1) 34 [.int .i64 0, .int .i64 0, .int .i64 0] := by
    rw [hW, hX]
    have := Row.made (w.alloc (.cells #[.int .i64 F, .int .i64 n, .int .i64 s0] 34)) [.int .i64 0, .int .i64 0, .int .i64 0] 34
    simpa using this
  have hXI : ∀ k ∈ I.all, k < X := by rw [hX]; exact HLT.out
  rw [← hW, ← hX]
  have HX := Lib.hid hX
  have HXI := Lib.hid hXI
  have HS : Hid (SpAt W I S) := HH.out.below bW
  have HBW := Lib.hid bW
  have HRX := Lib.hid rX
  have HRR := Lib.hid rR
  clear hW hX bW rX rR hXI
  go_loopw [11] (fun i wr => ∃ k : Nat, k ≤ n ∧ i = .int .i64 k ∧ Hid (SpAt wr I { S with q := S.q + k, bs := splice S.bs (64 * F) (padS b k) }) ∧ Hid (Upd [I.d, I.dg] W wr)) (fun i _ => n - (intOf i).toNat)
  case atStart => exact ⟨0, Nat.zero_le _, rfl, by unfold Hid; rw [show padS b 0 = [] from rfl, splice_none _ _ (by have := HS.out.dk.len; omega)]; exact HS.out, Upd.refl _ _⟩
  case round =>
    obtain ⟨k, hk, rfl, HSK, HU⟩ := hrel
    have hnX : ∀ j, X ≤ j → j ∉ [I.d, I.dg] := fun j hj hm => by
      have h1 := HXI.out I.d (by simp [SpI.all])
      have h2 := HXI.out I.dg (by simp [SpI.all])
      simp at hm
      omega
    have rX := HRX.out.keep HU.out (hnX X (Nat.le_refl _))
    have rR := HRR.out.keep HU.out (hnX (X + 1) (by omega))
    have k0 := HSK.out.row.cell (i := 0) rfl
    have k2 := HSK.out.row.cell (i := 2) rfl
    have x0 := rX.cell (i := 0) rfl
    have x1 := rX.cell (i := 1) rfl
    have x2 := rX.cell (i := 2) rfl
    have HRX2 := Lib.hid rX
    have HRR2 := Lib.hid rR
    clear rX rR
    by_cases hlt : k < n
    · have h64 : 64 * k ≤ len := by rw [HE.out]; exact HN3.out k hlt
      have i1 : ¬ ((len : Int) < (k : Int) * 64) := by omega
      have i2 : (k : Int) * 64 ≤ (len : Int) := by omega
      by_cases hfull : (k : Int) * 64 + 64 ≤ (len : Int)
      · have i3 : ¬ ((len : Int) < (k : Int) * 64 + 64) := by omega
        go_wp2_with fail
        refine wp_region_planH (fun z => z.cell? ⟨I.m, 0, none⟩ = some (.pointer (some ⟨I.d, 0, none⟩)) ∧ z.cell? ⟨X, 0, none⟩ = some (.int .i64 F)) [(0, true), (1, true), (2, true), (3, true), (4, true), (5, true), (6, true), (7, true), (8, true), (9, true), (10, true), (11, true), (12, true), (13, true), (14, false), (15, true), (16, false)] (by kernel_rfl) (by kernel_rfl) (fun _ _ _ _ _ h => h) ⟨k0, x0⟩ ?_
        have HS2 := Lib.hid (show wr.drew.cell? ⟨I.m, 0, none⟩ = some (.pointer (some ⟨I.d, 0, none⟩)) ∧ wr.drew.cell? ⟨X, 0, none⟩ = some (.int .i64 F) from ⟨k0, x0⟩)
        clear k0 k2 x0 x1 x2
        (repeat (refine wpPlanH_free rfl (fun K hK => ?_); go_simp; (try go_bits); refine hK _ ?_; clear hK K))
        refine wpPlanH_load (.pointer (some ⟨I.d, 0, none⟩)) rfl rfl (fun x hS => by obtain ⟨s0, s1⟩ := hS; go_simp) (fun K hK => ?_)
        refine hK _ ?_
        clear hK K
        (repeat (refine wpPlanH_free rfl (fun K hK => ?_); go_simp; (try go_bits); refine hK _ ?_; clear hK K))
        refine wpPlanH_load (.int .i64 F) rfl rfl (fun x hS => by obtain ⟨s0, s1⟩ := hS; go_simp) (fun K hK => ?_)
        refine hK _ ?_
        clear hK K
        (repeat (refine wpPlanH_free rfl (fun K hK => ?_); go_simp; (try go_bits); refine hK _ ?_; clear hK K))
        refine wpPlanH_sole rfl ?_
        go_wp2_with fail
        refine ⟨HS2.out, ?_⟩
        refine wpPlanH_free rfl (fun K hK => ?_)
        go_simp
        obtain ⟨A, hA⟩ : ∃ A, A = (if cap = ((k : Int) * 64).toNat then a else Option.map (fun x => x.add ((k : Int) * 64).toNat) a) := ⟨_, rfl⟩
        obtain ⟨C, hC⟩ : ∃ C, C = cap - ((k : Int) * 64).toNat := ⟨_, rfl⟩
        have hMM : ((k : Int) * 64 + 64).toNat - ((k : Int) * 64).toNat = 64 := by omega
        rw [← hA, ← hC, hMM]
        refine ⟨.slice A 64 C, fun z => ?_, ?_⟩
        · rw [if_pos (by omega), if_pos (by omega)]
        refine hK _ ?_
        clear hK K hMM
        have HRK : Hid (Reads wr.drew A C ((chunk b k).map (Value.int .u8))) := by
          have h0 : Reads wr a cap (b.map (Value.int .u8)) := reads_keep (HR.out.below HBW.out) HU.out (fun h0 y hy hm => HD.out (by have := HE.out; simp at h0; omega) y hy (by simp [SpI.all]; simp at hm; omega))
          have h1 := reads_from h0 (by have := HE.out; simp; omega) (64 * k) 64 (by have := HE.out; simp; omega)
          rw [show ((k : Int) * 64).toNat = 64 * k by omega] at hA hC
          rw [← hA, ← hC] at h1
          have h2 : ((b.map (Value.int .u8)).drop (64 * k)).take 64 = (chunk b k).map (Value.int .u8) := by
            unfold chunk
            rw [← List.map_drop, ← List.map_take]

          rw [h2] at h1
          exact h1
        have HCL : Hid (64 = (chunk b k).length) := by unfold Hid chunk; have := HE.out; simp; omega
        clear hA hC
        have hWR := c_Write _ _ _ _ _ _ wr.drew (HSK.out.dk.keep (l := []) (Upd.refl _ _).drew (by simp) (by simp)) (by show S.q + k < 1000000; omega) (F + k) (by show F + k < S.N; omega) A 64 C (chunk b k) HCL.out (chunk_byt HB.out k) HRK.out (by omega)
        rw [Int.natCast_add] at hWR
        have HWR := Lib.hid hWR
        clear hWR HRK HCL i1 i2 i3
        refine wpPlanH_sole rfl ?_
        go_wp2_with fail
        refine HWR.out.mono ?_
        rintro e v ⟨rfl, hd, hu⟩
        rw [lay_step HH.out.dk.len (by omega)] at hd
        have hu' : Upd [I.d, I.dg] wr v := (Upd.drew (Upd.refl _ _)).trans hu
        have HSN : Hid (SpAt v I { S with q := S.q + (k + 1), bs := splice S.bs (64 * F) (padS b (k + 1)) }) := HSK.out.write hd hu'
        have HXV := Lib.hid (HRX2.out.keep hu' (hnX X (Nat.le_refl _)))
        have HUN := Lib.hid (HU.out.trans hu')
        clear hd hu hu' HWR HS2
        go_wp2
        refine ⟨⟨HSN.out.row.cell (i := 0) rfl, HXV.out.cell (i := 0) rfl⟩, ?_⟩
        refine wpPlanH_nil ?_
        go_wp2
        go_roundw
        case rel => exact ⟨k + 1, by omega, by go_num, HSN.out, HUN.out⟩
        case measure => simp [intOf]; omega
      · have i3 : (len : Int) < (k : Int) * 64 + 64 := by omega
        go_wp2_with fail
        refine wp_region_planH (fun z => z.cell? ⟨I.m, 0, none⟩ = some (.pointer (some ⟨I.d, 0, none⟩)) ∧ z.cell? ⟨X, 0, none⟩ = some (.int .i64 F)) [(0, true), (1, true), (2, true), (3, true), (4, true), (5, true), (6, true), (7, true), (8, true), (9, true), (10, true), (11, true), (12, true), (13, true), (14, false), (15, true), (16, false)] (by kernel_rfl) (by kernel_rfl) (fun _ _ _ _ _ h => h) ⟨k0, x0⟩ ?_
        have HS2 := Lib.hid (show wr.drew.cell? ⟨I.m, 0, none⟩ = some (.pointer (some ⟨I.d, 0, none⟩)) ∧ wr.drew.cell? ⟨X, 0, none⟩ = some (.int .i64 F) from ⟨k0, x0⟩)
        clear k0 k2 x0 x1 x2
        (repeat (refine wpPlanH_free rfl (fun K hK => ?_); go_simp; (try go_bits); refine hK _ ?_; clear hK K))
        refine wpPlanH_load (.pointer (some ⟨I.d, 0, none⟩)) rfl rfl (fun x hS => by obtain ⟨s0, s1⟩ := hS; go_simp) (fun K hK => ?_)
        refine hK _ ?_
        clear hK K
        (repeat (refine wpPlanH_free rfl (fun K hK => ?_); go_simp; (try go_bits); refine hK _ ?_; clear hK K))
        refine wpPlanH_load (.int .i64 F) rfl rfl (fun x hS => by obtain ⟨s0, s1⟩ := hS; go_simp) (fun K hK => ?_)
        refine hK _ ?_
        clear hK K
        (repeat (refine wpPlanH_free rfl (fun K hK => ?_); go_simp; (try go_bits); refine hK _ ?_; clear hK K))
        refine wpPlanH_sole rfl ?_
        go_wp2_with fail
        refine ⟨HS2.out, ?_⟩
        refine wpPlanH_free rfl (fun K hK => ?_)
        go_simp
        obtain ⟨A, hA⟩ : ∃ A, A = (if cap = ((k : Int) * 64).toNat then a else Option.map (fun x => x.add ((k : Int) * 64).toNat) a) := ⟨_, rfl⟩
        obtain ⟨C, hC⟩ : ∃ C, C = cap - ((k : Int) * 64).toNat := ⟨_, rfl⟩
        have hMM : len - ((k : Int) * 64).toNat = (len - 64 * k) := by omega
        rw [← hA, ← hC, hMM]
        refine ⟨.slice A (len - 64 * k) C, fun z => ?_, ?_⟩
        · rw [if_pos (by omega)]
        refine hK _ ?_
        clear hK K hMM
        have HRK : Hid (Reads wr.drew A C ((chunk b k).map (Value.int .u8))) := by
          have h0 : Reads wr a cap (b.map (Value.int .u8)) := reads_keep (HR.out.below HBW.out) HU.out (fun h0 y hy hm => HD.out (by have := HE.out; simp at h0; omega) y hy (by simp [SpI.all]; simp at hm; omega))
          have h1 := reads_from h0 (by have := HE.out; simp; omega) (64 * k) (len - 64 * k) (by have := HE.out; simp; omega)
          rw [show ((k : Int) * 64).toNat = 64 * k by omega] at hA hC
          rw [← hA, ← hC] at h1
          have h2 : ((b.map (Value.int .u8)).drop (64 * k)).take (len - 64 * k) = (chunk b k).map (Value.int .u8) := by
            unfold chunk
            rw [← List.map_drop, ← List.map_take]
            congr 1
            rw [List.take_of_length_le (by have := HE.out; simp; omega), List.take_of_length_le (by have := HE.out; simp; omega)]
          rw [h2] at h1
          exact h1
        have HCL : Hid ((len - 64 * k) = (chunk b k).length) := by unfold Hid chunk; have := HE.out; simp; omega
        clear hA hC
        have hWR := c_Write _ _ _ _ _ _ wr.drew (HSK.out.dk.keep (l := []) (Upd.refl _ _).drew (by simp) (by simp)) (by show S.q + k < 1000000; omega) (F + k) (by show F + k < S.N; omega) A (len - 64 * k) C (chunk b k) HCL.out (chunk_byt HB.out k) HRK.out (by omega)
        rw [Int.natCast_add] at hWR
        have HWR := Lib.hid hWR
        clear hWR HRK HCL i1 i2 i3
        refine wpPlanH_sole rfl ?_
        go_wp2_with fail
        refine HWR.out.mono ?_
        rintro e v ⟨rfl, hd, hu⟩
        rw [lay_step HH.out.dk.len (by omega)] at hd
        have hu' : Upd [I.d, I.dg] wr v := (Upd.drew (Upd.refl _ _)).trans hu
        have HSN : Hid (SpAt v I { S with q := S.q + (k + 1), bs := splice S.bs (64 * F) (padS b (k + 1)) }) := HSK.out.write hd hu'
        have HXV := Lib.hid (HRX2.out.keep hu' (hnX X (Nat.le_refl _)))
        have HUN := Lib.hid (HU.out.trans hu')
        clear hd hu hu' HWR HS2
        go_wp2
        refine ⟨⟨HSN.out.row.cell (i := 0) rfl, HXV.out.cell (i := 0) rfl⟩, ?_⟩
        refine wpPlanH_nil ?_
        go_wp2
        go_roundw
        case rel => exact ⟨k + 1, by omega, by go_num, HSN.out, HUN.out⟩
        case measure => simp [intOf]; omega
    · obtain rfl : n = k := by omega
      have HSF : Hid (SpAt wr I { S with q := S.q + n, bs := splice S.bs (64 * F) (padS b n) }) := HSK.out
      have HX0 := Lib.hid hnX
      have f2 := HRX2.out.free 2
      have hX2 := HRX2.out.set 2 (.int .i64 (len : Int))
      have uX : Upd [X, X + 1] wr (wr.setCell ⟨X, 2, none⟩ (.int .i64 len)) := (Upd.refl _ _).setCell (by simp) _
      have hIX : ∀ k ∈ I.all, k ∉ [X, X + 1] := fun k hk hm => by
        have := HXI.out k hk
        simp at hm
        omega
      have hSX := HSF.out.keep uX hIX
      have hRR := HRR2.out.setOther (p := ⟨X, 2, none⟩) (by simp) (.int .i64 (len : Int))
      have HWZ := Lib.hid (HU.out.mono (m := [I.d, I.dg, I.mp]) (by simp))
      have HIX := Lib.hid hIX
      clear HSK hlt x0 x1 k0 k2 HU hIX HRX2 HRR2 HRX HRR hnX
      go_wp2_with fail
      obtain ⟨v, hv⟩ : ∃ v, v = wr.setCell ⟨X, 2, none⟩ (.int .i64 len) := ⟨_, rfl⟩
      rw [← hv] at uX hSX hX2 hRR ⊢
      have hex : exOk ((F : Int), (n : Int), (len : Int)) := ⟨wf_i64 (by show _ ≤ (F : Int); omega) (by show (F : Int) ≤ _; omega), wf_i64 (by show _ ≤ (n : Int); omega) (by show (n : Int) ≤ _; omega), wf_i64 (by show _ ≤ (len : Int); omega) (by show (len : Int) ≤ _; omega)⟩
      have k2 := hSX.row.cell (i := 2) rfl
      have x0 := hX2.cell (i := 0) rfl
      have x1 := hX2.cell (i := 1) rfl
      have x2 := hX2.cell (i := 2) rfl
      have HUX := Lib.hid uX
      have HSX := Lib.hid hSX
      have HRX := Lib.hid hX2
      have HRR := Lib.hid hRR
      have HEX := Lib.hid hex
      clear hv uX hSX hX2 hRR hex f2
      refine wp_region_planH (fun z => z.cell? ⟨I.m, 2, none⟩ = some (.map (some I.mp)) ∧ z.cell? ⟨X, 0, none⟩ = some (.int .i64 F) ∧ z.cell? ⟨X, 1, none⟩ = some (.int .i64 n) ∧ z.cell? ⟨X, 2, none⟩ = some (.int .i64 len)) [(0, true), (1, true), (2, true), (3, true), (4, true), (5, false)] (by kernel_rfl) (by kernel_rfl) (fun _ _ _ _ _ h => h) ⟨k2, x0, x1, x2⟩ ?_
      clear k2 x0 x1 x2
      (repeat (refine wpPlanH_free rfl (fun K hK => ?_); go_simp; (try go_bits); refine hK _ ?_; clear hK K))
      refine wpPlanH_load (.map (some I.mp)) rfl rfl (fun x hS => by obtain ⟨s0, s1, s2, s3⟩ := hS; go_simp) (fun K hK => ?_)
      refine hK _ ?_
      clear hK K
      (repeat (refine wpPlanH_free rfl (fun K hK => ?_); go_simp; (try go_bits); refine hK _ ?_; clear hK K))
      refine wpPlanH_load (.agg #[.int .i64 F, .int .i64 n, .int .i64 len]) rfl rfl (fun x hS => by obtain ⟨s0, s1, s2, s3⟩ := hS; go_simp) (fun K hK => ?_)
      refine hK _ ?_
      clear hK K
      refine wpPlanH_sole rfl ?_
      refine wpList_live rfl _ _ _ rfl I.mp S.c S.f rfl (HSX.out.lv.keep (l := []) (Upd.refl _ _).drew (by simp)) (by omega) ((F : Int), (n : Int), (len : Int)) HEX.out rfl rfl ?_
      intro v2 hl hu
      have hu' : Upd [I.mp] v v2 := ((Upd.refl _ _).drew).trans hu
      have hS2 := HSX.out.live hl hu'
      have hmX : ∀ j, X ≤ j → j ∉ [I.mp] := fun j hj hm => by
        have h1 := HXI.out I.mp (by simp [SpI.all])
        simp at hm
        omega
      have hX2 := HRX.out.keep hu' (hmX X (Nat.le_refl _))
      have hR2 := HRR.out.keep hu' (hmX (X + 1) (by omega))
      have x0 := hX2.cell (i := 0) rfl
      have x1 := hX2.cell (i := 1) rfl
      have x2 := hX2.cell (i := 2) rfl
      have y0 := hR2.cell (i := 0) rfl
      have y1 := hR2.cell (i := 1) rfl
      have y2 := hR2.cell (i := 2) rfl
      have g0 := hR2.free 0
      have g1 := hR2.free 1
      have g2 := hR2.free 2
      have HS2 := Lib.hid hS2
      have HU2 := Lib.hid hu'
      have HX2 := Lib.hid hX2
      have HR2 := Lib.hid hR2
      refine ⟨⟨hS2.row.cell (i := 2) rfl, x0, x1, x2⟩, ?_⟩
      clear hl hu hu' hS2 hmX hX2 hR2
      refine wpPlanH_nil ?_
      go_wp2
      obtain ⟨v3, hv3⟩ : ∃ v3, v3 = ((v2.setCell ⟨X + 1, 0, none⟩ (.int .i64 F)).setCell ⟨X + 1, 1, none⟩ (.int .i64 n)).setCell ⟨X + 1, 2, none⟩ (.int .i64 len) := ⟨_, rfl⟩
      have hR3 : Row v3 (X + 1) 34 [.int .i64 F, .int .i64 n, .int .i64 len] := by rw [hv3]; exact ((HR2.out.set 0 _).set 1 _).set 2 _
      have u3 : Upd [X, X + 1] v2 v3 := by rw [hv3]; exact (((Upd.refl [X, X + 1] v2).setCell (by simp) _).setCell (by simp) _).setCell (by simp) _
      rw [← hv3]
      have HU3 := Lib.hid u3
      clear hv3 u3 y0 y1 y2 g0 g1 g2 x0 x1 x2
      have z0 := hR3.cell (i := 0) rfl
      have z1 := hR3.cell (i := 1) rfl
      have z2 := hR3.cell (i := 2) rfl
      clear hR3
      (try simp only [Exit.inBlock, Exit.then])
      refine bodyPost_ret (by rw [results_cellE rfl]; go_simp; rfl) rfl ?_
      unfold LayPost laid
      rw [← HN.out, ← HE.out]
      refine ⟨rfl, HS2.out.keep HU3.out HIX.out, ?_⟩
      refine Upd.new (m := [I.d, I.dg, I.mp, X, X + 1]) ((((Upd.of_below HBW.out).trans (HWZ.out.mono (by simp))).trans (HUX.out.mono (by simp))).trans ((HU2.out.mono (by simp)).trans (HU3.out.mono (by simp)))) (fun j hj => ?_)
      have := HX.out
      simp at hj ⊢
      omega

end Go.Proofs.Ytpbokmmobepolaa
