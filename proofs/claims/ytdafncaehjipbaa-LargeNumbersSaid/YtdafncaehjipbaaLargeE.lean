/-
  Contracts of package large: Mul. (Written by legen.py.)
-/
import Derived.Test.YtdafncaehjipbaaLargeD
namespace Go.Proofs.Ytdafncaehjipbaa
open Go.RowKit
set_option linter.unusedVariables false
set_option maxHeartbeats 2000000
set_option maxRecDepth 20000

def mulE (l m : List Int) : Int := if rightB l = false ∨ rightB m = false then 2 else fullE (valI l * valI m)

theorem c_Mul (a0 a1 : Option Addr) (n0 n1 c0 c1 : Nat) (l m : List Int) (w : World) (e0 : n0 = l.length) (e1 : n1 = m.length) (h0 : Reads w a0 c0 (l.map (Value.int .u8))) (h1 : Reads w a1 c1 (m.map (Value.int .u8))) (b0 : Byt l) (b1 : Byt m) (hm0 : n0 ≤ 100000) (hm1 : n1 ≤ 100000) :
    Calls Try.prog 26 #[.slice a0 n0 c0, .slice a1 n1 c1] w (ResPost w (mulE l m) (valI l * valI m)) := by
  have HR0 := Lib.hid (fun wz (b : Below w.heap.size w wz) => c_Right a0 n0 c0 l wz e0 (h0.below b) (by omega))
  have HR1 := Lib.hid (fun wz (b : Below w.heap.size w wz) => c_Right a1 n1 c1 m wz e1 (h1.below b) (by omega))
  have HDG := Lib.hid (fun (i : Nat) wz (b : Below w.heap.size w wz) (hi : i ≤ 1000000000) => c_digit a1 n1 c1 m i wz e1 (h1.below b) b1 (by omega) hi)
  have HH := Lib.hid (And.intro h0 (And.intro h1 (And.intro b0 (And.intro b1 (And.intro e0 e1)))))
  clear h0 h1 b0 b1 e0 e1
  cases hr0 : rightB l with
  | false =>
    have hE : mulE l m = 2 := by unfold mulE; rw [if_pos (.inl hr0)]
    have HE := Lib.hid hE
    rw [hr0] at HR0
    clear hr0 hE
    go_enter Try.func26, Try.ntmps26
    go_wp2_with fail
    refine (HR0.out w (Below.refl _ _)).mono ?_
    rintro e w' ⟨rfl, rfl⟩
    go_wp2
    go_ret2
    exact ⟨none, 0, 0, by rw [HE.out]; rfl, by rw [HE.out, if_neg (by decide)]; exact numAt_nil w, Below.refl _ _⟩
  | true =>
    rw [hr0] at HR0
    cases hr1 : rightB m with
    | false =>
      have hE : mulE l m = 2 := by unfold mulE; rw [if_pos (.inr hr1)]
      have HE := Lib.hid hE
      rw [hr1] at HR1
      clear hr0 hr1 hE
      go_enter Try.func26, Try.ntmps26
      go_wp2_with fail
      refine (HR0.out w (Below.refl _ _)).mono ?_
      rintro e w' ⟨rfl, rfl⟩
      go_wp2_with fail
      refine (HR1.out w (Below.refl _ _)).mono ?_
      rintro e w' ⟨rfl, rfl⟩
      go_wp2
      go_ret2
      exact ⟨none, 0, 0, by rw [HE.out]; rfl, by rw [HE.out, if_neg (by decide)]; exact numAt_nil w, Below.refl _ _⟩
    | true =>
      have hE : mulE l m = fullE (valI l * valI m) := by unfold mulE; rw [if_neg (by rw [hr0, hr1]; simp)]
      have HE := Lib.hid hE
      rw [hr1] at HR1
      clear hr0 hr1 hE
      go_enter Try.func26, Try.ntmps26
      go_wp2_with fail
      refine (HR0.out w (Below.refl _ _)).mono ?_
      rintro e w' ⟨rfl, rfl⟩
      go_wp2_with fail
      refine (HR1.out w (Below.refl _ _)).mono ?_
      rintro e w' ⟨rfl, rfl⟩
      go_wp2_with (at_make; refine wpList_mk rfl _ _ 22 rfl 5 (.int .u8 0) 1 Try.underlying22 inf_u8L rfl .i64 .i64 _ _ (n0 + n1) rfl rfl ?c1 ?c2 (by omega) (by unfold maxLen; omega) ?_)
      case c1 => omega
      case c2 => omega
      intro w1 row1 upd1
      have HB1' := Lib.hid (upd1.below (Nat.le_refl _) (by simp))
      obtain ⟨g, hg⟩ : ∃ g, g = w.heap.size := ⟨_, rfl⟩
      obtain ⟨N, hN⟩ : ∃ N, N = n0 + n1 := ⟨_, rfl⟩
      rw [← hg] at row1 ⊢
      rw [← hN] at row1 ⊢
      have hN2 : N ≤ 200000 := by omega
      have HRW := Lib.hid row1
      have HG := Lib.hid hg
      have HNN := Lib.hid hN
      clear row1 upd1 hg hN
      go_wp2
      go_loopw [27] (fun i wr => ∃ (k : Nat) (o : List Int), k ≤ n0 ∧ i = .int .i64 k ∧ Hid (Row wr g 5 (o.map (Value.int .u8))) ∧ Hid (o.length = N ∧ Byt o ∧ valI o = valI (l.take k) * valI m) ∧ Hid (Below w.heap.size w wr)) (fun i _ => n0 - (intOf i).toNat)
      case atStart =>
        refine ⟨0, List.replicate N 0, Nat.zero_le _, rfl, ?_, ?_, HB1'.out⟩
        · show Row _ _ _ _
          rw [List.map_replicate]; exact HRW.out
        · exact ⟨List.length_replicate, byt_zeros _, by rw [val_zeros]; simp [valI]⟩
      case round =>
        obtain ⟨i, o, hi, rfl, hrow, hsum, hbel⟩ := hrel
        by_cases hlt : i < n0
        · have HLT := Lib.hid hlt
          obtain ⟨bb, oo, ha0, _, hcc⟩ := (HH.out.1.below hbel.out).at (by simp; have := HH.out.2.2.2.2.1; omega)
          have kc := hcc i _ (getD_map8 (by have := HH.out.2.2.2.2.1; omega))
          have hcr : 0 ≤ l.getD i 0 ∧ l.getD i 0 ≤ 255 := by rw [List.getD_eq_getElem?_getD]; exact byte_at HH.out.2.2.1 i
          have hcd : l.getD i 0 = ((dg l i : Nat) : Int) := by unfold dg; omega
          have hc2 := dg_le HH.out.2.2.1 i
          rw [hcd] at kc
          clear hcc hcr hcd
          obtain ⟨c, hc⟩ : ∃ c, c = dg l i := ⟨_, rfl⟩
          rw [← hc] at kc hc2
          have HC := Lib.hid hc
          subst ha0
          clear hc
          obtain ⟨wA, rfl⟩ : ∃ z, z = wr := ⟨_, rfl⟩
          obtain ⟨o0, rfl⟩ : ∃ z, z = o := ⟨_, rfl⟩
          have HI := Lib.hid hi
          clear hi
          go_wp2
          go_loopw [9, 35] (fun cy kk wr => ∃ (k cr : Nat) (o : List Int), k ≤ n1 + 1 ∧ cy = .int .i64 cr ∧ kk = .int .i64 k ∧ Hid (Row wr g 5 (o.map (Value.int .u8))) ∧ Hid (MulAt m o0 o i c k cr) ∧ Hid (Below w.heap.size w wr)) (fun _ kk _ => n1 + 1 - (intOf kk).toNat)
          case atStart => exact ⟨0, 0, o0, Nat.zero_le _, rfl, rfl, hrow.out, MulAt.start m o0 i c hsum.out.2.1, hbel.out⟩
          case round =>
            obtain ⟨k, cr, o, hk, rfl, rfl, hro, hmul, hbe⟩ := hrel
            by_cases hlk : k < n1 + 1
            · have hol : o.length = N := hmul.out.2.1.trans hsum.out.1
              have hcr : cr ≤ 255 := hmul.out.2.2.1
              have hpos : i + k < N := by have := HNN.out; have := HLT.out; omega
              have HNX := Lib.hid (MulAt.next HH.out.2.2.2.1 hc2 hmul.out (by rw [hol]; exact hpos))
              have hx0 := dg_le hmul.out.2.2.2 (i + k)
              have hy0 := dg_le HH.out.2.2.2.1 k
              have hcell := hro.out.cell (i := i + k) (getD_map8 (by rw [hol]; exact hpos))
              have hxe : o.getD (i + k) 0 = ((dg o (i + k) : Nat) : Int) := by
                have := byte_at hmul.out.2.2.2 (i + k)
                unfold dg
                rw [List.getD_eq_getElem?_getD]; omega
              rw [hxe] at hcell
              have hf := hro.out.free (i + k)
              have HD := Lib.hid (HDG.out k)
              have HLK := Lib.hid hlk
              have HOL := Lib.hid hol
              clear hxe hol
              generalize dg m k = y at *
              obtain ⟨x, hx⟩ : ∃ x, x = dg o (i + k) := ⟨_, rfl⟩
              rw [← hx] at hcell hx0 HNX
              have hxy : c * y ≤ 65025 := Nat.mul_le_mul hc2 hy0
              clear hx
              have hpI : ((i : Int) + (k : Int) < (N : Int)) = True := eq_true (by omega)
              have hpJ : (0 ≤ (i : Int) + (k : Int)) = True := eq_true (by omega)
              have hpK : ((i : Int) + (k : Int)).toNat = i + k := by omega
              have hp1 : (0 : Int) ≤ (c : Int) * (y : Int) := Int.mul_nonneg (by omega) (by omega)
              have hp2 : (c : Int) * (y : Int) ≤ 65025 := by
                have : ((c * y : Nat) : Int) ≤ 65025 := by omega
                rwa [Int.natCast_mul] at this
              go_wp2
              refine wp_region_planH (fun z => z.cell? ⟨g, i + k, none⟩ = some (.int .u8 (x : Int))) [(0, true), (1, true), (2, true), (3, true), (4, true), (5, true), (6, true), (7, true), (8, true), (9, true), (10, true), (11, true), (12, false), (13, true), (14, true), (15, true), (16, true)] (by kernel_rfl) (by kernel_rfl) (fun _ _ _ _ _ h => h) hcell ?_
              have HRO : Hid (Row wr.drew g 5 (o.map (Value.int .u8))) := hro.out
              have HBE := Lib.hid (bDrew hbe.out)
              have hcell2 : wr.drew.cell? ⟨g, i + k, none⟩ = some (.int .u8 (x : Int)) := hcell
              clear hcell hf
              generalize wr.drew = w3 at *
              (repeat (refine wpPlanH_free rfl (fun K hK => ?_); go_simp; (try go_bits); refine hK _ ?_; clear hK K))
              refine wpPlanH_load (.int .u8 (x : Int)) rfl rfl (fun z hS => by go_simp) (fun K hK => ?_)
              refine hK _ ?_
              clear hK K
              (repeat (refine wpPlanH_free rfl (fun K hK => ?_); go_simp; (try go_bits); refine hK _ ?_; clear hK K))
              refine wpPlanH_sole rfl ?_
              go_wp2_with fail
              refine (HD.out w3 HBE.out (by omega)).mono ?_
              rintro e w' ⟨rfl, rfl⟩
              go_wp2
              refine ⟨hcell2, ?_⟩
              (repeat (refine wpPlanH_free rfl (fun K hK => ?_); go_simp; (try go_bits); refine hK _ ?_; clear hK K))
              refine wpPlanH_nil ?_
              have hf := HRO.out.free (i + k)
              go_wp2
              go_roundw
              case rel =>
                have hd : (((cr + (x + c * y)) % 256 : Nat) : Int) = ((cr : Int) + ((x : Int) + (c : Int) * (y : Int))) % 256 := by simp
                have hc' : (((cr + (x + c * y)) / 256 : Nat) : Int) = ((cr : Int) + ((x : Int) + (c : Int) * (y : Int))) / 256 := by simp
                refine ⟨k + 1, (cr + (x + c * y)) / 256, o.set (i + k) (((cr + (x + c * y)) % 256 : Nat) : Int), HLK.out, by rw [hc'], by have := HLK.out; go_num, ?_, HNX.out, HBE.out.setCell (p := ⟨g, i + k, none⟩) (by show w.heap.size ≤ g; have := HG.out; omega) _⟩
                show Row _ _ _ _
                rw [hd]
                exact row_put HRO.out (i + k) _
              case measure => have := HLK.out; simp [intOf]; omega
            · obtain rfl : k = n1 + 1 := by omega
              have hdn := MulAt.done HH.out.2.2.1 HH.out.2.2.2.1 hsum.out.2.2 (by rw [← HC.out, ← HH.out.2.2.2.2.2]; exact hmul.out)
              have HDN := Lib.hid (show o.length = N ∧ Byt o ∧ valI o = valI (l.take (i + 1)) * valI m from ⟨hmul.out.2.1.trans hsum.out.1, hmul.out.2.2.2, hdn.2⟩)
              clear hdn hmul
              have hcast : ((n1 + 1 : Nat) : Int) = (n1 : Int) + 1 := by omega
              rw [hcast]
              clear hcast
              go_wp2
              go_roundw
              case rel => exact ⟨i + 1, o, HLT.out, by have := HLT.out; go_num, hro.out, HDN.out, hbe.out⟩
              case measure => have := HLT.out; simp [intOf]; omega
        · obtain rfl : i = n0 := by omega
          have hv : valI o = valI l * valI m := by
            have := hsum.out.2.2
            rwa [List.take_of_length_le (by have := HH.out.2.2.2.2.1; omega)] at this
          have HT := Lib.hid (c_told (some ⟨g, 0, none⟩) N N o wr hsum.out.1.symm (row_reads hrow.out N) hsum.out.2.1 (Nat.le_refl _) (by omega))
          rw [hv] at HT
          clear hv hsum hrow
          go_wp2_with fail
          refine HT.out.mono ?_
          clear HT
          rintro e w2 ⟨a, k, c, rfl, hq, bel⟩
          have HQ := Lib.hid hq
          have HB2 := Lib.hid (bNext hbel.out bel)
          clear bel hq
          go_wp2
          go_ret2
          exact ⟨a, k, c, by rw [HE.out]; rfl, by rw [HE.out]; exact HQ.out, HB2.out⟩

end Go.Proofs.Ytdafncaehjipbaa
