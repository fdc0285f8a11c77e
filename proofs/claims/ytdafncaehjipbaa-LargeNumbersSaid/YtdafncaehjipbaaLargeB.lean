/-
  Contracts of package large: plus, minus. (Written by lbgen.py.)
-/
import Derived.Test.YtdafncaehjipbaaLargeA
namespace Go.Proofs.Ytdafncaehjipbaa
open Go.RowKit
set_option linter.unusedVariables false
set_option maxHeartbeats 1000000
set_option maxRecDepth 20000

theorem val_zeros (n : Nat) : valI (List.replicate n 0) = 0 := by
  induction n with
  | zero => rfl
  | succ n ih => rw [List.replicate_succ, valI, ih]; rfl
theorem byt_zeros (n : Nat) : Byt (List.replicate n 0) := fun x hx => by
  rw [List.eq_of_mem_replicate hx]; omega
theorem row_reads {w : World} {g : Nat} {t : TypeId} {xs : List Value} (h : Row w g t xs) (c : Nat) : Reads w (some ⟨g, 0, none⟩) c xs :=
  .inr ⟨_, rfl, fun i u hu => by rw [add_flat, Nat.zero_add]; exact h.cell hu⟩
theorem row_put {w : World} {g : Nat} {t : TypeId} {o : List Int} (h : Row w g t (o.map (Value.int .u8))) (i : Nat) (d : Int) : Row (w.setCell ⟨g, i, none⟩ (.int .u8 d)) g t ((o.set i d).map (Value.int .u8)) := by
  rw [List.map_set]; exact h.set i _

theorem c_plus (a0 a1 : Option Addr) (n0 n1 c0 c1 : Nat) (l m : List Int) (w : World) (e0 : n0 = l.length) (e1 : n1 = m.length) (h0 : Reads w a0 c0 (l.map (Value.int .u8))) (h1 : Reads w a1 c1 (m.map (Value.int .u8))) (b0 : Byt l) (b1 : Byt m) (hm0 : n0 ≤ 100000) (hm1 : n1 ≤ 100000) :
    Calls Try.prog 41 #[.slice a0 n0 c0, .slice a1 n1 c1] w (NumPost w (valI l + valI m)) := by
  have HD0 := Lib.hid (fun (i : Nat) wz (b : Below w.heap.size w wz) (hi : i ≤ 1000000000) => c_digit a0 n0 c0 l i wz e0 (h0.below b) b0 (by omega) hi)
  have HD1 := Lib.hid (fun (i : Nat) wz (b : Below w.heap.size w wz) (hi : i ≤ 1000000000) => c_digit a1 n1 c1 m i wz e1 (h1.below b) b1 (by omega) hi)
  have HB0 := Lib.hid b0
  have HB1 := Lib.hid b1
  have HE := Lib.hid (And.intro e0 e1)
  clear e0 e1 h0 h1 b0 b1
  by_cases hmx : n1 ≤ n0
  · have hx1 : ((n0 : Int) < n1) = False := eq_false (by omega)
    have hx2 : (n0 < n1) = False := eq_false (by omega)
    have hx3 : ((n1 : Int) ≤ n0) = True := eq_true (by omega)
    have HMX := Lib.hid (show n0 < n0 + 1 ∧ n1 < n0 + 1 from by omega)
    go_enter Try.func41, Try.ntmps41
    go_wp2_with (at_make; refine wpList_mk rfl _ _ 22 rfl 5 (.int .u8 0) 1 Try.underlying22 inf_u8L rfl .i64 .i64 _ _ (n0 + 1) rfl rfl ?c1 ?c2 (by omega) (by unfold maxLen; omega) ?_)
    case c1 => omega
    case c2 => omega
    intro w1 row1 upd1
    have HB1' := Lib.hid (upd1.below (Nat.le_refl _) (by simp))
    obtain ⟨g, hg⟩ : ∃ g, g = w.heap.size := ⟨_, rfl⟩
    obtain ⟨N, hN⟩ : ∃ N, N = n0 + 1 := ⟨_, rfl⟩
    rw [← hg] at row1 ⊢
    rw [← hN] at row1 HMX ⊢
    have hN2 : N ≤ 100001 := by omega
    have HRW := Lib.hid row1
    have HG := Lib.hid hg
    have Hn0 := Lib.hid hN
    clear row1 upd1 hg hN hx1 hx2 hx3 hmx
    go_wp2
    have hNi : ((n0 : Int) + 1) = (N : Int) := by have := Hn0.out; omega
    rw [hNi]
    clear hNi
    go_loopw [7, 18] (fun c i wr => ∃ (k cy : Nat) (o : List Int), k ≤ N ∧ c = .int .i64 cy ∧ i = .int .i64 k ∧ Hid (Row wr g 5 (o.map (Value.int .u8))) ∧ Hid (o.length = N ∧ Byt o ∧ SumAt l m o k cy) ∧ Hid (Below w.heap.size w wr)) (fun _ i _ => N - (intOf i).toNat)
    case atStart =>
      refine ⟨0, 0, List.replicate N 0, Nat.zero_le _, rfl, rfl, ?_, ?_, HB1'.out⟩
      · show Row _ _ _ _
        rw [List.map_replicate]; exact HRW.out
      · exact ⟨List.length_replicate, byt_zeros _, by unfold SumAt; simp [valI]⟩
    case round =>
      obtain ⟨k, cy, o, hk, rfl, rfl, hrow, hsum, hbel⟩ := hrel
      by_cases hlt : k < N
      · have hcy : cy ≤ 1 := hsum.out.2.2.2
        have hx0 := dg_le HB0.out k
        have hx1 := dg_le HB1.out k
        have HC0 := Lib.hid (HD0.out k wr hbel.out (by omega))
        have HC1 := Lib.hid (HD1.out k wr hbel.out (by omega))
        have HNX := Lib.hid (SumAt.next HB0.out HB1.out hsum.out.2.2 (by rw [hsum.out.1]; exact hlt))
        have hf := hrow.out.free k
        obtain ⟨old, hcell⟩ : ∃ old, wr.cell? ⟨g, k, none⟩ = some old := ⟨_, hrow.out.cell (List.getElem?_eq_getElem (by rw [List.length_map, hsum.out.1]; exact hlt))⟩
        have HLT := Lib.hid hlt
        generalize dg l k = x at *
        generalize dg m k = y at *
        go_wp2_with fail
        refine HC0.out.mono ?_
        clear HC0
        rintro e w' ⟨rfl, rfl⟩
        go_wp2_with fail
        refine HC1.out.mono ?_
        clear HC1
        rintro e w' ⟨rfl, rfl⟩
        go_wp2
        go_roundw
        case rel =>
          have hd : (((cy + (x + y)) % 256 : Nat) : Int) = ((cy : Int) + ((x : Int) + y)) % 256 := by omega
          have hc : (((cy + (x + y)) / 256 : Nat) : Int) = ((cy : Int) + ((x : Int) + y)) / 256 := by omega
          refine ⟨k + 1, (cy + (x + y)) / 256, o.set k (((cy + (x + y)) % 256 : Nat) : Int), HLT.out, by rw [hc], by go_num, ?_, ⟨by rw [List.length_set]; exact hsum.out.1, byt_set hsum.out.2.1 k (by omega), HNX.out⟩, hbel.out.setCell (p := ⟨g, k, none⟩) (by show w.heap.size ≤ g; have := HG.out; omega) _⟩
          show Row _ _ _ _
          rw [hd]
          exact row_put hrow.out k _
        case measure => have := HLT.out; simp [intOf]; omega
      · obtain rfl : k = N := by omega
        have hv := hsum.out.2.2.done HB0.out HB1.out hsum.out.1 (by have := HMX.out; have := HE.out; omega) (by have := HMX.out; have := HE.out; omega)
        have HCT := Lib.hid (c_cut (some ⟨g, 0, none⟩) k k o wr hsum.out.1.symm (row_reads hrow.out k) hsum.out.2.1 (Nat.le_refl _) (by omega))
        rw [hv] at HCT
        clear hv hsum hrow
        go_wp2_with fail
        refine HCT.out.mono ?_
        rintro e w' ⟨⟨q, rfl, hq⟩, rfl⟩
        go_wp2
        go_ret
        exact ⟨_, q, q, rfl, hq, fun x hx => by cases hx; show w.heap.size ≤ g; have := HG.out; omega, hbel.out⟩
  · have hx1 : ((n0 : Int) < n1) = True := eq_true (by omega)
    have hx2 : (n0 < n1) = True := eq_true (by omega)
    have hx3 : ((n1 : Int) ≤ n0) = False := eq_false (by omega)
    have HMX := Lib.hid (show n0 < n1 + 1 ∧ n1 < n1 + 1 from by omega)
    go_enter Try.func41, Try.ntmps41
    go_wp2_with (at_make; refine wpList_mk rfl _ _ 22 rfl 5 (.int .u8 0) 1 Try.underlying22 inf_u8L rfl .i64 .i64 _ _ (n1 + 1) rfl rfl ?c1 ?c2 (by omega) (by unfold maxLen; omega) ?_)
    case c1 => omega
    case c2 => omega
    intro w1 row1 upd1
    have HB1' := Lib.hid (upd1.below (Nat.le_refl _) (by simp))
    obtain ⟨g, hg⟩ : ∃ g, g = w.heap.size := ⟨_, rfl⟩
    obtain ⟨N, hN⟩ : ∃ N, N = n1 + 1 := ⟨_, rfl⟩
    rw [← hg] at row1 ⊢
    rw [← hN] at row1 HMX ⊢
    have hN2 : N ≤ 100001 := by omega
    have HRW := Lib.hid row1
    have HG := Lib.hid hg
    have Hn1 := Lib.hid hN
    clear row1 upd1 hg hN hx1 hx2 hx3 hmx
    go_wp2
    have hNi : ((n1 : Int) + 1) = (N : Int) := by have := Hn1.out; omega
    rw [hNi]
    clear hNi
    go_loopw [7, 18] (fun c i wr => ∃ (k cy : Nat) (o : List Int), k ≤ N ∧ c = .int .i64 cy ∧ i = .int .i64 k ∧ Hid (Row wr g 5 (o.map (Value.int .u8))) ∧ Hid (o.length = N ∧ Byt o ∧ SumAt l m o k cy) ∧ Hid (Below w.heap.size w wr)) (fun _ i _ => N - (intOf i).toNat)
    case atStart =>
      refine ⟨0, 0, List.replicate N 0, Nat.zero_le _, rfl, rfl, ?_, ?_, HB1'.out⟩
      · show Row _ _ _ _
        rw [List.map_replicate]; exact HRW.out
      · exact ⟨List.length_replicate, byt_zeros _, by unfold SumAt; simp [valI]⟩
    case round =>
      obtain ⟨k, cy, o, hk, rfl, rfl, hrow, hsum, hbel⟩ := hrel
      by_cases hlt : k < N
      · have hcy : cy ≤ 1 := hsum.out.2.2.2
        have hx0 := dg_le HB0.out k
        have hx1 := dg_le HB1.out k
        have HC0 := Lib.hid (HD0.out k wr hbel.out (by omega))
        have HC1 := Lib.hid (HD1.out k wr hbel.out (by omega))
        have HNX := Lib.hid (SumAt.next HB0.out HB1.out hsum.out.2.2 (by rw [hsum.out.1]; exact hlt))
        have hf := hrow.out.free k
        obtain ⟨old, hcell⟩ : ∃ old, wr.cell? ⟨g, k, none⟩ = some old := ⟨_, hrow.out.cell (List.getElem?_eq_getElem (by rw [List.length_map, hsum.out.1]; exact hlt))⟩
        have HLT := Lib.hid hlt
        generalize dg l k = x at *
        generalize dg m k = y at *
        go_wp2_with fail
        refine HC0.out.mono ?_
        clear HC0
        rintro e w' ⟨rfl, rfl⟩
        go_wp2_with fail
        refine HC1.out.mono ?_
        clear HC1
        rintro e w' ⟨rfl, rfl⟩
        go_wp2
        go_roundw
        case rel =>
          have hd : (((cy + (x + y)) % 256 : Nat) : Int) = ((cy : Int) + ((x : Int) + y)) % 256 := by omega
          have hc : (((cy + (x + y)) / 256 : Nat) : Int) = ((cy : Int) + ((x : Int) + y)) / 256 := by omega
          refine ⟨k + 1, (cy + (x + y)) / 256, o.set k (((cy + (x + y)) % 256 : Nat) : Int), HLT.out, by rw [hc], by go_num, ?_, ⟨by rw [List.length_set]; exact hsum.out.1, byt_set hsum.out.2.1 k (by omega), HNX.out⟩, hbel.out.setCell (p := ⟨g, k, none⟩) (by show w.heap.size ≤ g; have := HG.out; omega) _⟩
          show Row _ _ _ _
          rw [hd]
          exact row_put hrow.out k _
        case measure => have := HLT.out; simp [intOf]; omega
      · obtain rfl : k = N := by omega
        have hv := hsum.out.2.2.done HB0.out HB1.out hsum.out.1 (by have := HMX.out; have := HE.out; omega) (by have := HMX.out; have := HE.out; omega)
        have HCT := Lib.hid (c_cut (some ⟨g, 0, none⟩) k k o wr hsum.out.1.symm (row_reads hrow.out k) hsum.out.2.1 (Nat.le_refl _) (by omega))
        rw [hv] at HCT
        clear hv hsum hrow
        go_wp2_with fail
        refine HCT.out.mono ?_
        rintro e w' ⟨⟨q, rfl, hq⟩, rfl⟩
        go_wp2
        go_ret
        exact ⟨_, q, q, rfl, hq, fun x hx => by cases hx; show w.heap.size ≤ g; have := HG.out; omega, hbel.out⟩


theorem c_minus (a0 a1 : Option Addr) (n0 n1 c0 c1 : Nat) (l m : List Int) (w : World) (e0 : n0 = l.length) (e1 : n1 = m.length) (h0 : Reads w a0 c0 (l.map (Value.int .u8))) (h1 : Reads w a1 c1 (m.map (Value.int .u8))) (b0 : Byt l) (b1 : Byt m) (hm0 : n0 ≤ 100000) (hm1 : n1 ≤ n0) (hle : valI m ≤ valI l) :
    Calls Try.prog 36 #[.slice a0 n0 c0, .slice a1 n1 c1] w (NumPost w (valI l - valI m)) := by
  have HD0 := Lib.hid (fun (i : Nat) wz (b : Below w.heap.size w wz) (hi : i ≤ 1000000000) => c_digit a0 n0 c0 l i wz e0 (h0.below b) b0 (by omega) hi)
  have HD1 := Lib.hid (fun (i : Nat) wz (b : Below w.heap.size w wz) (hi : i ≤ 1000000000) => c_digit a1 n1 c1 m i wz e1 (h1.below b) b1 (by omega) hi)
  have HB0 := Lib.hid b0
  have HB1 := Lib.hid b1
  have HE := Lib.hid (And.intro e0 (And.intro e1 (And.intro hm1 hle)))
  clear e0 e1 h0 h1 b0 b1 hm1 hle
  go_enter Try.func36, Try.ntmps36
  go_wp2_with (at_make; refine wpList_mk rfl _ _ 22 rfl 5 (.int .u8 0) 1 Try.underlying22 inf_u8L rfl .i64 .i64 _ _ n0 rfl rfl rfl rfl (by omega) (by unfold maxLen; omega) ?_)
  intro w1 row1 upd1
  have HB1' := Lib.hid (upd1.below (Nat.le_refl _) (by simp))
  obtain ⟨g, hg⟩ : ∃ g, g = w.heap.size := ⟨_, rfl⟩
  rw [← hg] at row1 ⊢
  have HRW := Lib.hid row1
  have HG := Lib.hid hg
  clear row1 upd1 hg
  go_wp2
  go_loopw [6, 13] (fun c i wr => ∃ (k : Nat) (cy : Int) (o : List Int), k ≤ n0 ∧ c = .int .i64 cy ∧ i = .int .i64 k ∧ Hid (Row wr g 5 (o.map (Value.int .u8))) ∧ Hid (o.length = n0 ∧ Byt o ∧ DiffAt l m o k cy) ∧ Hid (Below w.heap.size w wr)) (fun _ i _ => n0 - (intOf i).toNat)
  case atStart =>
    refine ⟨0, 0, List.replicate n0 0, Nat.zero_le _, rfl, rfl, ?_, ?_, HB1'.out⟩
    · show Row _ _ _ _
      rw [List.map_replicate]; exact HRW.out
    · exact ⟨List.length_replicate, byt_zeros _, by unfold DiffAt; simp [valI]⟩
  case round =>
    obtain ⟨k, cy, o, hk, rfl, rfl, hrow, hsum, hbel⟩ := hrel
    by_cases hlt : k < n0
    · have hcy : -1 ≤ cy ∧ cy ≤ 0 := hsum.out.2.2.2
      have hx0 := dg_le HB0.out k
      have hx1 := dg_le HB1.out k
      have HC0 := Lib.hid (HD0.out k wr hbel.out (by omega))
      have HC1 := Lib.hid (HD1.out k wr hbel.out (by omega))
      have HNX := Lib.hid (DiffAt.next HB0.out HB1.out hsum.out.2.2 (by rw [hsum.out.1]; exact hlt))
      have hf := hrow.out.free k
      obtain ⟨old, hcell⟩ : ∃ old, wr.cell? ⟨g, k, none⟩ = some old := ⟨_, hrow.out.cell (List.getElem?_eq_getElem (by rw [List.length_map, hsum.out.1]; exact hlt))⟩
      have HLT := Lib.hid hlt
      generalize dg l k = x at *
      generalize dg m k = y at *
      go_wp2_with fail
      refine HC0.out.mono ?_
      clear HC0
      rintro e w' ⟨rfl, rfl⟩
      go_wp2_with fail
      refine HC1.out.mono ?_
      clear HC1
      rintro e w' ⟨rfl, rfl⟩
      go_wp2
      go_roundw
      case rel =>
        refine ⟨k + 1, (cy + ((x : Int) - y)) / 256, o.set k ((cy + ((x : Int) - y)) % 256), HLT.out, rfl, by go_num, row_put hrow.out k _, ⟨by rw [List.length_set]; exact hsum.out.1, byt_set hsum.out.2.1 k (by omega), HNX.out⟩, hbel.out.setCell (p := ⟨g, k, none⟩) (by show w.heap.size ≤ g; have := HG.out; omega) _⟩
      case measure => have := HLT.out; simp [intOf]; omega
    · obtain rfl : k = n0 := by omega
      have hv := hsum.out.2.2.done hsum.out.2.1 hsum.out.1 HE.out.1.symm (by have := HE.out; omega) HE.out.2.2.2
      have HCT := Lib.hid (c_cut (some ⟨g, 0, none⟩) k k o wr hsum.out.1.symm (row_reads hrow.out k) hsum.out.2.1 (Nat.le_refl _) (by omega))
      rw [hv] at HCT
      clear hv hsum hrow
      go_wp2_with fail
      refine HCT.out.mono ?_
      rintro e w' ⟨⟨q, rfl, hq⟩, rfl⟩
      go_wp2
      go_ret
      exact ⟨_, q, q, rfl, hq, fun x hx => by cases hx; show w.heap.size ≤ g; have := HG.out; omega, hbel.out⟩

end Go.Proofs.Ytdafncaehjipbaa
