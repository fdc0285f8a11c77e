/-
  The law SchedGreatest. (Written by greatgen.py.)
-/
import Derived.Test.YtbkaafbkmcgfjaaSchedQ
namespace Go.Proofs.Ytbkaafbkmcgfjaa
open Go.RowKit
set_option linter.unusedVariables false
set_option maxHeartbeats 4000000
set_option maxRecDepth 20000

theorem law_SchedGreatest (a0 : Option Addr) (len0 cap0 : Nat) (z0 : List Int) (w : World) (w0 : Came .u8 w a0 len0 cap0 z0) :
    Calls Try.prog 3 #[.slice a0 len0 cap0] w fun e w' => e = .returned (.bool true) ∧ Below w.heap.size w w' := by
  obtain ⟨ls, el, hc2, hm2, hr2, hw2⟩ := w0.reads
  clear w0
  subst el
  have hwb : ∀ k, k < ls.length → 0 ≤ ls.getD k 0 ∧ ls.getD k 0 ≤ 255 := fun k hk => bounds_u8 (hw2 _ (getD_mem hk))
  by_cases hbig : 60 < ls.length
  · clear hw2 hr2 hwb
    go_enter Try.func3, Try.ntmps3
    go_wp2_with (go_at_call 10; refine (c_known20 _).mono ?_; rintro e w' ⟨rfl, hbel⟩)
    go_ret
    exact ⟨rfl, hbel⟩
  · obtain ⟨q, hqd⟩ : ∃ q : Nat → Nat, q = fun k => 1 + (ls.getD k 0).toNat % 8 := ⟨_, rfl⟩
    have HQ := Lib.hid (show ∀ k, k < ls.length → 1 + ls.getD k 0 % 8 = ((q k : Nat) : Int) from fun k hk => by have := hwb k hk; rw [hqd]; simp only; omega)
    have HQ1 := Lib.hid (show ∀ k, k < ls.length → 1 ≤ q k ∧ q k ≤ 8 from fun k hk => by rw [hqd]; simp only; omega)
    have HWB := Lib.hid hwb
    have HR := Lib.hid hr2
    obtain ⟨n, hn⟩ : ∃ n, n = ls.length := ⟨_, rfl⟩
    have HNL := Lib.hid hn
    rw [← hn] at hbig HQ HQ1 hc2 ⊢
    clear hw2 hr2 hwb hqd hn
    go_enter Try.func3, Try.ntmps3
    go_wp2_with fail
    refine (x_New _).mono ?_
    rintro e w2 ⟨L2, rfl, hx, hb⟩
    have HX := Lib.hid hx
    have HB := Lib.hid hb
    clear hx hb
    generalize hM : w.heap.size = M at *
    have HM := Lib.hid hM
    clear hM
    go_wp2
    go_loopw [4] (fun i wr => ∃ (k : Nat) (K : Lay) (x : RS), k ≤ n ∧ i = .int .i64 k ∧ Hid (SX wr M M 0 K x) ∧ Hid (G1 q k x) ∧ Hid (Below M w wr)) (fun i _ => n - (intOf i).toNat)
    case atStart => exact ⟨0, _, newR, Nat.zero_le _, rfl, HX.out, ⟨rfl, fun j hj => absurd hj (Nat.not_lt_zero _)⟩, HB.out⟩
    case round =>
      obtain ⟨k, K, x, hk, rfl, HX, HG, HB⟩ := hrel
      by_cases hlt : k < n
      · have hltl : k < ls.length := by rw [← HNL.out]; exact hlt
        obtain ⟨bb, off, rfl, hblt, hc0⟩ := (HR.out.below (show Below w.heap.size w wr from by rw [HM.out]; exact HB.out)).at (by simp; omega)
        have hcell := hc0 k _ (getD_map8 hltl)
        have hq : 1 + ls.getD k 0 % 8 = ((q k : Nat) : Int) := HQ.out k hlt
        have hq1 := HQ1.out k hlt
        obtain ⟨hy0, hy1⟩ := HWB.out k hltl
        clear hc0
        generalize ls.getD k 0 = y at *
        have HS := Lib.hid (HG.out.step hq1.1 hq1.2 (by omega))
        go_wp2_with fail
        refine (x_Spawn HX.out (by omega) ((q k : Nat) : Int)).mono ?_
        rw [HS.out.1, HS.out.2.1]
        rintro e w3 ⟨L3, rfl, hx, hm⟩
        have HB := Lib.hid (bMov HB.out HX.out (Nat.le_refl _) hm)
        have HX : Hid (SX w3 M M 0 L3 (spR x ((q k : Nat) : Int))) := hx
        clear hx hm
        go_wp2
        go_roundw
        case rel => exact ⟨k + 1, _, _, by omega, by go_num, HX.out, HS.out.2.2, HB.out⟩
        case measure => simp [intOf]; omega
      · obtain rfl : n = k := by omega
        clear hlt
        have HG2 := Lib.hid HG.out.done
        clear HG
        go_wp2
        go_loopw [7] (fun i wr => ∃ (k : Nat) (K : Lay) (x : RS), k ≤ n ∧ i = .int .i64 k ∧ Hid (SX wr M M 0 K x) ∧ Hid (G2 q n k x) ∧ Hid (Below M w wr)) (fun i _ => (intOf i).toNat)
        case atStart => exact ⟨n, _, x, Nat.le_refl _, rfl, HX.out, HG2.out, HB.out⟩
        case round =>
          obtain ⟨k, K, x, hk, rfl, HX, HG, HB⟩ := hrel
          cases k with
          | succ k =>
            have HS := Lib.hid (HG.out.step (by omega) HX.out.inv)
            go_wp2_with fail
            have b1 : Below wr.heap.size wr (wr.alloc (.cells #[.int .i64 ((k : Int) + 1)] 3)) := (Below.refl _ _).alloc (Nat.le_refl _) _
            have hlt := HX.out.lt
            refine (x_Resume (HX.out.below b1) (by omega) (some ⟨wr.heap.size, 0, none⟩) 1 1 [(k : Int) + 1] rfl (Reads.madeAt rfl) (Nat.le_refl _) (by omega) (fun y hy hm => by cases hy; exact absurd (hlt _ hm) (Nat.lt_irrefl _))).mono ?_
            rw [HS.out.1]
            rintro e w4 ⟨L4, rfl, hx, hm⟩
            have HB := Lib.hid (bMov (bBel HB.out HX.out (Nat.le_refl _) b1) (HX.out.below b1) (Nat.le_refl _) hm)
            have HX : Hid (SX w4 M M 0 L4 (rsR x [(k : Int) + 1])) := hx
            clear hx hm
            clear b1 hlt
            go_wp2
            go_roundw
            case rel => exact ⟨k, _, _, by omega, by go_num, HX.out, HS.out.2, HB.out⟩
            case measure => simp [intOf]
          | zero =>
            rw [show Value.int .i64 ((0 : Nat) : Int) = Value.int .i64 0 from rfl]
            have HG3 := Lib.hid (HG.out.done (fun j hj => by have := HQ1.out j hj; omega))
            clear HG
            go_wp2
            go_loopw [8, 9] (fun la i wr => ∃ (k l : Nat) (K : Lay) (x : RS), k ≤ n ∧ i = .int .i64 k ∧ la = .int .i64 l ∧ Hid (SX wr M M 0 K x) ∧ Hid (G3 q n k l x) ∧ Hid (Below M w wr)) (fun _ i _ => n - (intOf i).toNat)
            case atStart => exact ⟨0, 9, _, x, Nat.zero_le _, rfl, rfl, HX.out, HG3.out, HB.out⟩
            case round =>
              obtain ⟨k, l, K, x, hk, rfl, rfl, HX, HG, HB⟩ := hrel
              by_cases hlt : k < n
              · obtain ⟨a, han, haw, haa, hal⟩ := HG.out.act hlt HX.out.inv
                have HS := Lib.hid (HG.out.step HX.out.inv han haw)
                have hcast : ((a + 1 : Nat) : Int) = (a : Int) + 1 := by omega
                have e1 : (a : Int) + 1 - 1 = a := by omega
                have hanl : a < ls.length := by rw [← HNL.out]; exact han
                obtain ⟨bb, off, rfl, hblt, hc0⟩ := (HR.out.below (show Below w.heap.size w wr from by rw [HM.out]; exact HB.out)).at (by simp; omega)
                have hcell := hc0 a _ (getD_map8 hanl)
                have hq : 1 + ls.getD a 0 % 8 = ((q a : Nat) : Int) := HQ.out a han
                have hq1 := HQ1.out a han
                obtain ⟨hy0, hy1⟩ := HWB.out a hanl
                clear hc0
                generalize ls.getD a 0 = y at *
                have HAA := Lib.hid haa
                have hle : ¬ (l : Int) < ((q a : Nat) : Int) := by omega
                clear haa haw
                generalize hqa : q a = qa at *
                have HQA := Lib.hid hqa
                clear hqa
                go_wp2_with fail
                refine (x_Active HX.out).mono ?_
                rw [HAA.out, hcast]
                rintro e w' ⟨rfl, rfl⟩
                go_wp2_with fail
                refine (x_Suspend HX.out (by omega) ((a : Int) + 1)).mono ?_
                rw [HS.out.1]
                rintro e w5 ⟨L5, rfl, hx, hm⟩
                have HB := Lib.hid (bMov HB.out HX.out (Nat.le_refl _) hm)
                have HX : Hid (SX w5 M M 0 L5 (suR x ((a : Int) + 1))) := hx
                clear hx hm
                go_wp2_with fail
                refine (x_Suspend HX.out (by omega) ((a : Int) + 1)).mono ?_
                rw [HS.out.2.2.1, HS.out.2.2.2]
                rintro e w6 ⟨L6, rfl, hx, hm⟩
                have HB := Lib.hid (bMov HB.out HX.out (Nat.le_refl _) hm)
                have HX : Hid (SX w6 M M 0 L6 (suR x ((a : Int) + 1))) := hx
                clear hx hm
                go_wp2
                go_roundw
                case rel => exact ⟨k + 1, _, _, _, by omega, by go_num, rfl, HX.out, HS.out.2.1, HB.out⟩
                case measure => simp [intOf]; omega
              · obtain rfl : n = k := by omega
                have hz := HG.out.done
                have HZ := Lib.hid hz
                have HY := Lib.hid (show yiE x = 4 from if_pos hz)
                clear hz
                go_wp2_with fail
                refine (x_Active HX.out).mono ?_
                rw [HZ.out]
                rintro e w' ⟨rfl, rfl⟩
                go_wp2_with fail
                refine (x_Yield HX.out (by omega)).mono ?_
                rw [HY.out]
                rintro e w7 ⟨L7, rfl, hx, hm⟩
                have HB := Lib.hid (bMov HB.out HX.out (Nat.le_refl _) hm)
                have HX : Hid (SX w7 M M 0 L7 (yieldR x)) := hx
                clear hx hm
                go_wp2_with fail
                refine (c_known20 _).mono ?_
                rintro e w' ⟨rfl, bk⟩
                have HB := Lib.hid (bBel HB.out HX.out (Nat.le_refl _) bk)
                clear bk
                go_wp2
                go_ret
                exact ⟨rfl, by rw [HM.out]; exact HB.out⟩

end Go.Proofs.Ytbkaafbkmcgfjaa
