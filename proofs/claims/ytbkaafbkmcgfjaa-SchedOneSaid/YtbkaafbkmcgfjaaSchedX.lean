/-
  The document's answer of chapter 20: next.
-/
import Derived.Test.YtbkaafbkmcgfjaaSchedW
import Derived.Test.YtbkaafbkmcgfjaaPlanU
namespace Go.Proofs.Ytbkaafbkmcgfjaa
open Go.RowKit
set_option linter.unusedVariables false
set_option maxHeartbeats 4000000
set_option maxRecDepth 20000

/-- Where the document's lists do not lie. -/
def Off (a1 a2 : Option Addr) (x : RS) (l : List Nat) : Prop := (0 < x.P.length → ∀ y, a1 = some y → y.block ∉ l) ∧ (0 < x.sems.length → ∀ y, a2 = some y → y.block ∉ l)
theorem reads_nil {w w' : World} {a : Option Addr} {c : Nat} (h : Reads w a c []) : Reads w' a c [] := by
  rcases h with h | ⟨y, rfl, _⟩
  · exact .inl h
  · exact .inr ⟨y, rfl, fun i u hu => by simp at hu⟩
theorem RefV.keep {w w' : World} {a1 a2 : Option Addr} {c1 c2 : Nat} {x : RS} (h : RefV w a1 c1 a2 c2 x) {l : List Nat} (u : Upd l w w') (ho : Off a1 a2 x l) : RefV w' a1 c1 a2 c2 x := by
  refine ⟨?_, ?_⟩
  · by_cases hp : 0 < x.P.length
    · exact u.reads h.rp (ho.1 hp)
    · have e : x.P = [] := List.eq_nil_of_length_eq_zero (by omega)
      have hr := h.rp
      rw [e] at hr ⊢
      exact reads_nil hr
  · by_cases hp : 0 < x.sems.length
    · exact u.reads h.rs (ho.2 hp)
    · have e : x.sems = [] := List.eq_nil_of_length_eq_zero (by omega)
      have hr := h.rs
      rw [e] at hr ⊢
      exact reads_nil hr
theorem RefV.off {w : World} {a1 a2 : Option Addr} {c1 c2 : Nat} {x : RS} (h : RefV w a1 c1 a2 c2 x) {l : List Nat} (hl : ∀ k ∈ l, w.heap.size ≤ k) : Off a1 a2 x l := by
  refine ⟨fun hp y hy hm => ?_, fun hp y hy hm => ?_⟩
  · obtain ⟨b, o, rfl, hb, _⟩ := h.rp.at (by rw [flatP_len]; omega)
    cases hy
    have := hl _ hm
    show False
    simp at this
    omega
  · obtain ⟨b, o, rfl, hb, _⟩ := h.rs.at (by simpa using hp)
    cases hy
    have := hl _ hm
    show False
    simp at this
    omega

theorem act_pos {x : RS} {k : Nat} (hk : k < x.P.length) (hw : (gP x k).wh = 1) : actR x ≠ 0 := by
  rcases act_cases x with ⟨_, h⟩ | ⟨a, _, _, h⟩
  · exact absurd hw (h k hk)
  · omega

theorem c_rNext {w : World} {a1 a2 : Option Addr} {c1 c2 : Nat} {x : RS} (h : RefV w a1 c1 a2 c2 x) (hn : x.P.length ≤ 100) (hnow : x.now ≤ 999000) :
    Calls Try.prog 37 #[refV a1 c1 a2 c2 x] w (RPost a1 a2 c2 (nextR x) w) := by
  obtain ⟨W, hW⟩ : ∃ W, W = (w.alloc (.cells #[.slice a1 x.P.length c1, .slice a2 x.sems.length c2, .int .i64 x.now] 41)).alloc (.cells #[.slice none 0 0, .slice none 0 0, .int .i64 0] 41) := ⟨_, rfl⟩
  have hb : Below w.heap.size w W := by rw [hW]; exact ((Below.refl _ _).alloc (Nat.le_refl _) _).alloc (by simp) _
  have hr : Row W w.heap.size 41 (refC a1 c1 a2 c2 x) := by rw [hW]; exact (Row.made w (refC a1 c1 a2 c2 x) 41).alloc _
  have hr1 : Row W (w.heap.size + 1) 41 [.slice none 0 0, .slice none 0 0, .int .i64 0] := by
    rw [hW]
    have := Row.made (w.alloc (.cells #[.slice a1 x.P.length c1, .slice a2 x.sems.length c2, .int .i64 x.now] 41)) [.slice none 0 0, .slice none 0 0, .int .i64 0] 41
    simpa using this
  have hsz : W.heap.size = w.heap.size + 2 := by rw [hW]; simp
  have HV := Lib.hid (h.below hb)
  have HOFF := Lib.hid (h.off (l := [w.heap.size, w.heap.size + 1]) (fun k hk => by simp at hk; omega))
  have HB := Lib.hid hb
  have HW := Lib.hid hW
  obtain ⟨q0, hq0⟩ : ∃ q, q = w.heap.size := ⟨_, rfl⟩
  obtain ⟨q1, hq1⟩ : ∃ q, q = w.heap.size + 1 := ⟨_, rfl⟩
  have HQ0 := Lib.hid hq0
  have HQ1 := Lib.hid hq1
  rw [← hq1] at hr1 HOFF
  rw [← hq0] at hr hsz HB HOFF
  have HR0 := Lib.hid hr
  have HR1 := Lib.hid hr1
  have HSZ := Lib.hid hsz
  clear h hb hr hr1 hsz hW hq0 hq1
  unfold refV
  go_enter Try.func37, Try.ntmps37
  go_wp2
  rw [← HW.out, ← HQ1.out, ← HQ0.out]
  go_loopw [3] (fun iv wr => ∃ (i : Nat) (y : RS) (b1 : Option Addr) (d1 : Nat), i ≤ 8 ∧ iv = .int .i64 i ∧ Hid (Row wr q0 41 (refC b1 d1 a2 c2 y)) ∧ Hid (Row wr q1 41 [.slice none 0 0, .slice none 0 0, .int .i64 0]) ∧ Hid (RefV wr b1 d1 a2 c2 y) ∧ Hid (Off b1 a2 y [q0, q1]) ∧ Hid (Below q0 w wr) ∧ Hid (nextRF i y = nextR x) ∧ y.P.length ≤ 100 ∧ y.now ≤ 999001 ∧ Hid (y.sems = x.sems) ∧ Hid (actR y = 0 → y.now ≤ 999000) ∧ Hid (b1 = a1 ∨ ∃ g, b1 = some ⟨g, 0, none⟩ ∧ q0 ≤ g)) (fun iv _ => (intOf iv).toNat)
  case atStart => exact ⟨8, x, a1, c1, by omega, rfl, HR0.out, HR1.out, HV.out, HOFF.out, HB.out, rfl, hn, by omega, rfl, fun _ => hnow, .inl rfl⟩
  case round =>
    obtain ⟨i, y, b1, d1, hi, rfl, HR0, HR1, HV, HO, HB, HN, hyn, hynow, HYS, HYN, HG1⟩ := hrel
    have k0 := HR0.out.cell (i := 0) rfl
    have k1 := HR0.out.cell (i := 1) rfl
    have k2 := HR0.out.cell (i := 2) rfl
    cases i with
    | zero =>
      have HN : Hid (y = nextR x) := HN.out
      have y0 := HR1.out.cell (i := 0) rfl
      have y1 := HR1.out.cell (i := 1) rfl
      have y2 := HR1.out.cell (i := 2) rfl
      have g0 := HR1.out.free 0
      have g1 := HR1.out.free 1
      have g2 := HR1.out.free 2
      have HRX := Lib.hid HR1.out
      go_wp2
      obtain ⟨w9, hw9⟩ : ∃ z, z = ((wr.setCell ⟨q1, 0, none⟩ (.slice b1 y.P.length d1)).setCell ⟨q1, 1, none⟩ (.slice a2 y.sems.length c2)).setCell ⟨q1, 2, none⟩ (.int .i64 y.now) := ⟨_, rfl⟩
      have R1 : Row w9 q1 41 (refC b1 d1 a2 c2 y) := by rw [hw9]; exact ((HRX.out.set 0 _).set 1 _).set 2 _
      have U9 : Upd [q1] wr w9 := by rw [hw9]; exact (((Upd.refl [q1] _).setCell (by simp) _).setCell (by simp) _).setCell (by simp) _
      rw [← hw9]
      have HU := Lib.hid U9
      have z0 := R1.cell (i := 0) rfl
      have z1 := R1.cell (i := 1) rfl
      have z2 := R1.cell (i := 2) rfl
      clear hw9 U9 R1 y0 y1 y2 g0 g1 g2 k0 k1 k2
      (try simp only [Exit.inBlock, Exit.then])
      refine bodyPost_ret (by rw [results_cell20 rfl]; go_simp; rfl) rfl ?_
      have hq0 := HQ0.out
      have hq1 := HQ1.out
      rw [← HN.out]
      refine ⟨b1, d1, rfl, HV.out.keep HU.out ⟨fun hp z hz hm => HO.out.1 hp z hz (by simp at hm; simp [hm]), fun hp z hz hm => HO.out.2 hp z hz (by simp at hm; simp [hm])⟩, ?_, ?_⟩
      · rw [← hq0]
        exact HB.out.trans (HU.out.below (by have := HB.out.size; omega) (fun z hz => by simp at hz; omega))
      · rw [← hq0]; exact HG1.out

    | succ i =>
      have HA := Lib.hid (c_rActive HV.out hyn)
      unfold refV at HA
      by_cases ha : actR y = 0
      · rw [ha] at HA
        go_wp2_with fail
        refine HA.out.mono ?_
        rintro e w2 ⟨rfl, b2⟩
        clear k0 k1 k2
        have r0 := HR0.out.keep (l := []) (.of_below b2) (by simp)
        have r1 := HR1.out.keep (l := []) (.of_below b2) (by simp)
        have HV := Lib.hid (HV.out.below b2)
        have HB : Hid (Below q0 w w2) := HB.out.trans (b2.mono (by have h1 := HB.out.size; have h2 := HQ0.out; omega))
        have HR0 := Lib.hid r0
        have HR1 := Lib.hid r1
        have k0 := r0.cell (i := 0) rfl
        have k1 := r0.cell (i := 1) rfl
        have k2 := r0.cell (i := 2) rfl
        clear r0 r1
        have hAT := c_rAt HV.out hyn (by have := HYN.out ha; omega) 2 (i + 1) (by omega) (by omega)
        unfold refV at hAT
        rw [show ((2 : Nat) : Int) = 2 from rfl, show ((i + 1 : Nat) : Int) = (i : Int) + 1 from by omega] at hAT
        have HAT := Lib.hid hAT
        clear hAT b2 HA
        have HLEN := Lib.hid (show (atL y 2 (i + 1)).length ≤ 100 from Nat.le_trans (atL_len _ _ _) hyn)
        have hnw := HYN.out ha
        have HMEM := Lib.hid (show ∀ p, p ∈ atL y 2 (i + 1) → ∃ k, k < y.P.length ∧ p = (k : Int) + 1 from fun p hp => by
          obtain ⟨k, hk, e, _⟩ := mem_atL.1 hp
          exact ⟨k, hk, e⟩)
        cases hq : atL y 2 (i + 1) with
        | nil =>
          rw [hq] at HAT
          have hunf : nextRF (i + 1) y = nextRF i y := by rw [nextRF, if_pos ha, hq]
          have HN : Hid (nextRF i y = nextR x) := by unfold Hid; rw [← HN.out, hunf]
          have HA0 := Lib.hid ha
          clear hq hunf HMEM ha
          go_wp2_with fail
          refine HAT.out.mono ?_
          rintro e w3 ⟨v, rfl, own, b3⟩
          obtain ⟨av, cv, rfl, -, -, -⟩ := owns_reads own
          clear k0 k1 k2
          have r0 := HR0.out.keep (l := []) (.of_below b3) (by simp)
          have r1 := HR1.out.keep (l := []) (.of_below b3) (by simp)
          have HV := Lib.hid (HV.out.below b3)
          have HB : Hid (Below q0 w w3) := HB.out.trans (b3.mono (by have h1 := HB.out.size; have h2 := HQ0.out; omega))
          have HR0 := Lib.hid r0
          have HR1 := Lib.hid r1
          have k0 := r0.cell (i := 0) rfl
          have k1 := r0.cell (i := 1) rfl
          have k2 := r0.cell (i := 2) rfl
          clear r0 r1

          clear own b3 HAT
          go_wp2
          go_roundw
          case rel => exact ⟨i, y, b1, d1, by omega, by go_num, HR0.out, HR1.out, HV.out, HO.out, HB.out, HN.out, hyn, hynow, HYS.out, HYN.out, HG1.out⟩
          case measure => simp [intOf]
        | cons p t =>
          rw [hq] at HAT HLEN
          obtain ⟨k, hk, rfl⟩ := HMEM.out p (by rw [hq]; simp)
          have hunf : nextRF (i + 1) y = putR y k 1 := by
            rw [nextRF, if_pos ha, hq]
            show putR y ((k : Int) + 1 - 1).toNat 1 = _
            rw [show ((k : Int) + 1 - 1).toNat = k from by omega]
          have hpos : actR (putR y k 1) ≠ 0 := act_pos (by rw [put_len]; exact hk) (by rw [gP_put_same hk])
          have HPOS := Lib.hid hpos
          have HN : Hid (nextRF i (putR y k 1) = nextR x) := by unfold Hid; rw [← HN.out, hunf]; exact next_stay hpos i
          clear hq hunf HMEM ha hpos
          go_wp2_with fail
          refine HAT.out.mono ?_
          rintro e w3 ⟨v, rfl, own, b3⟩
          obtain ⟨av, cv, rfl, hR3, hcv, hav⟩ := owns_reads own
          clear k0 k1 k2
          have r0 := HR0.out.keep (l := []) (.of_below b3) (by simp)
          have r1 := HR1.out.keep (l := []) (.of_below b3) (by simp)
          have HV := Lib.hid (HV.out.below b3)
          have HB : Hid (Below q0 w w3) := HB.out.trans (b3.mono (by have h1 := HB.out.size; have h2 := HQ0.out; omega))
          have HR0 := Lib.hid r0
          have HR1 := Lib.hid r1
          have k0 := r0.cell (i := 0) rfl
          have k1 := r0.cell (i := 1) rfl
          have k2 := r0.cell (i := 2) rfl
          clear r0 r1

          obtain ⟨lb, lo, rfl, hlb, hc3⟩ := hR3.at (by simp)
          have kl : w3.cell? ⟨lb, lo, none⟩ = some (.int .i64 ((k : Int) + 1)) := hc3 0 _ rfl
          have HLB := Lib.hid hlb
          have hsz3 : q1 < w3.heap.size := HR1.out.lt
          have htl : (((k : Int) + 1) :: t).length = t.length + 1 := rfl
          have hlt0 : (0 : Int) < (t.length : Int) + 1 := by omega
          have HTL := Lib.hid (show t.length ≤ 100 from by have := HLEN.out; simp at this; omega)
          clear own b3 HAT hR3 hav hc3
          go_wp2_with fail
          refine wp_region_U (fun z => z.cell? ⟨q0, 0, none⟩ = some (.slice b1 y.P.length d1) ∧ z.cell? ⟨q0, 1, none⟩ = some (.slice a2 y.sems.length c2) ∧ z.cell? ⟨q0, 2, none⟩ = some (.int .i64 y.now) ∧ z.cell? ⟨lb, lo, none⟩ = some (.int .i64 ((k : Int) + 1))) [0, 1, 2, 3, 4] (.load 0 (.load 1 (.load 2 (.load 3 (.sole 4 (.late 5 .fin)))))) (by kernel_rfl) (by kernel_rfl) (fun _ _ _ _ _ h => h) ?_
          have HS : w3.drew.cell? ⟨q0, 0, none⟩ = some (.slice b1 y.P.length d1) ∧ w3.drew.cell? ⟨q0, 1, none⟩ = some (.slice a2 y.sems.length c2) ∧ w3.drew.cell? ⟨q0, 2, none⟩ = some (.int .i64 y.now) ∧ w3.drew.cell? ⟨lb, lo, none⟩ = some (.int .i64 ((k : Int) + 1)) := ⟨k0, k1, k2, kl⟩
          clear k0 k1 k2 kl
          refine wpU_load (.agg #[.slice b1 y.P.length d1, .slice a2 y.sems.length c2, .int .i64 y.now]) HS rfl rfl (fun x hS => by obtain ⟨s0, s1, s2, s3⟩ := hS; go_simp) (fun K hK => ?_)
          refine hK _ ?_
          clear hK K
          (repeat (refine wpU_pure HS rfl (fun K hK => ?_); go_simp; (try go_bits); refine hK _ ?_; clear hK K))
          refine wpU_load (.int .i64 ((k : Int) + 1)) HS rfl rfl (fun x hS => by obtain ⟨s0, s1, s2, s3⟩ := hS; go_simp) (fun K hK => ?_)
          refine hK _ ?_
          clear hK K
          refine wpU_sole rfl ?_
          have hPT := c_rPut (w := w3.drew) (HV.out.below (bDrew (Below.refl _ _))) hyn (by omega) k 1 hk (by omega)
          unfold refV at hPT
          rw [show ((1 : Nat) : Int) = 1 from rfl] at hPT
          have HPT := Lib.hid hPT
          clear hPT
          go_wp2_with fail
          refine HPT.out.mono ?_
          rintro e w4 ⟨g, c4, rfl, hv4, b4, hg4⟩
          have b4' : Below w3.heap.size w3 w4 := bNext (bDrew (Below.refl _ w3)) b4
          have hg4' : w3.heap.size ≤ g := hg4
          have hS4 : w4.cell? ⟨q0, 0, none⟩ = some (.slice b1 y.P.length d1) ∧ w4.cell? ⟨q0, 1, none⟩ = some (.slice a2 y.sems.length c2) ∧ w4.cell? ⟨q0, 2, none⟩ = some (.int .i64 y.now) ∧ w4.cell? ⟨lb, lo, none⟩ = some (.int .i64 ((k : Int) + 1)) :=
            ⟨cellKeep b4 HS.1, cellKeep b4 HS.2.1, cellKeep b4 HS.2.2.1, cellKeep b4 HS.2.2.2⟩
          have HV4 := Lib.hid hv4
          have r0 := HR0.out.keep (l := []) (.of_below b4') (by simp)
          have r1 := HR1.out.keep (l := []) (.of_below b4') (by simp)
          have HB : Hid (Below q0 w w4) := HB.out.trans (b4'.mono (by have h1 := HB.out.size; have h2 := HQ0.out; omega))
          have HR0 := Lib.hid r0
          have HR1 := Lib.hid r1
          have HG := Lib.hid hg4'
          have HSZ3 := Lib.hid hsz3
          clear hv4 b4 b4' hg4 hg4' HS HPT
          unfold refV
          go_wp2
          refine ⟨hS4, ?_⟩
          obtain ⟨k0, k1, k2, -⟩ := hS4
          have f0 := r0.free 0
          have f1 := r0.free 1
          have f2 := r0.free 2
          clear r0 r1
          refine wpU_late rfl ?_
          go_wp2
          refine wpU_fin ?_
          obtain ⟨w5, hw5⟩ : ∃ z, z = ((w4.setCell ⟨q0, 0, none⟩ (.slice (some ⟨g, 0, none⟩) (putR y k 1).P.length c4)).setCell ⟨q0, 1, none⟩ (.slice a2 (putR y k 1).sems.length c2)).setCell ⟨q0, 2, none⟩ (.int .i64 (putR y k 1).now) := ⟨_, rfl⟩
          have R5 : Row w5 q0 41 (refC (some ⟨g, 0, none⟩) c4 a2 c2 (putR y k 1)) := by rw [hw5]; exact ((HR0.out.set 0 _).set 1 _).set 2 _
          have U5 : Upd [q0] w4 w5 := by rw [hw5]; exact (((Upd.refl [q0] _).setCell (by simp) _).setCell (by simp) _).setCell (by simp) _
          rw [← hw5]
          have HQ01 := Lib.hid (show q0 ≠ q1 by have := HQ0.out; have := HQ1.out; omega)
          have OFF : Off (some ⟨g, 0, none⟩) a2 (putR y k 1) [q0, q1] := ⟨fun _ z hz hm => by
            cases hz
            have h1 := HG.out
            have h2 := HSZ3.out
            have h3 := HQ0.out
            have h4 := HQ1.out
            simp at hm
            omega, fun hp z hz hm => HO.out.2 hp z hz hm⟩
          have HO5 := Lib.hid OFF
          have HV5 := Lib.hid (HV4.out.keep U5 ⟨fun hp z hz hm => OFF.1 hp z hz (by simp at hm; simp [hm]), fun hp z hz hm => OFF.2 hp z hz (by simp at hm; simp [hm])⟩)
          have HR5 := Lib.hid R5
          have HR15 := Lib.hid (HR1.out.keep U5 (by simp; exact fun e => HQ01.out e.symm))
          have HB5 := Lib.hid (HB.out.trans (U5.below (by rw [HQ0.out]; exact HB.out.size) (fun z hz => by simp at hz; omega)))
          clear hw5 R5 U5 OFF k0 k1 k2 f0 f1 f2
          go_wp2
          go_roundw
          case rel => exact ⟨i, putR y k 1, some ⟨g, 0, none⟩, c4, by omega, by go_num, HR5.out, HR15.out, HV5.out, HO5.out, HB5.out, HN.out, by rw [put_len]; exact hyn, by show y.now + 1 ≤ 999001; omega, HYS.out, fun h0 => absurd h0 HPOS.out, .inr ⟨g, rfl, by have h1 := HG.out; have h2 := HB.out.size; have h3 := HSZ3.out; have h4 := HQ0.out; have h5 := HQ1.out; omega⟩⟩
          case measure => simp [intOf]

      · have HN : Hid (y = nextR x) := by unfold Hid; rw [← HN.out]; exact (next_stay ha _).symm
        have hab : ((actR y : Nat) : Int) ≠ 0 := by omega
        have habF : (((actR y : Nat) : Int) = 0) = False := eq_false hab
        have hab2 : (((actR y : Nat) : Int) == 0) = false := by simp; omega
        generalize ((actR y : Nat) : Int) = A at *
        go_wp2_with fail
        refine HA.out.mono ?_
        rintro e w2 ⟨rfl, b2⟩
        clear k0 k1 k2
        have r0 := HR0.out.keep (l := []) (.of_below b2) (by simp)
        have r1 := HR1.out.keep (l := []) (.of_below b2) (by simp)
        have HV := Lib.hid (HV.out.below b2)
        have HB : Hid (Below q0 w w2) := HB.out.trans (b2.mono (by have h1 := HB.out.size; have h2 := HQ0.out; omega))
        have HR0 := Lib.hid r0
        have HR1 := Lib.hid r1
        have k0 := r0.cell (i := 0) rfl
        have k1 := r0.cell (i := 1) rfl
        have k2 := r0.cell (i := 2) rfl
        clear r0 r1
        have y0 := HR1.out.cell (i := 0) rfl
        have y1 := HR1.out.cell (i := 1) rfl
        have y2 := HR1.out.cell (i := 2) rfl
        have g0 := HR1.out.free 0
        have g1 := HR1.out.free 1
        have g2 := HR1.out.free 2
        have HRX := Lib.hid HR1.out
        go_wp2
        obtain ⟨w9, hw9⟩ : ∃ z, z = ((w2.setCell ⟨q1, 0, none⟩ (.slice b1 y.P.length d1)).setCell ⟨q1, 1, none⟩ (.slice a2 y.sems.length c2)).setCell ⟨q1, 2, none⟩ (.int .i64 y.now) := ⟨_, rfl⟩
        have R1 : Row w9 q1 41 (refC b1 d1 a2 c2 y) := by rw [hw9]; exact ((HRX.out.set 0 _).set 1 _).set 2 _
        have U9 : Upd [q1] w2 w9 := by rw [hw9]; exact (((Upd.refl [q1] _).setCell (by simp) _).setCell (by simp) _).setCell (by simp) _
        rw [← hw9]
        have HU := Lib.hid U9
        have z0 := R1.cell (i := 0) rfl
        have z1 := R1.cell (i := 1) rfl
        have z2 := R1.cell (i := 2) rfl
        clear hw9 U9 R1 y0 y1 y2 g0 g1 g2 k0 k1 k2
        (try simp only [Exit.inBlock, Exit.then])
        refine bodyPost_ret (by rw [results_cell20 rfl]; go_simp; rfl) rfl ?_
        have hq0 := HQ0.out
        have hq1 := HQ1.out
        rw [← HN.out]
        refine ⟨b1, d1, rfl, HV.out.keep HU.out ⟨fun hp z hz hm => HO.out.1 hp z hz (by simp at hm; simp [hm]), fun hp z hz hm => HO.out.2 hp z hz (by simp at hm; simp [hm])⟩, ?_, ?_⟩
        · rw [← hq0]
          exact HB.out.trans (HU.out.below (by have := HB.out.size; omega) (fun z hz => by simp at hz; omega))
        · rw [← hq0]; exact HG1.out


end Go.Proofs.Ytbkaafbkmcgfjaa
