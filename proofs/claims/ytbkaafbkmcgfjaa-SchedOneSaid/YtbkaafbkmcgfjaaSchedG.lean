/-
  Contracts of package sched: Waiting, Suspend, Signal, Wait.
-/
import Derived.Test.YtbkaafbkmcgfjaaSchedF
namespace Go.Proofs.Ytbkaafbkmcgfjaa
open Go.RowKit
set_option linter.unusedVariables false
set_option maxHeartbeats 2000000

theorem SAt.drew {w : World} {m : Nat} {L : Lay} {s : SS} (h : SAt w m L s) : SAt w.drew m L s := h.keep (l := []) ((Upd.refl _ _).drew) (by simp)
theorem Mov.drew {A B : List Nat} {u v : World} (h : Mov A u B v) : Mov A u B v.drew := h.trans ⟨(Upd.refl _ _).drew, fun k hk => .inl hk⟩
theorem Mov.below2 {A B : List Nat} {u v w : World} (h : Mov A u B v) (hb : Below v.heap.size v w) : Mov A u B w := h.trans ⟨(Upd.of_below hb : Upd B v w), fun k hk => .inl hk⟩

def WaitsPost (l : List Int) (n : Int) (w : World) (e : Ending) (w' : World) : Prop :=
  ∃ v, e = .returned (.tuple #[v, .int .i64 n]) ∧ w'.ownsRow w.heap.size 3 1 v l.length (l.map (Value.int .i64)) ∧ Below w.heap.size w w'

theorem c_Waiting {w : World} {m : Nat} {L : Lay} {s : SS} (h : SAt w m L s) (hn : s.ns ≤ 100) (hw : ∀ i, (s.sq i).length ≤ 1000) (j : Nat) (hj : j < s.ns) :
    Calls Try.prog 24 #[.pointer (some ⟨m, 0, none⟩), .int .i64 ((j : Int) + 1)] w (WaitsPost (s.sq j) (s.sig j) w) := by
  have HA := Lib.hid (c_at h hn j hj)
  have HQ := Lib.hid (h.drew.qsem hj (hw j))
  have kc : w.cell? ⟨L.pk j, 1, none⟩ = some (.int .i64 (s.sig j)) := (h.sm j hj).cell rfl
  clear h
  generalize L.pk j = x at *
  generalize s.sig j = y at *
  go_enter Try.func24, Try.ntmps24
  go_wp2_with fail
  refine HA.out.mono ?_
  rintro e w' ⟨rfl, rfl⟩
  go_wp2_with fail
  refine wp_region_planH (fun z => z.cell? ⟨x, 1, none⟩ = some (.int .i64 y)) [(0, true), (1, true), (2, true), (4, true), (5, true), (6, true), (7, true), (3, false), (8, true), (9, true)] (by kernel_rfl) (by kernel_rfl) (fun _ _ _ _ _ h => h) kc ?_
  (repeat (refine wpPlanH_free rfl (fun K hK => ?_); go_simp; (try go_bits); refine hK _ ?_; clear hK K))
  refine wpPlanH_load (.int .i64 y) rfl rfl (fun x hS => by go_simp) (fun K hK => ?_)
  refine hK _ ?_
  clear hK K
  (repeat (refine wpPlanH_free rfl (fun K hK => ?_); go_simp; (try go_bits); refine hK _ ?_; clear hK K))
  refine wpPlanH_sole rfl ?_
  go_wp2_with fail
  refine (c_qlist HQ.out).mono ?_
  rintro e w2 ⟨v, rfl, own, bel⟩
  have kc2 : w2.cell? ⟨x, 1, none⟩ = some (.int .i64 y) := (bel.cell (World.block_lt_of_cell? w.drew _ kc)).trans kc
  have HO := Lib.hid own
  have HB : Hid (Below w.heap.size w w2) := bNext (bDrew (Below.refl _ w)) bel
  clear own bel
  go_wp2
  refine ⟨kc2, ?_⟩
  (repeat (refine wpPlanH_free rfl (fun K hK => ?_); go_simp; (try go_bits); refine hK _ ?_; clear hK K))
  refine wpPlanH_nil ?_
  go_wp2
  go_ret2
  exact ⟨_, rfl, HO.out, HB.out⟩

def dropTo (f : Nat → List Int) (p : Int) (j : Nat) : Nat → List Int := fun i => if i < j then dropL (f i) p else f i
theorem dropTo_zero (f : Nat → List Int) (p : Int) : dropTo f p 0 = f := by funext i; simp [dropTo]
theorem dropTo_succ (f : Nat → List Int) (p : Int) (j : Nat) : upd (dropTo f p j) j (dropL (dropTo f p j j) p) = dropTo f p (j + 1) := by
  funext i
  unfold upd dropTo
  by_cases h : i = j
  · subst h; simp
  · rw [if_neg h]
    by_cases h2 : i < j
    · rw [if_pos h2, if_pos (by omega)]
    · rw [if_neg h2, if_neg (by omega)]
theorem dropL_len (l : List Int) (p : Int) : (dropL l p).length ≤ l.length := List.length_erase_le
theorem dropTo_len {f : Nat → List Int} {B : Nat} (h : ∀ i, (f i).length ≤ B) (p : Int) (j i : Nat) : (dropTo f p j i).length ≤ B := by
  unfold dropTo
  split
  · exact Nat.le_trans (dropL_len _ _) (h i)
  · exact h i

def suspS (s : SS) (k : Nat) : SS :=
  if s.act = (k : Int) + 1 then nextS { s with idle := s.idle.set k true }
  else { s with idle := s.idle.set k true, ready := upd s.ready (prN s k) (dropL (s.ready (prN s k)) ((k : Int) + 1)), sq := dropTo s.sq ((k : Int) + 1) s.ns }

theorem c_Suspend4 {w : World} {m : Nat} {L : Lay} {s : SS} (h : SAt w m L s) (hw : WF s) (p : Int) (hp : ¬ (1 ≤ p ∧ p ≤ s.prior.length)) :
    Calls Try.prog 15 #[.pointer (some ⟨m, 0, none⟩), .int .i64 p] w fun e w' => e = .returned (.int .i64 4) ∧ w = w' := by
  have HH := Lib.hid (c_has h hw.n p)
  rw [decide_eq_false hp] at HH
  clear h hw hp
  go_enter Try.func15, Try.ntmps15
  go_wp2_with (go_at_call 26; refine HH.out.mono ?_; rintro e w' ⟨rfl, rfl⟩)
  go_ret
  exact ⟨rfl, rfl⟩

theorem c_Suspend2 {w : World} {m : Nat} {L : Lay} {s : SS} (h : SAt w m L s) (hw : WF s) (k : Nat) (hk : k < s.prior.length) (hi : s.idle.getD k false = true) :
    Calls Try.prog 15 #[.pointer (some ⟨m, 0, none⟩), .int .i64 ((k : Int) + 1)] w fun e w' => e = .returned (.int .i64 2) ∧ w = w' := by
  have HH := Lib.hid (c_has h hw.n ((k : Int) + 1))
  rw [decide_eq_true (by omega)] at HH
  have hki : k < s.idle.length := by rw [hw.li]; exact hk
  obtain ⟨g, c, hvi, k1, kcA, kfA⟩ := h.ci (by omega)
  have kc := kcA k hki
  rw [hi] at kc
  rw [hw.li] at k1
  have hkk : (k : Int) + 1 - 1 = (k : Int) := by omega
  have hn := hw.n
  clear h hw hi hvi kcA kfA hki
  go_enter Try.func15, Try.ntmps15
  go_wp2_with (go_at_call 26; refine HH.out.mono ?_; rintro e w' ⟨rfl, rfl⟩)
  go_ret
  exact ⟨rfl, rfl⟩

theorem c_Suspend {w : World} {m : Nat} {L : Lay} {s : SS} (h : SAt w m L s) (hw : WF s) (k : Nat) (hk : k < s.prior.length) (hi : s.idle.getD k false = false) :
    Calls Try.prog 15 #[.pointer (some ⟨m, 0, none⟩), .int .i64 ((k : Int) + 1)] w (SPost m L (.int .i64 0) (suspS s k) w) := by
  have HH := Lib.hid (c_has h hw.n ((k : Int) + 1))
  rw [decide_eq_true (by omega)] at HH
  have hki : k < s.idle.length := by rw [hw.li]; exact hk
  obtain ⟨g, c, hvi, k1, kcA, kfA⟩ := h.ci (by omega)
  have kc := kcA k hki
  have kf := kfA k
  rw [hi] at kc
  rw [hw.li] at k1
  have hkk : (k : Int) + 1 - 1 = (k : Int) := by omega
  have hn := hw.n
  have HI := Lib.hid (h.idle_step hvi hki true)
  obtain ⟨h1, m1⟩ := HI.out
  have k12 := h1.ca
  obtain ⟨hpq, hq1, hq8⟩ := hw.pri hk
  obtain ⟨q, hq⟩ : ∃ q, q = prN s k := ⟨_, rfl⟩
  rw [← hq] at hq1 hq8
  have HQD := Lib.hid hq
  have HPQ := Lib.hid hpq
  have HW := Lib.hid hw
  change World.cell? _ _ = some (.int .i64 s.act) at k12
  clear h hw hi hvi kcA kfA hki h1 m1 hq hpq
  by_cases ha : s.act = (k : Int) + 1
  · have HS : Hid (suspS s k = nextS { s with idle := s.idle.set k true }) := if_pos ha
    rw [ha] at k12
    clear ha
    go_enter Try.func15, Try.ntmps15
    go_wp2_with fail
    refine HH.out.mono ?_
    rintro e w' ⟨rfl, rfl⟩
    go_wp2_with fail
    refine (c_next HI.out.1 ⟨fun i => Nat.le_trans (HW.out.rl i) (by omega), fun i p hp => (HW.out.rm i p hp).1⟩).mono ?_
    rintro e w3 ⟨L3, rfl, hs3, m3⟩
    have H3 := Lib.hid hs3
    have M3 := Lib.hid (HI.out.2.trans m3)
    clear hs3 m3 k12
    go_wp2
    go_ret
    rw [HS.out]
    exact ⟨L3, rfl, H3.out, M3.out⟩
  · have HS : Hid (suspS s k = { s with idle := s.idle.set k true, ready := upd s.ready q (dropL (s.ready q) ((k : Int) + 1)), sq := dropTo s.sq ((k : Int) + 1) s.ns }) := by unfold Hid; rw [HQD.out]; exact if_neg ha
    have ha1 : (s.act = (k : Int) + 1) = False := eq_false ha
    have ha2 : (s.act == (k : Int) + 1) = false := by simp [ha]
    have ha3 : ¬ s.act = (k : Int) + 1 := ha
    generalize hact : s.act = A at k12 ha1 ha2 ha3
    have HACT := Lib.hid hact
    clear ha hact
    go_enter Try.func15, Try.ntmps15
    go_wp2_with fail
    refine HH.out.mono ?_
    rintro e w' ⟨rfl, rfl⟩
    go_wp2_with fail
    obtain ⟨w1, hw1⟩ : ∃ x, x = w.setCell ⟨g, k, none⟩ (.bool true) := ⟨_, rfl⟩
    have h1 := HI.out
    rw [← hw1] at h1 k12 ⊢
    obtain ⟨h1, m1⟩ := h1
    have HD : Hid (SAt w1.drew m L _) := h1.drew
    have M1 := Lib.hid m1.drew
    obtain ⟨b, o, c0, hvp, k0A, kpA⟩ := cprior h1 (by show 0 < s.prior.length; omega)
    have k0 : w1.cell? ⟨m, 0, none⟩ = some (.slice (some ⟨b, o, none⟩) s.prior.length c0) := k0A
    have kp : w1.cell? ⟨b, o + k, none⟩ = some (.int .i64 (prI s k)) := kpA k hk
    rw [HPQ.out, ← HQD.out] at kp
    have HVP := Lib.hid hvp
    have hqi : (q : Int) < 9 := by omega
    have HQ := Lib.hid (HD.out.qr (i := q) (off := 2 + q) (by omega) rfl rfl (Nat.le_trans (HW.out.rl q) (by omega)))
    clear hw1 HI h1 m1 k0A kpA hvp kc kf k1 HH
    refine wp_region_planH (fun x => x.cell? ⟨m, 0, none⟩ = some (.slice (some ⟨b, o, none⟩) s.prior.length c0) ∧ x.cell? ⟨b, o + k, none⟩ = some (.int .i64 (q : Int))) [(0, true), (1, true), (2, true), (3, true), (4, true), (5, true), (6, true), (7, true), (8, true), (9, true), (10, true), (11, true), (12, true), (13, false)] (by kernel_rfl) (by kernel_rfl) (fun _ _ _ _ _ h => h) ⟨k0, kp⟩ ?_
    (repeat (refine wpPlanH_free rfl (fun K hK => ?_); go_simp; (try go_bits); refine hK _ ?_; clear hK K))
    refine wpPlanH_load (.slice (some ⟨b, o, none⟩) s.prior.length c0) rfl rfl (fun x hS => by obtain ⟨s0, s1⟩ := hS; go_simp) (fun K hK => ?_)
    refine hK _ ?_
    clear hK K
    (repeat (refine wpPlanH_free rfl (fun K hK => ?_); go_simp; (try go_bits); refine hK _ ?_; clear hK K))
    refine wpPlanH_load (.int .i64 (q : Int)) rfl rfl (fun x hS => by obtain ⟨s0, s1⟩ := hS; go_simp) (fun K hK => ?_)
    refine hK _ ?_
    clear hK K
    (repeat (refine wpPlanH_free rfl (fun K hK => ?_); go_simp; (try go_bits); refine hK _ ?_; clear hK K))
    refine wpPlanH_sole rfl ?_
    go_wp2_with fail
    refine (c_qdropA HQ.out _).mono ?_
    rintro e w2 hq
    obtain ⟨L2, rfl, hs2, m2, e1, e2, e3, e4⟩ := HD.out.rstep (i := q) (by omega) rfl hq
    have M2 := Lib.hid (M1.out.trans m2)
    obtain ⟨k0', kpA⟩ := cprior2 hs2 (e1.trans HVP.out)
    have k0' : w2.cell? ⟨m, 0, none⟩ = some (.slice (some ⟨b, o, none⟩) s.prior.length c0) := k0'
    have kp' : w2.cell? ⟨b, o + k, none⟩ = some (.int .i64 (prI s k)) := kpA k hk
    rw [HPQ.out, ← HQD.out] at kp'
    have H2 := Lib.hid hs2
    obtain ⟨a3, c3, k11, -⟩ := hs2.cs
    have hvs3 : L2.vs = .slice a3 s.ns c3 := by
      have := hs2.row.cell (i := 11) rfl
      rw [k11] at this
      exact (Option.some.inj this).symm
    have HV3 := Lib.hid hvs3
    have k11 : w2.cell? ⟨m, 11, none⟩ = some (.slice a3 s.ns c3) := k11
    have hns := HW.out.ns
    clear hq hs2 m2 e1 e2 e3 e4 kpA HQ k0 kp k12 hvs3 HD M1 HVP
    go_wp2
    refine ⟨⟨k0', kp'⟩, wpPlanH_nil ?_⟩
    clear k0' kp'
    go_wp2
    obtain ⟨R, hR⟩ : ∃ R, R = upd s.ready q (dropL (s.ready q) ((k : Int) + 1)) := ⟨_, rfl⟩
    rw [← hR] at HS
    rw [← hR] at H2
    clear HQD HPQ hR
    go_loopw [58] (fun i wr => ∃ (j : Nat) (K : Lay), j ≤ s.ns ∧ i = .int .i64 j ∧ Hid (SAt wr m K { s with idle := s.idle.set k true, ready := R, sq := dropTo s.sq ((k : Int) + 1) j }) ∧ Hid (Mov L.B w K.B wr) ∧ Hid (K.vs = .slice a3 s.ns c3)) (fun i _ => s.ns - (intOf i).toNat)
    case atStart => exact ⟨0, L2, Nat.zero_le _, rfl, by rw [dropTo_zero]; exact H2.out, M2.out, HV3.out⟩
    case round =>
      obtain ⟨j, K, hj, rfl, HSJ, HMJ, HVJ⟩ := hrel
      by_cases hlt : j < s.ns
      · obtain ⟨a4, c4, hv4, hR4, -⟩ := owns_reads HSJ.out.os
        have hv5 := hv4.symm.trans HVJ.out
        cases hv5
        obtain ⟨b5, o5, rfl, _, hc5⟩ := hR4.at (by simp [ptrs]; omega)
        have kc := hc5 j _ (ptrs_get (show j < s.ns from hlt))
        have HQ := Lib.hid (HSJ.out.qsem (j := j) hlt (Nat.le_trans (dropTo_len HW.out.wl _ _ _) (by omega)))
        clear hv4 hR4 hc5
        obtain ⟨x, hx⟩ : ∃ x, x = K.pk j := ⟨_, rfl⟩
        rw [← hx] at kc HQ
        have HX := Lib.hid hx
        clear hx
        go_wp2_with fail
        refine (c_qdropA HQ.out _).mono ?_
        rintro e w4 hq
        rw [HX.out] at hq
        obtain ⟨K4, rfl, hs4, m4, e1, e2, e3, e4⟩ := HSJ.out.sem_step (j := j) hlt hq
        have H4 : Hid (SAt w4 m K4 { s with idle := s.idle.set k true, ready := R, sq := dropTo s.sq ((k : Int) + 1) (j + 1) }) := by
          rw [← dropTo_succ]; exact hs4
        have M4 := Lib.hid (HMJ.out.trans m4)
        have HV4 := Lib.hid (e3.trans HVJ.out)
        clear hq hs4 m4 e1 e2 e3 e4 HSJ HMJ HVJ HQ HX
        go_wp2
        go_roundw
        case rel => exact ⟨j + 1, K4, by omega, by go_num, H4.out, M4.out, HV4.out⟩
        case measure => simp [intOf]; omega
      · obtain rfl : j = s.ns := by omega
        go_wp2
        go_ret
        rw [HS.out]
        exact ⟨K, rfl, HSJ.out, HMJ.out⟩

end Go.Proofs.Ytbkaafbkmcgfjaa
