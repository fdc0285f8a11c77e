/-
  Contracts of package sched: make.
-/
import Derived.Test.YtbkaafbkmcgfjaaSchedD
namespace Go.Proofs.Ytbkaafbkmcgfjaa
open Go.RowKit
set_option linter.unusedVariables false
set_option maxHeartbeats 1000000

/-- A process' priority (the first one's number is 0 here). -/
def prI (s : SS) (k : Nat) : Int := s.prior.getD k 0
def prN (s : SS) (k : Nat) : Nat := (prI s k).toNat
theorem WF.pri {s : SS} (h : WF s) {k : Nat} (hk : k < s.prior.length) : prI s k = (prN s k : Int) ∧ 1 ≤ prN s k ∧ prN s k ≤ 8 := by
  have := h.pr _ (getD_mem hk)
  unfold prN
  change 1 ≤ prI s k ∧ prI s k ≤ 8 at this
  omega

/-- One is ready (and idle no more). -/
def make1 (s : SS) (k : Nat) : SS := { s with idle := s.idle.set k false, ready := upd s.ready (prN s k) (s.ready (prN s k) ++ [(k : Int) + 1]) }
/-- A ready one is active. -/
def make2 (s : SS) (q : Nat) (p : Int) : SS := { s with ready := upd s.ready q (dropL (s.ready q) p), act := p }
def addS (s : SS) (q : Nat) (p : Int) : SS := { s with ready := upd s.ready q (s.ready q ++ [p]) }
def makeS (s : SS) (k : Nat) : SS :=
  if s.act = 0 then make2 (make1 s k) (prN s k) ((k : Int) + 1)
  else if prI s k > prI s (s.act - 1).toNat then make2 (addS (make1 s k) (prN s (s.act - 1).toNat) s.act) (prN s k) ((k : Int) + 1)
  else make1 s k

theorem upd_len {f : Nat → List Int} {i : Nat} {l : List Int} {B : Nat} (hf : ∀ j, (f j).length ≤ B) (hl : l.length ≤ B) (j : Nat) : (upd f i l j).length ≤ B := by
  unfold upd
  split
  · exact hl
  · exact hf j
theorem WF.make1_len {s : SS} (h : WF s) (k j : Nat) : ((make1 s k).ready j).length ≤ 501 :=
  upd_len (fun j => Nat.le_trans (h.rl j) (by omega)) (by have := h.rl (prN s k); simp; omega) j
theorem add_len {s : SS} {B : Nat} (h : ∀ j, (s.ready j).length ≤ B) (q : Nat) (p : Int) (j : Nat) : ((addS s q p).ready j).length ≤ B + 1 :=
  upd_len (fun j => Nat.le_trans (h j) (by omega)) (by have := h q; simp; omega) j

theorem cprior {w : World} {m : Nat} {L : Lay} {s : SS} (h : SAt w m L s) (hn : 0 < s.prior.length) : ∃ b o c, L.vp = .slice (some ⟨b, o, none⟩) s.prior.length c ∧ w.cell? ⟨m, 0, none⟩ = some (.slice (some ⟨b, o, none⟩) s.prior.length c) ∧
    ∀ k, k < s.prior.length → w.cell? ⟨b, o + k, none⟩ = some (.int .i64 (prI s k)) := by
  obtain ⟨a, c, hv, hR, -⟩ := owns_reads h.op
  obtain ⟨b, o, rfl, _, hc⟩ := hR.at (by simpa using hn)
  exact ⟨b, o, c, hv, by rw [← hv]; exact h.row.cell (i := 0) rfl, fun k hk => hc k _ (getD_map8 hk)⟩
theorem cprior2 {w : World} {m : Nat} {L : Lay} {s : SS} (h : SAt w m L s) {b o c : Nat} (hv : L.vp = .slice (some ⟨b, o, none⟩) s.prior.length c) : w.cell? ⟨m, 0, none⟩ = some (.slice (some ⟨b, o, none⟩) s.prior.length c) ∧
    ∀ k, k < s.prior.length → w.cell? ⟨b, o + k, none⟩ = some (.int .i64 (prI s k)) := by
  obtain ⟨a, c', hv2, hR, -⟩ := owns_reads h.op
  rw [hv] at hv2
  cases hv2
  refine ⟨by rw [← hv]; exact h.row.cell (i := 0) rfl, fun k hk => ?_⟩
  obtain ⟨b, o, he, _, hc⟩ := hR.at (by simp; omega)
  cases he
  exact hc k _ (getD_map8 hk)

theorem c_make {w : World} {m : Nat} {L : Lay} {s : SS} (h : SAt w m L s) (hw : WF s) (k : Nat) (hk : k < s.prior.length) :
    Calls Try.prog 28 #[.pointer (some ⟨m, 0, none⟩), .int .i64 ((k : Int) + 1)] w (SPost m L (.tuple #[]) (makeS s k) w) := by
  have HW := Lib.hid hw
  have hki : k < s.idle.length := by rw [hw.li]; exact hk
  obtain ⟨g, c, hvi, k1, kcA, kfA⟩ := h.ci (by omega)
  have kc := kcA k hki
  have kf := kfA k
  have hkk : (k : Int) + 1 - 1 = (k : Int) := by omega
  have hn := hw.n
  have HS := Lib.hid h
  have HI := Lib.hid (h.idle_step hvi hki false)
  have hil := hw.li
  rw [hil] at k1
  obtain ⟨h1, m1⟩ := HI.out
  obtain ⟨b, o, c0, hvp, k0, kpA⟩ := cprior h1 (by show 0 < s.prior.length; omega)
  have kp := kpA k hk
  obtain ⟨hpq, hq1, hq8⟩ := HW.out.pri hk
  change World.cell? _ _ = some (.slice _ s.prior.length c0) at k0
  change L.vp = (.slice _ s.prior.length c0) at hvp
  have HVP := Lib.hid hvp
  change World.cell? _ _ = some (.int .i64 (prI s k)) at kp
  obtain ⟨q, hq⟩ : ∃ q, q = prN s k := ⟨_, rfl⟩
  rw [hpq, ← hq] at kp
  rw [← hq] at hq1 hq8
  have HQD := Lib.hid hq
  have HPQ := Lib.hid hpq
  clear h hw hvi hki hil hvp hq hpq h1 m1 kcA kfA kpA
  go_enter Try.func28, Try.ntmps28
  go_wp2_with fail
  obtain ⟨w1, hw1⟩ : ∃ x, x = w.setCell ⟨g, k, none⟩ (.bool false) := ⟨_, rfl⟩
  have h1 := HI.out
  rw [← hw1] at h1 ⊢
  obtain ⟨h1, m1⟩ := h1
  have HQ := Lib.hid (h1.qr (i := q) (off := 2 + q) (by omega) rfl rfl (Nat.le_trans (HW.out.rl q) (by omega)))
  have M1 := Lib.hid m1
  have H1 := Lib.hid h1
  clear k0 kp k1 kc kf hw1 HI h1 m1
  refine (c_qadd HQ.out _).mono ?_
  rintro e w2 hq
  obtain ⟨L2, rfl, hs2, m2, e1, e2, e3, e4⟩ := H1.out.rstep (i := q) (by omega) rfl hq
  have H2 : Hid (SAt w2 m L2 (make1 s k)) := by unfold make1; rw [← HQD.out]; exact hs2
  have M2 := Lib.hid (M1.out.trans m2)
  have HV2 := Lib.hid (e1.trans HVP.out)
  clear hq hs2 m2 e1 e2 e3 e4 H1 M1 HQ HVP
  have k12 : w2.cell? ⟨m, 12, none⟩ = some (.int .i64 s.act) := H2.out.ca
  by_cases ha : s.act = 0
  · have HR := Lib.hid (show makeS s k = make2 (make1 s k) q ((k : Int) + 1) from by rw [HQD.out]; unfold makeS; rw [if_pos ha])
    rw [ha] at k12
    have HQ := Lib.hid (H2.out.qr (i := q) (off := 2 + q) (by omega) rfl rfl (Nat.le_trans (HW.out.make1_len k q) (by omega)))
    have hin : ((k : Int) + 1) ∈ (make1 s k).ready q := by unfold make1; rw [HQD.out]; simp only [upd_same]; simp
    have HIN := Lib.hid hin
    clear hin ha
    go_wp2_with fail
    refine (c_qdrop HQ.out _ HIN.out).mono ?_
    rintro e w3 hq
    obtain ⟨L3, rfl, hs3, m3, -⟩ := H2.out.rstep (i := q) (by omega) rfl hq
    have kc := hs3.ca
    have kf := hs3.row.free 12
    obtain ⟨h4, m4⟩ := hs3.act_step ((k : Int) + 1)
    have H4 := Lib.hid h4
    have M4 := Lib.hid ((M2.out.trans m3).trans m4)
    clear k12 hq hs3 m3 h4 m4 HQ HIN
    go_wp2
    go_end0
    rw [HR.out]
    exact ⟨L3, rfl, H4.out, M4.out⟩
  · obtain ⟨a, haa⟩ : ∃ a : Nat, s.act = (a : Int) + 1 := ⟨(s.act - 1).toNat, by have := HW.out.a0; omega⟩
    have han : a < s.prior.length := by have := HW.out.a1; omega
    obtain ⟨hpa, ha1, ha8⟩ := HW.out.pri han
    obtain ⟨b, o, c0, hv2, k0A, kpA⟩ := cprior H2.out (by show 0 < s.prior.length; omega)
    have k0 : w2.cell? ⟨m, 0, none⟩ = some (.slice (some ⟨b, o, none⟩) s.prior.length c0) := k0A
    have kp : w2.cell? ⟨b, o + a, none⟩ = some (.int .i64 (prI s a)) := kpA a han
    have HV3 := Lib.hid hv2
    obtain ⟨qa, hqa⟩ : ∃ x, x = prN s a := ⟨_, rfl⟩
    rw [hpa, ← hqa] at kp
    rw [← hqa] at ha1 ha8
    have HQA := Lib.hid hqa
    have hact : (s.act - 1).toNat = a := by omega
    have hkk2 : (a : Int) + 1 - 1 = (a : Int) := by omega
    have hne : ((a : Int) + 1 = 0) = False := eq_false (by omega)
    have hneb : (((a : Int) + 1) == 0) = false := by simp; omega
    have HMK : Hid (makeS s k = if q > qa then make2 (addS (make1 s k) qa ((a : Int) + 1)) q ((k : Int) + 1) else make1 s k) := by
      unfold Hid makeS
      rw [if_neg ha, hact, HPQ.out, hpa, ← HQD.out, ← hqa, haa]
      by_cases hc : q > qa
      · rw [if_pos hc, if_pos (by omega)]
      · rw [if_neg hc, if_neg (by omega)]
    rw [haa] at k12
    have HAA := Lib.hid haa
    clear k0A kpA hv2 hpa hqa haa hact ha HV2
    by_cases hc : q > qa
    · have HMK : Hid (makeS s k = make2 (addS (make1 s k) qa ((a : Int) + 1)) q ((k : Int) + 1)) := by unfold Hid; rw [HMK.out, if_pos hc]
      have hqi : (qa : Int) < 9 := by omega
      go_wp2_with fail
      refine wp_region_planH (fun x => x.cell? ⟨m, 0, none⟩ = some (.slice (some ⟨b, o, none⟩) s.prior.length c0) ∧ x.cell? ⟨b, o + a, none⟩ = some (.int .i64 (qa : Int))) [(0, true), (1, true), (2, true), (3, true), (4, true), (5, true), (6, true), (7, true), (8, true), (9, true), (10, true), (11, true), (12, true), (13, false)] (by kernel_rfl) (by kernel_rfl) (fun _ _ _ _ _ h => h) ⟨k0, kp⟩ ?_
      (repeat (refine wpPlanH_free rfl (fun K hK => ?_); go_simp; (try go_bits); refine hK _ ?_; clear hK K))
      refine wpPlanH_load (.slice (some ⟨b, o, none⟩) s.prior.length c0) rfl rfl (fun x hS => by obtain ⟨s0, s1⟩ := hS; go_simp) (fun K hK => ?_)
      refine hK _ ?_
      clear hK K
      (repeat (refine wpPlanH_free rfl (fun K hK => ?_); go_simp; (try go_bits); refine hK _ ?_; clear hK K))
      refine wpPlanH_load (.int .i64 (qa : Int)) rfl rfl (fun x hS => by obtain ⟨s0, s1⟩ := hS; go_simp) (fun K hK => ?_)
      refine hK _ ?_
      clear hK K
      (repeat (refine wpPlanH_free rfl (fun K hK => ?_); go_simp; (try go_bits); refine hK _ ?_; clear hK K))
      refine wpPlanH_sole rfl ?_
      have HD2 : Hid (SAt w2.drew m L2 (make1 s k)) := H2.out.keep (l := []) ((Upd.refl _ _).drew) (by simp)
      have M2 : Hid (Mov L.B w L2.B w2.drew) := M2.out.trans ⟨(Upd.refl _ _).drew, fun k hk => .inl hk⟩
      have HQ := Lib.hid (HD2.out.qr (i := qa) (off := 2 + qa) (by omega) rfl rfl (Nat.le_trans (HW.out.make1_len k qa) (by omega)))
      go_wp2_with fail
      refine (c_qadd HQ.out _).mono ?_
      rintro e w3 hq
      obtain ⟨L3, rfl, hs3, m3, e1, -⟩ := HD2.out.rstep (i := qa) (by omega) rfl hq
      have M3 := Lib.hid (M2.out.trans m3)
      obtain ⟨k0', kpA⟩ := cprior2 hs3 (e1.trans HV3.out)
      have k0' : w3.cell? ⟨m, 0, none⟩ = some (.slice (some ⟨b, o, none⟩) s.prior.length c0) := k0'
      have kp' : w3.cell? ⟨b, o + a, none⟩ = some (.int .i64 (prI s a)) := kpA a han
      rw [(HW.out.pri han).1, ← HQA.out] at kp'
      have H3 : Hid (SAt w3 m L3 (addS (make1 s k) qa ((a : Int) + 1))) := hs3
      clear hq hs3 m3 e1 kpA HQ k0 kp k12
      go_wp2
      refine ⟨⟨k0', kp'⟩, wpPlanH_nil ?_⟩
      have HQ := Lib.hid (H3.out.qr (i := q) (off := 2 + q) (by omega) rfl rfl (Nat.le_trans (add_len (HW.out.make1_len k) _ _ _) (by omega)))
      have hin : ((k : Int) + 1) ∈ (addS (make1 s k) qa ((a : Int) + 1)).ready q := by
        unfold addS make1; simp only; rw [← HQD.out]
        by_cases hqq : q = qa
        · subst hqq; simp [upd_same]
        · rw [upd_ne _ _ hqq, upd_same]; simp
      have HIN := Lib.hid hin
      clear hin k0' kp'
      go_wp2_with fail
      refine (c_qdrop HQ.out _ HIN.out).mono ?_
      rintro e w4 hq
      obtain ⟨L4, rfl, hs4, m4, -⟩ := H3.out.rstep (i := q) (by omega) rfl hq
      have kc := hs4.ca
      have kf := hs4.row.free 12
      obtain ⟨h5, m5⟩ := hs4.act_step ((k : Int) + 1)
      have H5 := Lib.hid h5
      have M5 := Lib.hid ((M3.out.trans m4).trans m5)
      clear hq hs4 m4 h5 m5 HQ HIN
      go_wp2
      go_end0
      rw [HMK.out]
      exact ⟨L4, rfl, H5.out, M5.out⟩
    · have HMK : Hid (makeS s k = make1 s k) := by unfold Hid; rw [HMK.out, if_neg hc]
      have hc1 : ((qa : Int) < (q : Int)) = False := eq_false (by omega)
      have hc2 : ¬ qa < q := by omega
      clear hc
      go_wp2
      go_end0
      rw [HMK.out]
      exact ⟨L2, rfl, H2.out, M2.out⟩

end Go.Proofs.Ytbkaafbkmcgfjaa
