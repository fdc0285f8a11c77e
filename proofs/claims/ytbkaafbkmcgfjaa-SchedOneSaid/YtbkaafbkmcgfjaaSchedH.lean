/-
  Contracts of package sched: Signal, Wait.
-/
import Derived.Test.YtbkaafbkmcgfjaaSchedG
namespace Go.Proofs.Ytbkaafbkmcgfjaa
open Go.RowKit
set_option linter.unusedVariables false
set_option maxHeartbeats 2000000

def sigS (s : SS) (j : Nat) : SS := match s.sq j with
  | [] => { s with sig := upd s.sig j (s.sig j + 1) }
  | p :: l => makeS { s with sq := upd s.sq j l } (p - 1).toNat

theorem c_Signal4 {w : World} {m : Nat} {L : Lay} {s : SS} (h : SAt w m L s) (hn : s.ns ≤ 100) (k : Int) (hk : k < 1 ∨ (s.ns : Int) < k) :
    Calls Try.prog 19 #[.pointer (some ⟨m, 0, none⟩), .int .i64 k] w fun e w' => e = .returned (.int .i64 4) ∧ w = w' := by
  have HA := Lib.hid (c_at0 h hn k hk)
  clear h hk
  go_enter Try.func19, Try.ntmps19
  go_wp2_with (go_at_call 32; refine HA.out.mono ?_; rintro e w' ⟨rfl, rfl⟩)
  go_ret
  exact ⟨rfl, rfl⟩

theorem WF.tail {s : SS} (h : WF s) {j : Nat} {p : Int} {l : List Int} (hq : s.sq j = p :: l) : WF { s with sq := upd s.sq j l } :=
  ⟨h.li, h.n, h.pr, h.a0, h.a1, h.rl, h.rm, h.ns, fun i => by
    show (upd s.sq j l i).length ≤ 500
    unfold upd
    split
    · have := h.wl j; rw [hq] at this; simp at this; omega
    · exact h.wl i, fun i x hx => by
    change x ∈ upd s.sq j l i at hx
    unfold upd at hx
    split at hx
    · exact h.wm j x (by rw [hq]; exact List.mem_cons_of_mem _ hx)
    · exact h.wm i x hx, h.sg⟩

theorem c_Signal {w : World} {m : Nat} {L : Lay} {s : SS} (h : SAt w m L s) (hw : WF s) (j : Nat) (hj : j < s.ns) :
    Calls Try.prog 19 #[.pointer (some ⟨m, 0, none⟩), .int .i64 ((j : Int) + 1)] w (SPost m L (.int .i64 0) (sigS s j) w) := by
  have HA := Lib.hid (c_at h hw.ns j hj)
  have HQ := Lib.hid (h.qsem hj (Nat.le_trans (hw.wl j) (by omega)))
  have HH := Lib.hid h
  have HW := Lib.hid hw
  have hsg := hw.sg j
  cases hq : s.sq j with
  | nil =>
    have HS : Hid (sigS s j = { s with sig := upd s.sig j (s.sig j + 1) }) := by unfold Hid sigS; rw [hq]
    rw [hq] at HQ
    have kc : w.cell? ⟨L.pk j, 1, none⟩ = some (.int .i64 (s.sig j)) := (h.sm j hj).cell rfl
    have kf : w.frozen? ⟨L.pk j, 1, none⟩ = false := (h.sm j hj).free 1
    obtain ⟨x, hx⟩ : ∃ x, x = L.pk j := ⟨_, rfl⟩
    obtain ⟨y, hy⟩ : ∃ y, y = s.sig j := ⟨_, rfl⟩
    rw [← hx] at kc kf HQ HA
    rw [← hy] at kc hsg HQ HS
    have HI := Lib.hid (h.sig_step hj (y + 1))
    rw [← hx] at HI
    have hmin : (y + 1 < 2147483647) = True := eq_true (by omega)
    have hmin2 : y + 1 < 2147483647 := by omega
    clear h hw hq hx hy
    go_enter Try.func19, Try.ntmps19
    go_wp2_with fail
    refine HA.out.mono ?_
    rintro e w' ⟨rfl, rfl⟩
    go_wp2_with fail
    refine (c_qfirst0 HQ.out).mono ?_
    rintro e w' ⟨rfl, rfl⟩
    go_wp2
    go_ret
    rw [HS.out, show min (y + 1) 2147483647 = y + 1 from by omega]
    exact ⟨L, rfl, HI.out.1, HI.out.2⟩
  | cons p l =>
    obtain ⟨k, hk⟩ : ∃ k : Nat, p = (k : Int) + 1 := ⟨(p - 1).toNat, by have := (hw.wm j p (by rw [hq]; simp)).1; omega⟩
    have hkn : k < s.prior.length := by have := (hw.wm j p (by rw [hq]; simp)).2; omega
    have HS : Hid (sigS s j = makeS { s with sq := upd s.sq j l } k) := by
      unfold Hid sigS; rw [hq]; simp only; rw [hk, show ((k : Int) + 1 - 1).toNat = k from by omega]
    have HT := Lib.hid (hw.tail hq)
    rw [hq, hk] at HQ
    have hne : ((k : Int) + 1 = 0) = False := eq_false (by omega)
    have hneb : (((k : Int) + 1) == 0) = false := by simp; omega
    obtain ⟨x, hx⟩ : ∃ x, x = L.pk j := ⟨_, rfl⟩
    rw [← hx] at HQ HA
    have HX := Lib.hid hx
    clear h hw hq hx hk
    go_enter Try.func19, Try.ntmps19
    go_wp2_with fail
    refine HA.out.mono ?_
    rintro e w' ⟨rfl, rfl⟩
    go_wp2_with fail
    refine (c_qfirst HQ.out).mono ?_
    rintro e w2 hq
    rw [HX.out] at hq
    obtain ⟨L2, rfl, hs2, m2, -⟩ := HH.out.sem_step (j := j) hj hq
    have H2 := Lib.hid hs2
    have M2 := Lib.hid m2
    clear hq hs2 m2 HA HQ
    go_wp2_with fail
    refine (c_make H2.out HT.out k hkn).mono ?_
    rintro e w3 ⟨L3, rfl, hs3, m3⟩
    have H3 := Lib.hid hs3
    have M3 := Lib.hid (M2.out.trans m3)
    clear hs3 m3
    go_wp2
    go_ret
    rw [HS.out]
    exact ⟨L3, rfl, H3.out, M3.out⟩

def waitS (s : SS) (j : Nat) : SS :=
  if s.act = 0 then s else if 0 < s.sig j then { s with sig := upd s.sig j (s.sig j - 1) } else nextS { s with sq := upd s.sq j (s.sq j ++ [s.act]) }
def waitE (s : SS) : Int := if s.act = 0 then 2 else 0

theorem c_Wait4 {w : World} {m : Nat} {L : Lay} {s : SS} (h : SAt w m L s) (hn : s.ns ≤ 100) (k : Int) (hk : k < 1 ∨ (s.ns : Int) < k) :
    Calls Try.prog 18 #[.pointer (some ⟨m, 0, none⟩), .int .i64 k] w fun e w' => e = .returned (.int .i64 4) ∧ w = w' := by
  have HA := Lib.hid (c_at0 h hn k hk)
  clear h hk
  go_enter Try.func18, Try.ntmps18
  go_wp2_with (go_at_call 32; refine HA.out.mono ?_; rintro e w' ⟨rfl, rfl⟩)
  go_ret
  exact ⟨rfl, rfl⟩

theorem c_Wait {w : World} {m : Nat} {L : Lay} {s : SS} (h : SAt w m L s) (hw : WF s) (j : Nat) (hj : j < s.ns) :
    Calls Try.prog 18 #[.pointer (some ⟨m, 0, none⟩), .int .i64 ((j : Int) + 1)] w (SPost m L (.int .i64 (waitE s)) (waitS s j) w) := by
  have HA := Lib.hid (c_at h hw.ns j hj)
  have HQ := Lib.hid (h.drew.qsem hj (Nat.le_trans (hw.wl j) (by omega)))
  have HH := Lib.hid h
  have HW := Lib.hid hw
  have hsg := hw.sg j
  have k12 := h.ca
  by_cases ha : s.act = 0
  · have HE : Hid (waitE s = 2) := if_pos ha
    have HS : Hid (waitS s j = s) := if_pos ha
    rw [ha] at k12
    clear h hw ha HQ
    go_enter Try.func18, Try.ntmps18
    go_wp2_with fail
    refine HA.out.mono ?_
    rintro e w' ⟨rfl, rfl⟩
    go_wp2
    go_ret
    rw [HE.out, HS.out]
    exact ⟨L, rfl, HH.out, Mov.refl _ _⟩
  · have HE : Hid (waitE s = 0) := if_neg ha
    have ha1 : (s.act = 0) = False := eq_false ha
    have ha2 : (s.act == 0) = false := by simp [ha]
    have hact0 := hw.a0
    have hact1 := hw.a1
    have hn := hw.n
    have kc : w.cell? ⟨L.pk j, 1, none⟩ = some (.int .i64 (s.sig j)) := (h.sm j hj).cell rfl
    have kf : w.frozen? ⟨L.pk j, 1, none⟩ = false := (h.sm j hj).free 1
    have HI := Lib.hid (h.sig_step hj (s.sig j - 1))
    obtain ⟨x, hx⟩ : ∃ x, x = L.pk j := ⟨_, rfl⟩
    obtain ⟨y, hy⟩ : ∃ y, y = s.sig j := ⟨_, rfl⟩
    obtain ⟨A, hA⟩ : ∃ A, A = s.act := ⟨_, rfl⟩
    have hS : waitS s j = if 0 < y then { s with sig := upd s.sig j (y - 1) } else nextS { s with sq := upd s.sq j (s.sq j ++ [A]) } := by
      rw [hA, hy]; exact if_neg ha
    rw [← hx] at HQ HA kc kf HI
    rw [← hy] at kc hsg HI
    rw [← hA] at k12 ha1 ha2 hact0 hact1
    have HX := Lib.hid hx
    have HAA := Lib.hid hA
    clear h hw hx ha hy hA
    by_cases hy0 : 0 < y
    · have HS : Hid (waitS s j = _) := hS.trans (if_pos hy0)
      clear hS
      go_enter Try.func18, Try.ntmps18
      go_wp2_with fail
      refine HA.out.mono ?_
      rintro e w' ⟨rfl, rfl⟩
      go_wp2
      go_ret
      rw [HE.out, HS.out]
      exact ⟨L, rfl, HI.out.1, HI.out.2⟩
    · have HS : Hid (waitS s j = _) := hS.trans (if_neg hy0)
      clear hS
      go_enter Try.func18, Try.ntmps18
      go_wp2_with fail
      refine HA.out.mono ?_
      rintro e w' ⟨rfl, rfl⟩
      go_wp2_with fail
      refine wp_region_planH (fun z => z.cell? ⟨m, 12, none⟩ = some (.int .i64 A)) [(0, true), (1, true), (2, true), (3, true), (4, true), (5, true), (6, true), (7, false)] (by kernel_rfl) (by kernel_rfl) (fun _ _ _ _ _ h => h) k12 ?_
      (repeat (refine wpPlanH_free rfl (fun K hK => ?_); go_simp; (try go_bits); refine hK _ ?_; clear hK K))
      refine wpPlanH_load (.int .i64 A) rfl rfl (fun x hS => by go_simp) (fun K hK => ?_)
      refine hK _ ?_
      clear hK K
      (repeat (refine wpPlanH_free rfl (fun K hK => ?_); go_simp; (try go_bits); refine hK _ ?_; clear hK K))
      refine wpPlanH_sole rfl ?_
      go_wp2_with fail
      refine (c_qadd HQ.out _).mono ?_
      rintro e w2 hq
      rw [HX.out] at hq
      obtain ⟨L2, rfl, hs2, m2, -⟩ := HH.out.drew.sem_step (j := j) hj hq
      have k12' := hs2.ca
      have H2 := Lib.hid hs2
      have M2 := Lib.hid (((Mov.refl L.B w).drew).trans m2)
      clear hq hs2 m2 HA HQ kc kf k12
      go_wp2
      refine ⟨by rw [HAA.out]; exact k12', wpPlanH_nil ?_⟩
      clear k12'
      go_wp2_with fail
      refine (c_next H2.out ⟨fun i => Nat.le_trans (HW.out.rl i) (by omega), fun i p hp => (HW.out.rm i p hp).1⟩).mono ?_
      rintro e w3 ⟨L3, rfl, hs3, m3⟩
      have H3 := Lib.hid hs3
      have M3 := Lib.hid (M2.out.trans m3)
      clear hs3 m3
      go_wp2
      go_ret
      rw [HE.out, HS.out]
      exact ⟨L3, rfl, H3.out, M3.out⟩

end Go.Proofs.Ytbkaafbkmcgfjaa
