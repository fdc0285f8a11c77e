/-
  Contracts of package sched: New, has, next.
-/
import Derived.Test.YtbkaafbkmcgfjaaSchedC
namespace Go.Proofs.Ytbkaafbkmcgfjaa
open Go.RowKit
set_option linter.unusedVariables false
set_option maxHeartbeats 1000000

structure WF (s : SS) : Prop where
  li : s.idle.length = s.prior.length
  n : s.prior.length ≤ 100
  pr : ∀ p ∈ s.prior, 1 ≤ p ∧ p ≤ 8
  a0 : 0 ≤ s.act
  a1 : s.act ≤ s.prior.length
  rl : ∀ i, (s.ready i).length ≤ 500
  rm : ∀ i, ∀ p ∈ s.ready i, 1 ≤ p ∧ p ≤ s.prior.length
  ns : s.ns ≤ 100
  wl : ∀ j, (s.sq j).length ≤ 500
  wm : ∀ j, ∀ p ∈ s.sq j, 1 ≤ p ∧ p ≤ s.prior.length
  sg : ∀ j, 0 ≤ s.sig j ∧ s.sig j ≤ 1000000

def nextF : Nat → SS → SS
  | 0, s => s
  | i + 1, s => match s.ready (i + 1) with
    | [] => nextF i s
    | p :: l => { s with ready := upd s.ready (i + 1) l, act := p }
def nextS (s : SS) : SS := nextF 8 { s with act := 0 }

theorem SAt.cp {w : World} {m : Nat} {L : Lay} {s : SS} (h : SAt w m L s) : ∃ a c, w.cell? ⟨m, 0, none⟩ = some (.slice a s.prior.length c) ∧ Reads w a c (s.prior.map (Value.int .i64)) := by
  obtain ⟨a, c, hv, hR, -⟩ := owns_reads h.op
  exact ⟨a, c, by rw [← hv]; exact h.row.cell (i := 0) rfl, hR⟩
theorem SAt.ca {w : World} {m : Nat} {L : Lay} {s : SS} (h : SAt w m L s) : w.cell? ⟨m, 12, none⟩ = some (.int .i64 s.act) := h.row.cell (i := 12) rfl
theorem SAt.ci {w : World} {m : Nat} {L : Lay} {s : SS} (h : SAt w m L s) (hn : 0 < s.idle.length) : ∃ g c, L.vi = .slice (some ⟨g, 0, none⟩) s.idle.length c ∧ w.cell? ⟨m, 1, none⟩ = some (.slice (some ⟨g, 0, none⟩) s.idle.length c) ∧
    (∀ k, k < s.idle.length → w.cell? ⟨g, k, none⟩ = some (.bool (s.idle.getD k false))) ∧ ∀ k, w.frozen? ⟨g, k, none⟩ = false := by
  obtain ⟨g, c, cur, he, hb, hr, ht, hn, hm, hc⟩ := (owns_split h.oi).resolve_left (fun e => by have := e.2.1; omega)
  refine ⟨g, c, he, by rw [← he]; exact h.row.cell (i := 1) rfl, fun k hk => hr.cell ?_, fun k => hr.free k⟩
  have h1 : (cur.take s.idle.length)[k]? = some (.bool (s.idle.getD k false)) := by rw [ht]; simp [hk]
  rwa [List.getElem?_take, if_pos hk] at h1
theorem SAt.cs {w : World} {m : Nat} {L : Lay} {s : SS} (h : SAt w m L s) : ∃ a c, w.cell? ⟨m, 11, none⟩ = some (.slice a s.ns c) ∧ Reads w a c (ptrs s.ns L.pk) := by
  obtain ⟨a, c, hv, hR, -⟩ := owns_reads h.os
  exact ⟨a, c, by rw [← hv]; exact h.row.cell (i := 11) rfl, hR⟩
theorem ptrs_get {n : Nat} {pk : Nat → Nat} {j : Nat} (h : j < n) : (ptrs n pk)[j]? = some (.pointer (some ⟨pk j, 0, none⟩)) := by simp [ptrs, h]

theorem SAt.qr {w : World} {m : Nat} {L : Lay} {s : SS} (h : SAt w m L s) {i off : Nat} {l : List Int} (hi : i < 9) (ho : off = 2 + i) (hl : s.ready i = l) (hs : l.length ≤ 1000) : QIn w m off 61 (rowS L.vp L.vi L.vs L.vr s.act) 0 (L.vr i) l := by
  subst ho; subst hl
  exact h.qready hi hs
theorem SAt.rstep {w w' : World} {m : Nat} {L : Lay} {s : SS} (h : SAt w m L s) {i off : Nat} (hi : i < 9) (ho : off = 2 + i) {l' : List Int} {res : Value} {e : Ending}
    (hq : QPost m off 61 (rowS L.vp L.vi L.vs L.vr s.act) 0 (L.vr i) l' res w e w') : SPostK m L res { s with ready := upd s.ready i l' } w e w' := by
  subst ho
  exact h.ready_step hi hq

theorem c_has {w : World} {m : Nat} {L : Lay} {s : SS} (h : SAt w m L s) (hn : s.prior.length ≤ 100) (p : Int) :
    Calls Try.prog 26 #[.pointer (some ⟨m, 0, none⟩), .int .i64 p] w fun e w' => e = .returned (.bool (decide (1 ≤ p ∧ p ≤ s.prior.length))) ∧ w = w' := by
  obtain ⟨a, c, k0, -⟩ := h.cp
  clear h
  generalize s.prior.length = n at *
  by_cases h1 : 1 ≤ p
  · by_cases h2 : p ≤ n
    · have hd : decide (1 ≤ p ∧ p ≤ (n : Int)) = true := decide_eq_true ⟨h1, h2⟩
      rw [hd]
      clear hd
      go_enter Try.func26, Try.ntmps26
      go_wp2
      go_ret
      exact ⟨by simp, rfl⟩
    · have hd : decide (1 ≤ p ∧ p ≤ (n : Int)) = false := decide_eq_false (fun h => h2 h.2)
      rw [hd]
      clear hd
      go_enter Try.func26, Try.ntmps26
      go_wp2
      go_ret
      exact ⟨by simp, rfl⟩
  · have hd : decide (1 ≤ p ∧ p ≤ (n : Int)) = false := decide_eq_false (fun h => h1 h.1)
    rw [hd]
    clear hd
    go_enter Try.func26, Try.ntmps26
    go_wp2
    go_ret
    exact ⟨rfl, rfl⟩

theorem c_next {w : World} {m : Nat} {L : Lay} {s : SS} (h : SAt w m L s) (hw : (∀ i, (s.ready i).length ≤ 1000) ∧ ∀ i, ∀ p ∈ s.ready i, 1 ≤ p) :
    Calls Try.prog 29 #[.pointer (some ⟨m, 0, none⟩)] w (SPost m L (.tuple #[]) (nextS s) w) := by
  have HH := Lib.hid h
  have HW := Lib.hid hw
  have k12 := h.ca
  have kf := h.row.free 12
  clear h hw
  go_enter Try.func29, Try.ntmps29
  go_wp2
  obtain ⟨w1, hw1⟩ : ∃ x, x = w.setCell ⟨m, 12, none⟩ (.int .i64 0) := ⟨_, rfl⟩
  have h1 := HH.out.act_step 0
  rw [← hw1] at h1 ⊢
  obtain ⟨h1, m1⟩ := h1
  have H1 := Lib.hid h1
  have M1 := Lib.hid m1
  clear hw1 k12 kf h1 m1
  go_loopw [2] (fun i wr => ∃ (k : Nat) (K : Lay) (u : SS), k ≤ 8 ∧ i = .int .i64 k ∧ Hid (SAt wr m K u) ∧ Hid (Mov L.B w K.B wr) ∧ Hid ((u = { s with act := 0 } ∧ nextF k u = nextS s) ∨ (u.act ≠ 0 ∧ u = nextS s))) (fun i _ => (intOf i).toNat)
  case atStart => exact ⟨8, L, _, by omega, rfl, H1.out, M1.out, .inl ⟨rfl, rfl⟩⟩
  case round =>
    obtain ⟨k, K, u, hk, rfl, HS, HM, HC⟩ := hrel
    rcases HC.out with ⟨hu, hn⟩ | ⟨hu, hn⟩
    · subst hu
      have k12 := HS.out.ca
      cases k with
      | zero =>
        have HN := Lib.hid hn
        clear hn HC
        go_wp2
        go_end0
        refine ⟨K, rfl, ?_, HM.out⟩
        rw [← HN.out]
        exact HS.out
      | succ k =>
        have hrl := HW.out.1 (k + 1)
        have hrm := HW.out.2 (k + 1)
        have HN := Lib.hid hn
        clear hn HC
        cases hr : s.ready (k + 1) with
        | nil =>
          have HQ := Lib.hid (HS.out.qr (i := k + 1) (off := 2 + (k + 1)) (by omega) rfl hr (by simp))
          have HN2 := Lib.hid (show nextF k { s with act := 0 } = nextS s from by rw [← HN.out]; simp only [nextF, hr])
          clear hr hrl hrm
          go_wp2_with fail
          refine (c_qfirst0 HQ.out).mono ?_
          rintro e w2 ⟨rfl, rfl⟩
          have kf := HS.out.row.free 12
          go_wp2
          obtain ⟨h2, m2⟩ := HS.out.act_step 0
          have H2 := Lib.hid h2
          have M2 := Lib.hid (HM.out.trans m2)
          clear h2 m2
          go_roundw
          case rel => exact ⟨k, K, _, by omega, by go_num, H2.out, M2.out, .inl ⟨rfl, HN2.out⟩⟩
          case measure => simp [intOf]
        | cons p l =>
          rw [hr] at hrl hrm
          have HQ := Lib.hid (HS.out.qr (i := k + 1) (off := 2 + (k + 1)) (by omega) rfl hr (by omega))
          have HN2 := Lib.hid (show ({ s with ready := upd s.ready (k + 1) l, act := p } : SS) = nextS s from by rw [← HN.out]; simp only [nextF, hr])
          have hp1 := hrm p (by simp)
          have hpn : p ≠ 0 := by omega
          clear hr hrl hrm
          go_wp2_with fail
          refine (c_qfirst HQ.out).mono ?_
          rintro e w2 hq
          obtain ⟨K2, rfl, hs2, m2, -⟩ := HS.out.rstep (i := k + 1) (by omega) rfl hq
          have kc := hs2.row.cell (i := 12) rfl
          have kf := hs2.row.free 12
          obtain ⟨h3, m3⟩ := hs2.act_step p
          have H3 := Lib.hid h3
          have M3 := Lib.hid ((HM.out.trans m2).trans m3)
          clear hq hs2 m2 h3 m3
          go_wp2
          go_roundw
          case rel => exact ⟨k, K2, _, by omega, by go_num, H3.out, M3.out, .inr ⟨hpn, HN2.out⟩⟩
          case measure => simp [intOf]
    · subst hn
      have k12 := HS.out.ca
      have HX := Lib.hid HS.out
      obtain ⟨A, hA⟩ : ∃ A, A = (nextS s).act := ⟨_, rfl⟩
      rw [← hA] at k12 hu
      clear HC hA
      by_cases hk0 : k = 0
      · subst hk0
        go_wp2
        go_end0
        exact ⟨K, rfl, HX.out, HM.out⟩
      · have hk1 : 0 < k := by omega
        go_wp2
        go_end0
        exact ⟨K, rfl, HX.out, HM.out⟩

end Go.Proofs.Ytbkaafbkmcgfjaa
