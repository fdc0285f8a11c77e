/-
  Contracts of package sched: list, Active, Ready, at, Waiting, Yield.
-/
import Derived.Test.YtbkaafbkmcgfjaaSchedE
namespace Go.Proofs.Ytbkaafbkmcgfjaa
open Go.RowKit
set_option linter.unusedVariables false
set_option maxHeartbeats 2000000

def MadeInts (w : World) (l : List Int) (e : Ending) (w' : World) : Prop :=
  ∃ v, e = .returned v ∧ w'.ownsRow w.heap.size 3 1 v l.length (l.map (Value.int .i64)) ∧ Below w.heap.size w w'

theorem c_CloneI1 (x : Addr) (n c : Nat) (l : List Int) (w : World) (e0 : n = l.length) (h : Reads w (some x) c (l.map (Value.int .i64))) (hm : n ≤ 1000000000) :
    Calls Try.prog 43 #[.slice (some x) n c] w (MadeInts w l) := by
  subst e0
  have hs := h.alloc (.cells #[] 3)
  have HS := Lib.hid hs
  clear hs
  have hn := fun w => Lib.run_eql_slice_nil (P := Try.prog) w 35 3 (some x) l.length c 0 0 Try.underlying35
  have h1c : ∀ u ∈ l.map (Value.int .i64), u.oneCell' = true := by
    intro u hu
    obtain ⟨y, _, rfl⟩ := List.mem_map.1 hu
    rfl
  have H1C := Lib.hid h1c
  clear h1c
  go_enter Try.func43, Try.ntmps43
  go_wp2_with (at_builtin; refine wpList_app rfl _ _ 35 rfl w.heap.size 3 (.int .i64 0) 1 8 Try.underlying35 inf_int rfl (by decide) _ 0 [] rfl (World.ownsRow_made w #[] 0 (Nat.le_refl _) (Nat.zero_le _) rfl) (some x) l.length c _ rfl (by simp) HS.out H1C.out (by unfold maxLen; omega) (by omega) (by simp) ?_)
  intro v1 w1 own1 gr1
  have bel1 : Below w.heap.size w w1 := ((Below.refl _ _).alloc (Nat.le_refl _) _).grown gr1 (by simp) (fun k hk => by simp [Value.ownBlock] at hk; omega)
  have HO := Lib.hid own1
  clear gr1 own1
  go_wp2
  go_ret
  exact ⟨v1, rfl, HO.out, bel1⟩

theorem c_CloneI (a : Option Addr) (n c : Nat) (l : List Int) (w : World) (e0 : n = l.length) (h : Reads w a c (l.map (Value.int .i64))) (hm : n ≤ 1000000000) :
    Calls Try.prog 43 #[.slice a n c] w (MadeInts w l) := by
  cases a with
  | some x => exact c_CloneI1 x n c l w e0 h hm
  | none =>
    rcases h with ⟨_, rfl, hx⟩ | ⟨x, hx, _⟩
    · have hl : l = [] := by simpa using hx
      subst hl
      subst e0
      have hn := fun w => Lib.run_eql_slice_nil (P := Try.prog) w 35 3 none 0 0 0 0 Try.underlying35
      go_enter Try.func43, Try.ntmps43
      go_wp2
      go_ret
      exact ⟨_, rfl, World.ownsRow_nil _ _ _ _, Below.refl _ _⟩
    · cases hx

theorem c_qlist {w : World} {g off : Nat} {t : TypeId} {xs : List Value} {base : Nat} {v : Value} {l : List Int} (h : QIn w g off t xs base v l) :
    Calls Try.prog 34 #[.pointer (some ⟨g, off, none⟩)] w (MadeInts w l) := by
  have kc := h.row.cell h.cell
  obtain ⟨a, c, rfl, hR, -⟩ := owns_reads h.own
  have hsm := h.small
  have HC := Lib.hid (c_CloneI a l.length c l w rfl hR (by omega))
  clear h hR
  go_enter Try.func34, Try.ntmps34
  go_wp2_with (go_at_call 43; refine HC.out.mono ?_; rintro e w' ⟨v, rfl, own, bel⟩)
  go_ret
  exact ⟨_, rfl, own, bel⟩

theorem QIn.nodrop {w : World} {g off : Nat} {t : TypeId} {xs : List Value} {base : Nat} {v : Value} {l : List Int} (h : QIn w g off t xs base v l) {p : Int} (hp : p ∉ l) (res : Value) : QPost g off t xs base v (dropL l p) res w (.returned res) w := by
  rw [dropL_no hp]
  refine ⟨v, rfl, ?_, h.own, fun k hk => .inl hk, Upd.refl _ _⟩
  have : xs.set off v = xs := by
    apply List.ext_getElem?
    intro i
    rw [List.getElem?_set]
    split
    · rename_i hi
      subst hi
      rw [h.cell, if_pos (List.getElem?_eq_some_iff.1 h.cell).1]
    · rfl
  rw [this]
  exact h.row

theorem c_qdropA {w : World} {g off : Nat} {t : TypeId} {xs : List Value} {base : Nat} {v : Value} {l : List Int} (h : QIn w g off t xs base v l) (p : Int) :
    Calls Try.prog 30 #[.pointer (some ⟨g, off, none⟩), .int .i64 p] w (QPost g off t xs base v (dropL l p) (.bool (decide (p ∈ l))) w) := by
  by_cases hp : p ∈ l
  · rw [decide_eq_true hp]
    exact c_qdrop h p hp
  · rw [decide_eq_false hp]
    refine (c_qdrop0 h p hp).mono ?_
    rintro e w' ⟨rfl, rfl⟩
    exact h.nodrop hp _

theorem c_Active {w : World} {m : Nat} {L : Lay} {s : SS} (h : SAt w m L s) : Calls Try.prog 14 #[.pointer (some ⟨m, 0, none⟩)] w fun e w' => e = .returned (.int .i64 s.act) ∧ w = w' := by
  have k := h.ca
  clear h
  go_enter Try.func14, Try.ntmps14
  go_wp2
  go_ret
  exact ⟨rfl, rfl⟩

theorem c_Ready {w : World} {m : Nat} {L : Lay} {s : SS} (h : SAt w m L s) (hw : ∀ i, (s.ready i).length ≤ 1000) (p : Nat) (h1 : 1 ≤ p) (h8 : p ≤ 8) :
    Calls Try.prog 20 #[.pointer (some ⟨m, 0, none⟩), .int .i64 p] w (MadeInts w (s.ready p)) := by
  have HQ := Lib.hid (h.qr (i := p) (off := 2 + p) (by omega) rfl rfl (hw p))
  clear h hw
  go_enter Try.func20, Try.ntmps20
  go_wp2_with fail
  refine (c_qlist HQ.out).mono ?_
  rintro e w' ⟨v, rfl, own, bel⟩
  go_wp2
  go_ret
  exact ⟨_, rfl, own, bel⟩

/-- Which semaphore, if any. -/
theorem c_at {w : World} {m : Nat} {L : Lay} {s : SS} (h : SAt w m L s) (hn : s.ns ≤ 100) (j : Nat) (hj : j < s.ns) :
    Calls Try.prog 32 #[.pointer (some ⟨m, 0, none⟩), .int .i64 ((j : Int) + 1)] w fun e w' => e = .returned (.tuple #[.pointer (some ⟨L.pk j, 0, none⟩), .int .i64 0]) ∧ w = w' := by
  obtain ⟨a, c, k0, hR⟩ := h.cs
  obtain ⟨b, o, rfl, _, hc⟩ := hR.at (by simp [ptrs]; omega)
  have kc := hc j _ (ptrs_get hj)
  have e1 : (j : Int) + 1 - 1 = j := by omega
  clear h hR hc
  generalize L.pk j = x at *
  go_enter Try.func32, Try.ntmps32
  go_wp2
  go_ret2
  exact ⟨rfl, rfl⟩

theorem c_at0 {w : World} {m : Nat} {L : Lay} {s : SS} (h : SAt w m L s) (hn : s.ns ≤ 100) (k : Int) (hk : k < 1 ∨ (s.ns : Int) < k) :
    Calls Try.prog 32 #[.pointer (some ⟨m, 0, none⟩), .int .i64 k] w fun e w' => e = .returned (.tuple #[.pointer none, .int .i64 4]) ∧ w = w' := by
  obtain ⟨a, c, k0, -⟩ := h.cs
  clear h
  generalize s.ns = n at *
  by_cases h1 : k < 1
  · clear hk
    go_enter Try.func32, Try.ntmps32
    go_wp2
    go_ret2
    exact ⟨rfl, rfl⟩
  · have h2 : (n : Int) < k := by omega
    clear hk
    go_enter Try.func32, Try.ntmps32
    go_wp2
    go_ret2
    exact ⟨rfl, rfl⟩

def yieldS (s : SS) : SS :=
  if s.act = 0 then s else
  let q := prN s (s.act - 1).toNat
  if s.ready q = [] then s else nextS (addS s q s.act)
def yieldE (s : SS) : Int := if s.act = 0 then 4 else 0

theorem c_Yield0 {w : World} {m : Nat} {L : Lay} {s : SS} (h : SAt w m L s) (ha : s.act = 0) :
    Calls Try.prog 16 #[.pointer (some ⟨m, 0, none⟩)] w fun e w' => e = .returned (.int .i64 4) ∧ w = w' := by
  have k := h.ca
  rw [ha] at k
  clear h ha
  go_enter Try.func16, Try.ntmps16
  go_wp2
  go_ret
  exact ⟨rfl, rfl⟩

theorem c_Yield {w : World} {m : Nat} {L : Lay} {s : SS} (h : SAt w m L s) (hw : WF s) :
    Calls Try.prog 16 #[.pointer (some ⟨m, 0, none⟩)] w (SPost m L (.int .i64 (yieldE s)) (yieldS s) w) := by
  by_cases ha : s.act = 0
  · unfold yieldE yieldS
    rw [if_pos ha, if_pos ha]
    refine (c_Yield0 h ha).mono ?_
    rintro e w' ⟨rfl, rfl⟩
    exact ⟨L, rfl, h, Mov.refl _ _⟩
  · have hE : yieldE s = 0 := if_neg ha
    obtain ⟨a, haa⟩ : ∃ a : Nat, s.act = (a : Int) + 1 := ⟨(s.act - 1).toNat, by have := hw.a0; omega⟩
    have han : a < s.prior.length := by have := hw.a1; omega
    have hact : (s.act - 1).toNat = a := by omega
    obtain ⟨hpa, hq1, hq8⟩ := hw.pri han
    obtain ⟨b, o, c0, hvp, k0, kpA⟩ := cprior h (by omega)
    have kp := kpA a han
    obtain ⟨q, hq⟩ : ∃ q, q = prN s a := ⟨_, rfl⟩
    rw [hpa, ← hq] at kp
    rw [← hq] at hq1 hq8
    have hS : yieldS s = if s.ready q = [] then s else nextS (addS s q ((a : Int) + 1)) := by
      unfold yieldS
      rw [if_neg ha, hact, ← hq, haa]
    have k12 := h.ca
    rw [haa] at k12
    have hn := hw.n
    have e1 : (a : Int) + 1 - 1 = a := by omega
    have hne : ((a : Int) + 1 = 0) = False := eq_false (by omega)
    have hneb : (((a : Int) + 1) == 0) = false := by simp; omega
    have hqi : (q : Int) < 9 := by omega
    have HH := Lib.hid h
    have HW := Lib.hid hw
    have HVP := Lib.hid hvp
    rw [hE]
    clear h hw hvp kpA ha hE haa hact hpa hq
    cases hr : s.ready q with
    | nil =>
      rw [hr, if_pos rfl] at hS
      rw [hS]
      obtain ⟨a2, c2, hv2, -, -⟩ := owns_reads (HH.out.rd q (by omega))
      rw [hr] at hv2
      have kq : w.cell? ⟨m, 2 + q, none⟩ = some (.slice a2 0 c2) := by
        have h2 := HH.out.row.cell (rowS_get L.vp L.vi L.vs L.vr s.act (show q < 9 by omega))
        rw [hv2] at h2
        exact h2
      clear hS hr hv2
      go_enter Try.func16, Try.ntmps16
      go_wp2_with fail
      refine wp_region_planH (fun x => x.cell? ⟨m, 0, none⟩ = some (.slice (some ⟨b, o, none⟩) s.prior.length c0) ∧ x.cell? ⟨b, o + a, none⟩ = some (.int .i64 (q : Int)) ∧ x.cell? ⟨m, 12, none⟩ = some (.int .i64 ((a : Int) + 1))) [(0, true), (1, true), (2, true), (3, true), (4, true), (5, true), (6, true), (7, true), (8, true), (9, true), (10, true), (11, true), (12, true), (13, true), (14, true), (15, true)] (by kernel_rfl) (by kernel_rfl) (fun _ _ _ _ _ h => h) ⟨k0, kp, k12⟩ ?_
      (repeat (refine wpPlanH_free rfl (fun K hK => ?_); go_simp; (try go_bits); refine hK _ ?_; clear hK K))
      refine wpPlanH_load (.slice (some ⟨b, o, none⟩) s.prior.length c0) rfl rfl (fun x hS => by obtain ⟨s0, s1, s2⟩ := hS; go_simp) (fun K hK => ?_)
      refine hK _ ?_
      clear hK K
      (repeat (refine wpPlanH_free rfl (fun K hK => ?_); go_simp; (try go_bits); refine hK _ ?_; clear hK K))
      refine wpPlanH_load (.int .i64 ((a : Int) + 1)) rfl rfl (fun x hS => by obtain ⟨s0, s1, s2⟩ := hS; go_simp) (fun K hK => ?_)
      refine hK _ ?_
      clear hK K
      (repeat (refine wpPlanH_free rfl (fun K hK => ?_); go_simp; (try go_bits); refine hK _ ?_; clear hK K))
      refine wpPlanH_load (.int .i64 (q : Int)) rfl rfl (fun x hS => by obtain ⟨s0, s1, s2⟩ := hS; go_simp) (fun K hK => ?_)
      refine hK _ ?_
      clear hK K
      (repeat (refine wpPlanH_free rfl (fun K hK => ?_); go_simp; (try go_bits); refine hK _ ?_; clear hK K))
      refine wpPlanH_nil ?_
      have kq2 : w.drew.cell? ⟨m, 2 + q, none⟩ = some (.slice a2 0 c2) := kq
      clear kq
      go_wp2
      go_ret
      exact ⟨L, rfl, HH.out.keep (l := []) ((Upd.refl _ _).drew) (by simp), ⟨(Upd.refl _ _).drew, fun k hk => .inl hk⟩⟩
    | cons p0 l0 =>
      rw [hr, if_neg (by simp)] at hS
      rw [hS]
      obtain ⟨a2, c2, hv2, -, -⟩ := owns_reads (HH.out.rd q (by omega))
      have hrl := HW.out.rl q
      rw [hr] at hv2 hrl
      have kq : w.cell? ⟨m, 2 + q, none⟩ = some (.slice a2 (l0.length + 1) c2) := by
        have h2 := HH.out.row.cell (rowS_get L.vp L.vi L.vs L.vr s.act (show q < 9 by omega))
        rw [hv2] at h2
        exact h2
      have hrl2 : l0.length + 1 ≤ 500 := hrl
      generalize l0.length = N at *
      clear hS hr hv2 hrl
      go_enter Try.func16, Try.ntmps16
      go_wp2_with fail
      refine wp_region_planH (fun x => x.cell? ⟨m, 0, none⟩ = some (.slice (some ⟨b, o, none⟩) s.prior.length c0) ∧ x.cell? ⟨b, o + a, none⟩ = some (.int .i64 (q : Int)) ∧ x.cell? ⟨m, 12, none⟩ = some (.int .i64 ((a : Int) + 1))) [(0, true), (1, true), (2, true), (3, true), (4, true), (5, true), (6, true), (7, true), (8, true), (9, true), (10, true), (11, true), (12, true), (13, true), (14, true), (15, true)] (by kernel_rfl) (by kernel_rfl) (fun _ _ _ _ _ h => h) ⟨k0, kp, k12⟩ ?_
      (repeat (refine wpPlanH_free rfl (fun K hK => ?_); go_simp; (try go_bits); refine hK _ ?_; clear hK K))
      refine wpPlanH_load (.slice (some ⟨b, o, none⟩) s.prior.length c0) rfl rfl (fun x hS => by obtain ⟨s0, s1, s2⟩ := hS; go_simp) (fun K hK => ?_)
      refine hK _ ?_
      clear hK K
      (repeat (refine wpPlanH_free rfl (fun K hK => ?_); go_simp; (try go_bits); refine hK _ ?_; clear hK K))
      refine wpPlanH_load (.int .i64 ((a : Int) + 1)) rfl rfl (fun x hS => by obtain ⟨s0, s1, s2⟩ := hS; go_simp) (fun K hK => ?_)
      refine hK _ ?_
      clear hK K
      (repeat (refine wpPlanH_free rfl (fun K hK => ?_); go_simp; (try go_bits); refine hK _ ?_; clear hK K))
      refine wpPlanH_load (.int .i64 (q : Int)) rfl rfl (fun x hS => by obtain ⟨s0, s1, s2⟩ := hS; go_simp) (fun K hK => ?_)
      refine hK _ ?_
      clear hK K
      (repeat (refine wpPlanH_free rfl (fun K hK => ?_); go_simp; (try go_bits); refine hK _ ?_; clear hK K))
      refine wpPlanH_nil ?_
      have kq2 : w.drew.cell? ⟨m, 2 + q, none⟩ = some (.slice a2 (N + 1) c2) := kq
      have k12d : w.drew.cell? ⟨m, 12, none⟩ = some (.int .i64 ((a : Int) + 1)) := k12
      have HD : Hid (SAt w.drew m L s) := HH.out.keep (l := []) ((Upd.refl _ _).drew) (by simp)
      have HQ := Lib.hid (HD.out.qr (i := q) (off := 2 + q) (by omega) rfl rfl (Nat.le_trans (HW.out.rl q) (by omega)))
      clear kq k12 k0 kp
      go_wp2_with fail
      refine (c_qadd HQ.out _).mono ?_
      rintro e w2 hq
      obtain ⟨L2, rfl, hs2, m2, -⟩ := HD.out.rstep (i := q) (by omega) rfl hq
      have H2 : Hid (SAt w2 m L2 (addS s q ((a : Int) + 1))) := hs2
      have M2 : Hid (Mov L.B w L2.B w2) := (Mov.mk (Upd.refl _ _).drew (fun k hk => .inl hk) : Mov L.B w L.B w.drew).trans m2
      clear kq2 k12d hq hs2 m2 HQ
      go_wp2_with fail
      refine (c_next H2.out ⟨fun i => Nat.le_trans (add_len HW.out.rl _ _ _) (by omega), fun i p hp => ?_⟩).mono ?_
      · unfold addS upd at hp
        simp only at hp
        split at hp
        · rcases List.mem_append.1 hp with hp | hp
          · exact (HW.out.rm _ _ hp).1
          · have := List.mem_singleton.1 hp; omega
        · exact (HW.out.rm _ _ hp).1
      rintro e w3 ⟨L3, rfl, hs3, m3⟩
      have H3 := Lib.hid hs3
      have M3 := Lib.hid (M2.out.trans m3)
      clear hs3 m3
      go_wp2
      go_ret
      exact ⟨L3, rfl, H3.out, M3.out⟩

end Go.Proofs.Ytbkaafbkmcgfjaa
