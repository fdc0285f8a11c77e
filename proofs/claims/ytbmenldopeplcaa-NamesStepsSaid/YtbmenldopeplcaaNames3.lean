/-
  Contracts of package names: Bind.
-/
import Derived.Test.YtbmenldopeplcaaNames2
namespace Go.Proofs.Ytbmenldopeplcaa
open Go.RowKit
set_option linter.unusedVariables false
set_option maxHeartbeats 1000000

def bindL (l : List Int) (id : Int) : List Int := if id < 1 then l else if find8 l id ≠ 0 then l else match idx l 0 with | some k => l.set k id | none => l
def bindS (l : List Int) (id : Int) : Nat := if id < 1 then 0 else if find8 l id ≠ 0 then find8 l id else match idx l 0 with | some k => k + 1 | none => 0
def bindE (l : List Int) (id : Int) : Int := if id < 1 then 2 else if find8 l id ≠ 0 then 0 else match idx l 0 with | some k => 0 | none => 3

def BindPost (t gi gh N : Nat) (l : List Int) (id : Int) (w : World) (e : Ending) (w' : World) : Prop :=
  e = .returned (.tuple #[.int .i64 (bindS l id), .int .i64 (bindE l id)]) ∧ Tab w' t gi gh N (bindL l id) ∧ Upd [t, gi, gh] w w'

theorem live_cons (a : Int) (l : List Int) : live (a :: l) = (if a = 0 then 0 else 1) + live l := by
  unfold live
  by_cases h : a = 0
  · rw [if_pos h, List.filter_cons_of_neg (by simpa using h)]; omega
  · rw [if_neg h, List.filter_cons_of_pos (by simpa using h), List.length_cons]; omega

theorem live_le : ∀ l : List Int, live l ≤ l.length
  | [] => by simp [live]
  | a :: l => by
    have := live_le l
    rw [live_cons, List.length_cons]
    split <;> omega

theorem live_set : ∀ (l : List Int) (k : Nat) (x : Int), k < l.length → live (l.set k x) + (if l.getD k 0 = 0 then 0 else 1) = live l + (if x = 0 then 0 else 1)
  | [], k, x, h => by simp at h
  | a :: l, 0, x, h => by
    rw [List.set_cons_zero, live_cons, live_cons, List.getD_cons_zero]
    omega
  | a :: l, k + 1, x, h => by
    have := live_set l k x (by simpa using h)
    rw [List.set_cons_succ, live_cons, live_cons, List.getD_cons_succ]
    omega

theorem Row.frozen {w : World} {g : Nat} {t : TypeId} {xs : List Value} (h : Row w g t xs) (i : Nat) : w.frozen? ⟨g, i, none⟩ = false := h.free i

theorem c_IndexT (t gi gh N : Nat) (l : List Int) (w : World) (h : Tab w t gi gh N l) : Calls Try.prog 47 #[.slice (some ⟨gi, 1, none⟩) N N, .int .i64 0] w fun e w' => e = .returned (.int .i64 (idxV l 0)) ∧ w = w' := by
  obtain ⟨hash, h⟩ := h
  have hl : l.length = N := by have := h.good.li; simp at this; exact this
  have hs := h.small
  refine c_IndexI _ N N l 0 w hl.symm (h.ri.reads (fun i u hu => ?_)) (by omega)
  rw [Nat.add_comm, List.map_cons, List.getElem?_cons_succ]; exact hu

theorem c_Bind4 (t gi gh N : Nat) (l : List Int) (w : World) (h : Tab w t gi gh N l) (id : Int) (h0 : 1 ≤ id) (h1 : id ≤ 9223372036854775807) (hf : find8 l id = 0) (k : Nat) (hi : idx l 0 = some k) :
    Calls Try.prog 31 #[.pointer (some ⟨t, 0, none⟩), .int .i64 id] w fun e w' => e = .returned (.tuple #[.int .i64 (k + 1 : Nat), .int .i64 0]) ∧ Tab w' t gi gh N (l.set k id) ∧ Upd [t, gi, gh] w w' := by
  have HX := Lib.hid (c_IndexT t gi gh N l w h)
  obtain ⟨hash, h⟩ := h
  have hsm := h.small
  have k0 := h.head.cell (i := 0) rfl
  have HC := Lib.hid (c_findNo t gi gh N l hash w h id (by omega) h1 hf)
  have hv : idxV l 0 = k := by unfold idxV; rw [hi]
  rw [hv] at HX
  have hk := (idx_is hi).1
  have hl : l.length = N := by have := h.good.li; simp at this; exact this
  have hN : 0 < N := by omega
  have hN0 : N ≠ 0 := by omega
  have hk2 : k < N := by omega
  have HH := Lib.hid h
  have HI := Lib.hid hi
  have hk3 : (0 : Int) ≤ (k : Int) + 1 := by omega
  clear h hv hi hk hl hf
  go_enter Try.func31, Try.ntmps31
  go_wp2_with fail
  refine HC.out.mono ?_
  rintro e w' ⟨p, rfl, hp, hfr, rfl⟩
  go_wp2_with fail
  refine HX.out.mono ?_
  rintro e w' ⟨rfl, rfl⟩
  have k1 := HH.out.head.cell (i := 1) rfl
  obtain ⟨H, hH⟩ : ∃ H, H = 2 * N + 1 := ⟨_, rfl⟩
  rw [← hH] at k1 hp
  have HFR := Lib.hid hfr
  have HHH := Lib.hid hH
  clear hfr hH
  go_wp2_with fail
  refine wp_region_planH (fun x => x.cell? ⟨t, 0, none⟩ = some (.slice (some ⟨gi, 0, none⟩) (N + 1) (N + 1)) ∧ x.cell? ⟨t, 1, none⟩ = some (.slice (some ⟨gh, 0, none⟩) H H)) [(0, true), (1, true), (2, true), (3, true), (4, true), (5, true), (6, true), (7, true), (8, true), (9, true), (10, true), (11, true), (12, true), (13, false), (14, true), (15, false)] (by kernel_rfl) (by kernel_rfl) (fun _ _ _ _ _ h => h) ⟨k0, k1⟩ ?_
  (repeat (refine wpPlanH_free rfl (fun K hK => ?_); go_simp; (try go_bits); refine hK _ ?_; clear hK K))
  refine wpPlanH_load (.slice (some ⟨gi, 0, none⟩) (N + 1) (N + 1)) rfl rfl (fun x hS => by obtain ⟨s0, s1⟩ := hS; go_simp) (fun K hK => ?_)
  refine hK _ ?_
  clear hK K
  (repeat (refine wpPlanH_free rfl (fun K hK => ?_); go_simp; (try go_bits); refine hK _ ?_; clear hK K))
  refine wpPlanH_load (.slice (some ⟨gh, 0, none⟩) H H) rfl rfl (fun x hS => by obtain ⟨s0, s1⟩ := hS; go_simp) (fun K hK => ?_)
  refine hK _ ?_
  clear hK K
  (repeat (refine wpPlanH_free rfl (fun K hK => ?_); go_simp; (try go_bits); refine hK _ ?_; clear hK K))
  refine wpPlanH_sole rfl ?_
  have hd : Row w t 84 [.slice (some ⟨gi, 0, none⟩) (N + 1) (N + 1), .slice (some ⟨gh, 0, none⟩) H H, .int .i64 (live l)] := by rw [HHH.out]; exact HH.out.head
  have kc0 := HH.out.ri.cell (getD_map8 (k := .i64) (show k + 1 < (0 :: l).length from by rw [HH.out.good.li]; omega))
  have kf0 := HH.out.ri.free (k + 1)
  go_wp2
  have n1 := HH.out.n1
  have n2 := HH.out.n2
  have n3 := HH.out.n3
  have hlh : p < hash.length := by rw [HH.out.good.lh, ← HHH.out]; exact hp
  obtain ⟨w1, hw1⟩ : ∃ x, x = (w.setCell ⟨gi, k + 1, none⟩ (.int .i64 id)).drew := ⟨_, rfl⟩
  rw [← hw1]
  have R1 : Row w1 t 84 [.slice (some ⟨gi, 0, none⟩) (N + 1) (N + 1), .slice (some ⟨gh, 0, none⟩) H H, .int .i64 (live l)] := by rw [hw1]; exact (hd.setOther (Ne.symm n1) _).drew
  have I1 : Row w1 gi 3 (((0 :: l).map (Value.int .i64)).set (k + 1) (.int .i64 id)) := by rw [hw1]; exact (HH.out.ri.set _ _).drew
  have A1 : Row w1 gh 3 (hash.map (Value.int .i64)) := by rw [hw1]; exact (HH.out.ra.setOther n3 _).drew
  have U1 : Upd [t, gi, gh] w w1 := by rw [hw1]; exact ((Upd.refl _ w).setCell (by simp) _).drew
  refine ⟨⟨R1.cell rfl, R1.cell rfl⟩, ?_⟩
  have kc1 := A1.cell (getD_map8 (k := .i64) hlh)
  have kf1 := A1.free p
  have hR1 := Lib.hid R1
  have hI1 := Lib.hid I1
  have hA1 := Lib.hid A1
  have hU1 := Lib.hid U1
  clear hw1 kc0 kf0 R1 I1 A1 U1 k0 k1 hd hlh
  (repeat (refine wpPlanH_free rfl (fun K hK => ?_); go_simp; (try go_bits); refine hK _ ?_; clear hK K))
  refine wpPlanH_sole rfl ?_
  go_wp2
  obtain ⟨w2, hw2⟩ : ∃ x, x = w1.setCell ⟨gh, p, none⟩ (.int .i64 ((k : Int) + 1)) := ⟨_, rfl⟩
  rw [← hw2]
  have R2 : Row w2 t 84 [.slice (some ⟨gi, 0, none⟩) (N + 1) (N + 1), .slice (some ⟨gh, 0, none⟩) H H, .int .i64 (live l)] := by rw [hw2]; exact hR1.out.setOther (Ne.symm n2) _
  have I2 : Row w2 gi 3 (((0 :: l).map (Value.int .i64)).set (k + 1) (.int .i64 id)) := by rw [hw2]; exact hI1.out.setOther (Ne.symm n3) _
  have A2 : Row w2 gh 3 ((hash.map (Value.int .i64)).set p (.int .i64 ((k : Int) + 1))) := by rw [hw2]; exact hA1.out.set _ _
  have U2 : Upd [t, gi, gh] w w2 := by rw [hw2]; exact hU1.out.setCell (by simp) _
  refine ⟨⟨R2.cell rfl, R2.cell rfl⟩, wpPlanH_nil ?_⟩
  have kc2 := R2.cell (i := 2) rfl
  have kf2 := R2.free 2
  have hlv : live l ≤ 16383 := by have := live_le l; have h2 := HH.out.good.li; simp at h2; omega
  have hset := Lib.hid (live_set l k id (by have h2 := HH.out.good.li; simp at h2; omega))
  have hR2 := Lib.hid R2
  have hI2 := Lib.hid I2
  have hA2 := Lib.hid A2
  have hU2 := Lib.hid U2
  obtain ⟨m, hm⟩ : ∃ m, m = live l := ⟨_, rfl⟩
  rw [← hm] at kc2 hlv
  have HM := Lib.hid hm
  clear hw2 kc1 kf1 R2 I2 A2 U2 hm
  go_wp2
  go_ret2
  have hz : l.getD k 0 = 0 := (idx_is HI.out).2.1
  have hl2 : live (l.set k id) = live l + 1 := by
    have := hset.out
    rw [if_pos hz, if_neg (by omega)] at this
    omega
  refine ⟨rfl, ⟨hash.set p ((k + 1 : Nat) : Int), ?_, ?_, ?_, ?_, hsm, n1, n2, n3⟩, hU2.out.setCell (by simp) _⟩
  · rw [hl2, ← HM.out, ← HHH.out]
    exact hR2.out.set 2 _
  · rw [← List.set_cons_succ, List.map_set]
    exact hI2.out.setOther n1 _
  · rw [List.map_set]
    exact hA2.out.setOther n2 _
  · rw [← List.set_cons_succ]
    exact HH.out.good.bound (by omega) h1 HFR.out (by omega) (by omega) (by rw [List.getD_cons_succ]; exact hz)

theorem c_Bind (t gi gh N : Nat) (l : List Int) (w : World) (h : Tab w t gi gh N l) (id : Int) (h1 : id ≤ 9223372036854775807) :
    Calls Try.prog 31 #[.pointer (some ⟨t, 0, none⟩), .int .i64 id] w (BindPost t gi gh N l id w) := by
  by_cases h0 : id < 1
  · have HH := Lib.hid h
    clear h
    go_enter Try.func31, Try.ntmps31
    go_wp2
    go_ret2
    unfold BindPost bindS bindE bindL
    rw [if_pos h0, if_pos h0, if_pos h0]
    exact ⟨rfl, HH.out, Upd.refl _ _⟩
  · obtain ⟨s, hs⟩ : ∃ s, find8 l id = s := ⟨_, rfl⟩
    have hid : 1 ≤ id := by omega
    by_cases hs0 : s = 0
    · subst hs0
      cases hi : idx l 0 with
      | some k =>
        refine (c_Bind4 t gi gh N l w h id hid h1 hs k hi).mono ?_
        rintro e w' ⟨rfl, h2, h3⟩
        unfold BindPost bindS bindE bindL
        rw [if_neg h0, if_neg h0, if_neg h0, hs]
        simp only [ne_eq, not_true_eq_false, if_false, hi]
        exact ⟨trivial, h2, h3⟩
      | none =>
        have hp : ∀ e w', e = Ending.returned (.tuple #[.int .i64 0, .int .i64 3]) ∧ w = w' → BindPost t gi gh N l id w e w' := by
          rintro e w' ⟨rfl, rfl⟩
          unfold BindPost bindS bindE bindL
          rw [if_neg h0, if_neg h0, if_neg h0, hs]
          simp only [ne_eq, not_true_eq_false, if_false, hi]
          exact ⟨rfl, h, Upd.refl _ _⟩
        refine Calls.mono (R := fun e w' => e = Ending.returned (.tuple #[.int .i64 0, .int .i64 3]) ∧ w = w') ?_ hp
        have hv : idxV l 0 = -1 := by unfold idxV; rw [hi]
        have HX := Lib.hid (c_IndexT t gi gh N l w h)
        rw [hv] at HX
        obtain ⟨hash, h⟩ := h
        have hsm := h.small
        have k0 := h.head.cell (i := 0) rfl
        have HC := Lib.hid (c_findNo t gi gh N l hash w h id (by omega) h1 hs)
        clear h hv hi hs hp h0
        by_cases hN : N = 0
        · subst hN
          have HZ := Lib.hid (c_IndexI (some ⟨gi, 0, none⟩) 0 0 [] 0 w rfl (Reads.empty (fun h => by cases h)) (by omega))
          go_enter Try.func31, Try.ntmps31
          go_wp2_with fail
          refine HC.out.mono ?_
          rintro e w' ⟨p, rfl, hp, hfr, rfl⟩
          clear hfr
          go_wp2_with fail
          refine HZ.out.mono ?_
          rintro e w' ⟨rfl, rfl⟩
          rw [show idxV [] 0 = -1 from rfl]
          go_wp2
          go_ret2
          exact ⟨rfl, rfl⟩
        · have hN1 : 0 < N := by omega
          go_enter Try.func31, Try.ntmps31
          go_wp2_with fail
          refine HC.out.mono ?_
          rintro e w' ⟨p, rfl, hp, hfr, rfl⟩
          clear hfr
          go_wp2_with fail
          refine HX.out.mono ?_
          rintro e w' ⟨rfl, rfl⟩
          go_wp2
          go_ret2
          exact ⟨rfl, rfl⟩
    · have hp : ∀ e w', e = Ending.returned (.tuple #[.int .i64 s, .int .i64 0]) ∧ w = w' → BindPost t gi gh N l id w e w' := by
        rintro e w' ⟨rfl, rfl⟩
        unfold BindPost bindS bindE bindL
        rw [if_neg h0, if_neg h0, if_neg h0, hs, if_pos hs0, if_pos hs0, if_pos hs0]
        exact ⟨rfl, h, Upd.refl _ _⟩
      refine Calls.mono (R := fun e w' => e = Ending.returned (.tuple #[.int .i64 s, .int .i64 0]) ∧ w = w') ?_ hp
      obtain ⟨hash, h⟩ := h
      have HC := Lib.hid (c_findYes t gi gh N l hash w h id (by omega) h1 s hs (by omega))
      have k1 := h.head.cell (i := 1) rfl
      have HA := Lib.hid h.ra
      have HL := Lib.hid h.good.lh
      have hsm := h.small
      obtain ⟨H, hH⟩ : ∃ H, H = 2 * N + 1 := ⟨_, rfl⟩
      rw [← hH] at k1 HC HL
      clear h hs h0 hH hp
      go_enter Try.func31, Try.ntmps31
      go_wp2_with (go_at_call 46; refine HC.out.mono ?_; rintro e w' ⟨k, rfl, hk, hf, rfl⟩; have kc := HA.out.cell (getD_map8 (k := .i64) (show k < hash.length from by rw [HL.out]; exact hk)); rw [hf] at kc; clear hf)
      go_ret2
      exact ⟨rfl, rfl⟩

end Go.Proofs.Ytbmenldopeplcaa
