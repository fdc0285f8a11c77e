/-
  The walk of the law NamesNew, and what the chapter's example fixes.
-/
import Derived.Test.YtbmenldopeplcaaNames5
namespace Go.Proofs.Ytbmenldopeplcaa
open Go.RowKit
set_option linter.unusedVariables false
set_option maxHeartbeats 2000000
set_option maxRecDepth 100000

theorem Tab.lt {w : World} {t gi gh N : Nat} {l : List Int} (h : Tab w t gi gh N l) : t < w.heap.size ∧ gi < w.heap.size ∧ gh < w.heap.size := by
  obtain ⟨hash, h⟩ := h
  exact ⟨h.head.lt, h.ri.lt, h.ra.lt⟩
theorem Tab.len {w : World} {t gi gh N : Nat} {l : List Int} (h : Tab w t gi gh N l) : l.length = N := by
  obtain ⟨hash, h⟩ := h
  have := h.good.li; simp at this; exact this
theorem Tab.small {w : World} {t gi gh N : Nat} {l : List Int} (h : Tab w t gi gh N l) : N ≤ 16383 := by
  obtain ⟨hash, h⟩ := h
  exact h.small
theorem Tab.alloc {w : World} {t gi gh N : Nat} {l : List Int} (h : Tab w t gi gh N l) (o : Obj) : Tab (w.alloc o) t gi gh N l := h.keep (m := []) ((Upd.refl _ _).alloc o) (by simp) (by simp) (by simp)
theorem Tab.below {w w' : World} {t gi gh N : Nat} {l : List Int} (h : Tab w t gi gh N l) (b : Below w.heap.size w w') : Tab w' t gi gh N l := h.keep (m := []) (.of_below b) (by simp) (by simp) (by simp)
theorem Tab.range {w : World} {t gi gh N : Nat} {l : List Int} (h : Tab w t gi gh N l) (k : Nat) : 0 ≤ l.getD k 0 ∧ l.getD k 0 ≤ 9223372036854775807 := by
  obtain ⟨hash, h⟩ := h
  have := h.good.pos (k + 1)
  rwa [List.getD_cons_succ] at this

theorem c_NewTYes (N : Nat) (w : World) (hN : N ≤ 16383) : Calls Try.prog 29 #[.int .i64 N] w fun e w' => ∃ t gi gh, e = .returned (.tuple #[.pointer (some ⟨t, 0, none⟩), .int .i64 0]) ∧ w.heap.size ≤ t ∧ w.heap.size ≤ gi ∧ w.heap.size ≤ gh ∧ Tab w' t gi gh N (List.replicate N 0) ∧ Upd [] w w' := by
  refine (c_NewT N w (by omega) (by omega)).mono ?_
  intro e w' h
  unfold NewPost at h
  rw [if_neg (by omega), Int.toNat_natCast] at h
  exact h

theorem c_NewTNo (k : Int) (w : World) (h0 : -9223372036854775808 ≤ k) (h1 : k ≤ 9223372036854775807) (hk : k < 0 ∨ 16383 < k) : Calls Try.prog 29 #[.int .i64 k] w fun e w' => e = .returned (.tuple #[.pointer none, .int .i64 2]) ∧ w = w' := by
  refine (c_NewT k w h0 h1).mono ?_
  intro e w' h
  unfold NewPost at h
  rw [if_pos hk] at h
  exact h

/-- One slot is freed, told by a row that is made for the call. -/
theorem c_Free1 (t gi gh N : Nat) (l : List Int) (w : World) (h : Tab w t gi gh N l) (s : Int) (h0 : -9223372036854775808 ≤ s) (h1 : s ≤ 9223372036854775807) (q : Nat) (hq : q = w.heap.size) :
    Calls Try.prog 33 #[.pointer (some ⟨t, 0, none⟩), .slice (some ⟨q, 0, none⟩) 1 1] (w.alloc (.cells #[.int .i64 s] 3)) (FreePost t gi gh N l [s] (w.alloc (.cells #[.int .i64 s] 3))) := by
  have hl := h.lt
  subst hq
  refine c_Free t gi gh N l _ (h.alloc _) _ 1 1 [s] rfl (Reads.made w [.int .i64 s] _ 1) (fun x hx => ?_) (fun x hx => ?_) (by omega) (by omega)
  · cases hx
    exact ⟨by show w.heap.size ≠ t; omega, by show w.heap.size ≠ gi; omega, by show w.heap.size ≠ gh; omega⟩
  · simp at hx; subst hx; exact ⟨h0, h1⟩

theorem ok1_iff {l : List Int} {s : Int} : FreeOk l [s] ↔ has8 l s = true := by
  unfold FreeOk
  simp

theorem c_Free1Yes (t gi gh N : Nat) (l : List Int) (w : World) (h : Tab w t gi gh N l) (s : Int) (h0 : -9223372036854775808 ≤ s) (h1 : s ≤ 9223372036854775807) (q : Nat) (hq : q = w.heap.size) (hs : has8 l s = true) :
    Calls Try.prog 33 #[.pointer (some ⟨t, 0, none⟩), .slice (some ⟨q, 0, none⟩) 1 1] (w.alloc (.cells #[.int .i64 s] 3)) fun e w' => e = .returned (.int .i64 0) ∧ Tab w' t gi gh N (l.set (s - 1).toNat 0) ∧ Upd [t, gi, gh] w w' := by
  refine (c_Free1 t gi gh N l w h s h0 h1 q hq).mono ?_
  rintro e w' (⟨h2, rfl, h3, h4⟩ | ⟨h2, _⟩)
  · exact ⟨rfl, h3, ((Upd.refl _ w).alloc _).trans h4⟩
  · exact absurd (ok1_iff.2 hs) h2

theorem c_Free1No (t gi gh N : Nat) (l : List Int) (w : World) (h : Tab w t gi gh N l) (s : Int) (h0 : -9223372036854775808 ≤ s) (h1 : s ≤ 9223372036854775807) (q : Nat) (hq : q = w.heap.size) (hs : has8 l s = false) :
    Calls Try.prog 33 #[.pointer (some ⟨t, 0, none⟩), .slice (some ⟨q, 0, none⟩) 1 1] (w.alloc (.cells #[.int .i64 s] 3)) fun e w' => e = .returned (.int .i64 4) ∧ w' = w.alloc (.cells #[.int .i64 s] 3) := by
  refine (c_Free1 t gi gh N l w h s h0 h1 q hq).mono ?_
  rintro e w' (⟨h2, _⟩ | ⟨h2, rfl, rfl⟩)
  · have := ok1_iff.1 h2
    rw [hs] at this; cases this
  · exact ⟨rfl, rfl⟩

/-- Bind, where what comes out is told. -/
theorem c_BindTo (t gi gh N : Nat) (l : List Int) (w : World) (h : Tab w t gi gh N l) (id : Int) (h1 : id ≤ 9223372036854775807) (s : Int) (x : Int) (l' : List Int) (hs : (bindS l id : Int) = s) (hx : bindE l id = x) (hl : bindL l id = l') :
    Calls Try.prog 31 #[.pointer (some ⟨t, 0, none⟩), .int .i64 id] w fun e w' => e = .returned (.tuple #[.int .i64 s, .int .i64 x]) ∧ Tab w' t gi gh N l' ∧ Upd [t, gi, gh] w w' := by
  subst hs; subst hx; subst hl
  exact c_Bind t gi gh N l w h id h1

theorem c_known08 (w : World) : Calls Try.prog 28 #[] w fun e w' => e = .returned (.bool true) ∧ Below w.heap.size w w' := by
  go_enter Try.func28, Try.ntmps28
  go_wp2_with fail
  refine (c_NewTYes 2 _ (by decide)).mono ?_
  rintro e w1 ⟨t, gi, gh, rfl, h1, h2, h3, T1, U1⟩
  have HIN := Lib.hid (show ∀ k ∈ [t, gi, gh], w.heap.size ≤ k from fun k hk => by simp at hk; rcases hk with rfl | rfl | rfl <;> assumption)
  have HT1 : Hid (Tab w1 t gi gh 2 [0, 0]) := T1
  have HU1 := Lib.hid (U1.mono (m := [t, gi, gh]) (by simp))
  clear T1 U1 h1 h2 h3
  go_wp2_with fail
  refine (c_BindTo t gi gh 2 _ _ HT1.out 70 (by decide) 1 0 [70, 0] (by decide) (by decide) (by decide)).mono ?_
  rintro e w2 ⟨rfl, T2, U2⟩
  have HT2 := Lib.hid T2
  have HU2 := Lib.hid (HU1.out.trans U2)
  clear T2 U2 HT1 HU1
  go_wp2_with fail
  refine (c_BindTo t gi gh 2 _ _ HT2.out 80 (by decide) 2 0 [70, 80] (by decide) (by decide) (by decide)).mono ?_
  rintro e w3 ⟨rfl, T3, U3⟩
  have HT3 := Lib.hid T3
  have HU3 := Lib.hid (HU2.out.trans U3)
  clear T3 U3 HT2 HU2
  go_wp2_with fail
  refine (c_BindTo t gi gh 2 _ _ HT3.out 70 (by decide) 1 0 [70, 80] (by decide) (by decide) (by decide)).mono ?_
  rintro e w4 ⟨rfl, T4, U4⟩
  have HT4 := Lib.hid T4
  have HU4 := Lib.hid (HU3.out.trans U4)
  clear T4 U4 HT3 HU3
  go_wp2_with fail
  refine (c_BindTo t gi gh 2 _ _ HT4.out 90 (by decide) 0 3 [70, 80] (by decide) (by decide) (by decide)).mono ?_
  rintro e w5 ⟨rfl, T5, U5⟩
  have HT5 := Lib.hid T5
  have HU5 := Lib.hid (HU4.out.trans U5)
  clear T5 U5 HT4 HU4
  go_wp2_with fail
  refine (c_Free1Yes t gi gh 2 _ _ HT5.out 1 (by decide) (by decide) _ rfl (by decide)).mono ?_
  rintro e w6 ⟨rfl, T6, U6⟩
  have HT6 : Hid (Tab w6 t gi gh 2 [0, 80]) := T6
  have HU6 := Lib.hid (HU5.out.trans U6)
  clear T6 U6 HT5 HU5
  go_wp2_with fail
  refine (c_BindTo t gi gh 2 _ _ HT6.out 90 (by decide) 1 0 [90, 80] (by decide) (by decide) (by decide)).mono ?_
  rintro e w7 ⟨rfl, T7, U7⟩
  have HB := Lib.hid ((HU6.out.trans U7).below (Nat.le_refl _) HIN.out)
  clear T7 U7 HT6 HU6
  go_wp2_with fail
  refine (c_FreeNil _ _ _ _).mono ?_
  rintro e w8 ⟨rfl, rfl⟩
  go_wp2
  go_ret
  exact ⟨rfl, bAlloc HB.out⟩

theorem zeros_getD (N i : Nat) : (List.replicate N (0 : Int)).getD i 0 = 0 := by
  rw [List.getD_eq_getElem?_getD, List.getElem?_replicate]; split <;> rfl

theorem find8_zeros (N : Nat) (id : Int) : find8 (List.replicate N 0) id = 0 := by
  unfold find8
  split
  · rfl
  · rw [idx_none (fun j _ => by rw [zeros_getD]; omega)]

theorem has8_zeros (N : Nat) (s : Int) : has8 (List.replicate N 0) s = false := by
  unfold has8
  rw [zeros_getD]; simp

theorem slotsTo_zeros (N : Nat) : ∀ k, slotsTo (List.replicate N 0) k = []
  | 0 => rfl
  | k + 1 => by rw [slotsTo_succ, slotsTo_zeros N k, zeros_getD]; rfl

theorem law_NamesNew (n id : Int) (w : World) (w0 : (Lit.int .i64 n).wf = true) (w1 : (Lit.int .i64 id).wf = true) :
    Calls Try.prog 12 #[.int .i64 n, .int .i64 id] w fun e w' => e = .returned (.bool true) ∧ Below w.heap.size w w' := by
  obtain ⟨b0, b1⟩ := bounds_i64 w0
  obtain ⟨b2, b3⟩ := bounds_i64 w1
  clear w0 w1
  by_cases hn : n < 0
  · go_enter Try.func12, Try.ntmps12
    go_wp2_with (first | (go_at_call 29; refine (c_NewTNo n _ b0 b1 (.inl hn)).mono ?_; rintro e w' ⟨rfl, rfl⟩) | (go_at_call 28; refine (c_known08 _).mono ?_; rintro e w' ⟨rfl, hbel⟩))
    go_ret
    exact ⟨rfl, hbel⟩
  · by_cases hn2 : 16383 < n
    · go_enter Try.func12, Try.ntmps12
      go_wp2_with (first | (go_at_call 29; refine (c_NewTNo n _ b0 b1 (.inr hn2)).mono ?_; rintro e w' ⟨rfl, rfl⟩) | (go_at_call 28; refine (c_known08 _).mono ?_; rintro e w' ⟨rfl, hbel⟩))
      go_ret
      exact ⟨rfl, hbel⟩
    · obtain ⟨N, rfl⟩ := Int.eq_ofNat_of_zero_le (show 0 ≤ n from by omega)
      have hN : N ≤ 16383 := by omega
      go_enter Try.func12, Try.ntmps12
      go_wp2_with fail
      refine (c_NewTYes N _ hN).mono ?_
      rintro e w1 ⟨t, gi, gh, rfl, h1, h2, h3, T1, U1⟩
      have HS := Lib.hid (c_Slot t gi gh N _ w1 T1 id b3)
      have HI := Lib.hid (c_ID t gi gh N _ w1 T1 id b2 b3)
      have HL := Lib.hid (c_LenT t gi gh N _ w1 T1)
      have HZ := Lib.hid (c_Size t gi gh N _ w1 T1)
      have HT1 := Lib.hid T1
      have HU1 := Lib.hid U1
      rw [find8_zeros] at HS
      rw [has8_zeros] at HI
      rw [live_zero] at HL
      clear T1 U1
      go_wp2_with (first
        | (go_at_call 32; refine HS.out.mono ?_; rintro e w' ⟨rfl, rfl⟩)
        | (go_at_call 34; refine HI.out.mono ?_; rintro e w' ⟨rfl, rfl⟩)
        | (go_at_call 30; refine HL.out.mono ?_; rintro e w' ⟨rfl, rfl⟩)
        | (go_at_call 41; refine HZ.out.mono ?_; rintro e w' ⟨rfl, rfl⟩))
      refine (c_Slots t gi gh N _ _ HT1.out).mono ?_
      rintro e w2 ⟨v, rfl, own, bel⟩
      unfold slotsL at own
      rw [slotsTo_zeros] at own
      obtain ⟨a, c, rfl, -, -, -⟩ := owns_reads own
      have HT2 := Lib.hid (HT1.out.below bel)
      have HU2 := Lib.hid (HU1.out.trans (.of_below bel))
      clear own bel
      go_wp2_with fail
      refine (c_Free1No t gi gh N _ _ HT2.out 1 (by decide) (by decide) _ rfl (has8_zeros _ _)).mono ?_
      rintro e w3 ⟨rfl, rfl⟩
      have HB := Lib.hid ((HU2.out.alloc (.cells #[.int .i64 1] 3)).below (Nat.le_refl _) (by simp))
      go_wp2_with fail
      refine (c_known08 _).mono ?_
      rintro e w4 ⟨rfl, bel⟩
      have HB2 := Lib.hid (bNext HB.out bel)
      clear bel
      go_wp2
      go_ret
      exact ⟨rfl, HB2.out⟩

end Go.Proofs.Ytbmenldopeplcaa
