/-
  Contracts of package names: New, Slot, ID.
-/
import Derived.Test.YtbmenldopeplcaaNames
import Derived.Test.YtbmenldopeplcaaPlanT
namespace Go.Proofs.Ytbmenldopeplcaa
open Go.RowKit
set_option linter.unusedVariables false
set_option maxHeartbeats 1000000

/-- A new table, or none. -/
def NewPost (w : World) (k : Int) (e : Ending) (w' : World) : Prop :=
  if k < 0 ∨ 16383 < k then e = .returned (.tuple #[.pointer none, .int .i64 2]) ∧ w = w'
  else ∃ t gi gh, e = .returned (.tuple #[.pointer (some ⟨t, 0, none⟩), .int .i64 0]) ∧ w.heap.size ≤ t ∧ w.heap.size ≤ gi ∧ w.heap.size ≤ gh ∧ Tab w' t gi gh k.toNat (List.replicate k.toNat 0) ∧ Upd [] w w'

theorem live_zero (N : Nat) : live (List.replicate N 0) = 0 := by
  unfold live
  rw [List.length_eq_zero_iff, List.filter_eq_nil_iff]
  intro x hx
  rw [List.eq_of_mem_replicate hx]; simp

theorem new_table {w wB : World} {N gi gh : Nat} (hN : N ≤ 16383) (h1 : Row wB gi 3 (List.replicate (N + 1) (.int .i64 0))) (h2 : Row wB gh 3 (List.replicate (2 * N + 1) (.int .i64 0))) (h3 : gi ≠ gh) (h4 : w.heap.size ≤ gi) (h5 : w.heap.size ≤ gh) (u : Upd [] w wB) :
    let w' := wB.alloc (.cells #[.slice (some ⟨gi, 0, none⟩) (N + 1) (N + 1), .slice (some ⟨gh, 0, none⟩) (2 * N + 1) (2 * N + 1), .int .i64 0] 84)
    w.heap.size ≤ wB.heap.size ∧ Tab w' wB.heap.size gi gh N (List.replicate N 0) ∧ Upd [] w w' := by
  have l1 := h1.lt
  have l2 := h2.lt
  refine ⟨u.size, ⟨List.replicate (2 * N + 1) 0, ?_, ?_, ?_, ?_, hN, by omega, by omega, h3⟩, u.alloc _⟩
  · rw [live_zero]; exact Row.made _ _ _
  · rw [show (0 : Int) :: List.replicate N 0 = List.replicate (N + 1) 0 from rfl, List.map_replicate]; exact h1.alloc _
  · rw [List.map_replicate]; exact h2.alloc _
  · rw [show (0 : Int) :: List.replicate N 0 = List.replicate (N + 1) 0 from rfl]; exact Good.new N

theorem c_NewT (k : Int) (w : World) (h0 : -9223372036854775808 ≤ k) (h1 : k ≤ 9223372036854775807) : Calls Try.prog 29 #[.int .i64 k] w (NewPost w k) := by
  by_cases h : k < 0
  · go_enter Try.func29, Try.ntmps29
    go_wp2
    go_ret2
    unfold NewPost
    rw [if_pos (.inl h)]
    exact ⟨rfl, rfl⟩
  · by_cases h2 : 16383 < k
    · go_enter Try.func29, Try.ntmps29
      go_wp2
      go_ret2
      unfold NewPost
      rw [if_pos (.inr h2)]
      exact ⟨rfl, rfl⟩
    · obtain ⟨N, rfl⟩ := Int.eq_ofNat_of_zero_le (show 0 ≤ k from by omega)
      have hN : N ≤ 16383 := by omega
      go_enter Try.func29, Try.ntmps29
      go_wp2
      refine wp_region_tree (.free 0 (.free 1 (.free 3 (.free 4 (.free 5 (.two 2 6 (.sole 6 (.sole 7 (.sole 8 (.free 9 (.free 10 .fin))))) (.sole 2 (.sole 7 (.sole 8 (.free 9 (.free 10 .fin)))))))))))  (by kernel_rfl) (by kernel_rfl) (fun _ _ _ _ _ h => h) ?_
      (repeat (refine wpTree_free rfl (fun K hK => ?_); go_simp; (try go_bits); refine hK _ ?_; clear hK K))
      refine wpTree_two rfl rfl ?_ ?_
      · refine wpList_mk ?hw _ _ 45 rfl 3 (.int .i64 0) 8 Try.underlying45 inf_int rfl .i64 .i64 _ _ (N + 1) rfl rfl ?c1 ?c2 (by omega) (by unfold maxLen; omega) ?_
        case hw => go_simp
        case c1 => omega
        case c2 => omega
        intro w1 row1 upd1
        have l1 := row1.lt
        go_wp2
        refine wpTree_sole rfl ?_
        refine wpList_mk ?hw _ _ 45 rfl 3 (.int .i64 0) 8 Try.underlying45 inf_int rfl .i64 .i64 _ _ (2 * N + 1) rfl rfl ?c1 ?c2 (by omega) (by unfold maxLen; omega) ?_
        case hw => go_simp
        case c1 => omega
        case c2 => omega
        intro w2 row2 upd2
        have HT := Lib.hid (new_table (w := w) hN (row1.keep upd2 (by simp)) row2 (by show w.heap.size ≠ _; exact Nat.ne_of_lt l1) (Nat.le_refl _) (Nat.le_of_lt l1) ((Upd.refl [] w).drew.trans (upd1.trans upd2)))
        have HL := Lib.hid (Nat.le_of_lt l1)
        clear row1 upd1 row2 upd2 l1
        go_wp2
        refine wpTree_sole rfl ?_
        go_wp2
        refine wpTree_sole rfl ?_
        go_wp2
        (repeat (refine wpTree_free rfl (fun K hK => ?_); go_simp; (try go_bits); refine hK _ ?_; clear hK K))
        refine wpTree_fin ?_
        go_wp2
        go_ret2
        unfold NewPost
        rw [if_neg (by omega), Int.toNat_natCast]
        obtain ⟨h3, h4, h5⟩ := HT.out
        exact ⟨_, _, _, rfl, h3, Nat.le_refl _, HL.out, h4, h5⟩
      · refine wpList_mk ?hw _ _ 45 rfl 3 (.int .i64 0) 8 Try.underlying45 inf_int rfl .i64 .i64 _ _ (2 * N + 1) rfl rfl ?c1 ?c2 (by omega) (by unfold maxLen; omega) ?_
        case hw => go_simp
        case c1 => omega
        case c2 => omega
        intro w1 row1 upd1
        have l1 := row1.lt
        go_wp2
        refine wpTree_sole rfl ?_
        refine wpList_mk ?hw _ _ 45 rfl 3 (.int .i64 0) 8 Try.underlying45 inf_int rfl .i64 .i64 _ _ (N + 1) rfl rfl ?c1 ?c2 (by omega) (by unfold maxLen; omega) ?_
        case hw => go_simp
        case c1 => omega
        case c2 => omega
        intro w2 row2 upd2
        have HT := Lib.hid (new_table (w := w) hN row2 (row1.keep upd2 (by simp)) (by show _ ≠ w.heap.size; exact Nat.ne_of_gt l1) (Nat.le_of_lt l1) (Nat.le_refl _) ((Upd.refl [] w).drew.trans (upd1.trans upd2)))
        have HL := Lib.hid (Nat.le_of_lt l1)
        clear row1 upd1 row2 upd2 l1
        go_wp2
        refine wpTree_sole rfl ?_
        go_wp2
        refine wpTree_sole rfl ?_
        go_wp2
        (repeat (refine wpTree_free rfl (fun K hK => ?_); go_simp; (try go_bits); refine hK _ ?_; clear hK K))
        refine wpTree_fin ?_
        go_wp2
        go_ret2
        unfold NewPost
        rw [if_neg (by omega), Int.toNat_natCast]
        obtain ⟨h3, h4, h5⟩ := HT.out
        exact ⟨_, _, _, rfl, h3, HL.out, Nat.le_refl _, h4, h5⟩

/-- The slot of an id, 0: none. -/
def find8 (l : List Int) (id : Int) : Nat := if id < 1 then 0 else match idx l id with | some k => k + 1 | none => 0

theorem find8_of {l hash : List Int} {N : Nat} (g : Good N (0 :: l) hash) {id : Int} {s : Nat} (h0 : 0 < id) (hs0 : 0 < s) (hs : (0 :: l).getD s 0 = id) : find8 l id = s := by
  obtain ⟨k, rfl⟩ : ∃ k, s = k + 1 := ⟨s - 1, by omega⟩
  rw [List.getD_cons_succ] at hs
  have hk : k < l.length := by
    rcases Nat.lt_or_ge k l.length with h | h
    · exact h
    · rw [List.getD_eq_getElem?_getD, List.getElem?_eq_none h] at hs
      simp at hs; omega
  have : idx l id = some k := idx_some hk hs (fun j hj he => by
    have := g.diff (j + 1) (k + 1) (by rw [List.getD_cons_succ, List.getD_cons_succ, he, hs]) (by rw [List.getD_cons_succ, he]; omega)
    omega)
  unfold find8
  rw [if_neg (by omega), this]

theorem find8_none {l : List Int} {id : Int} (h : ∀ s, (0 :: l).getD s 0 ≠ id) : find8 l id = 0 := by
  unfold find8
  split
  · rfl
  · rw [idx_none (fun j hj => by have := h (j + 1); rwa [List.getD_cons_succ] at this)]

theorem c_findYes (t gi gh N : Nat) (l hash : List Int) (w : World) (h : TableAt w t gi gh N l hash) (id : Int) (h0 : 0 < id) (h1 : id ≤ 9223372036854775807) (s : Nat) (hs : find8 l id = s) (hs0 : 0 < s) :
    Calls Try.prog 46 #[.pointer (some ⟨t, 0, none⟩), .int .i64 id] w fun e w' => ∃ k : Nat, e = .returned (.tuple #[.int .i64 k, .bool true]) ∧ k < 2 * N + 1 ∧ hash.getD k 0 = s ∧ w = w' := by
  refine (c_find t gi gh N l hash w h id h0 h1).mono ?_
  rintro e w' ⟨k, hk, rfl, ⟨rfl, s', h2, h3, h4, h5⟩ | ⟨rfl, hf⟩⟩
  · have := find8_of h.good h0 h2 h5
    exact ⟨k, rfl, hk, by rw [h4]; omega, rfl⟩
  · have := find8_none hf.1
    omega

theorem c_findNo (t gi gh N : Nat) (l hash : List Int) (w : World) (h : TableAt w t gi gh N l hash) (id : Int) (h0 : 0 < id) (h1 : id ≤ 9223372036854775807) (hs : find8 l id = 0) :
    Calls Try.prog 46 #[.pointer (some ⟨t, 0, none⟩), .int .i64 id] w fun e w' => ∃ k : Nat, e = .returned (.tuple #[.int .i64 k, .bool false]) ∧ k < 2 * N + 1 ∧ Free8 N (0 :: l) hash id k ∧ w = w' := by
  refine (c_find t gi gh N l hash w h id h0 h1).mono ?_
  rintro e w' ⟨k, hk, rfl, ⟨rfl, s', h2, h3, h4, h5⟩ | ⟨rfl, hf⟩⟩
  · have := find8_of h.good h0 h2 h5
    omega
  · exact ⟨k, rfl, hk, hf, rfl⟩

theorem c_Slot (t gi gh N : Nat) (l : List Int) (w : World) (h : Tab w t gi gh N l) (id : Int) (h1 : id ≤ 9223372036854775807) :
    Calls Try.prog 32 #[.pointer (some ⟨t, 0, none⟩), .int .i64 id] w fun e w' => e = .returned (.tuple #[.int .i64 (find8 l id), .bool (find8 l id != 0)]) ∧ w = w' := by
  obtain ⟨hash, h⟩ := h
  by_cases h0 : id < 1
  · have hf : find8 l id = 0 := by unfold find8; rw [if_pos h0]
    rw [hf]
    clear h
    go_enter Try.func32, Try.ntmps32
    go_wp2
    go_ret2
    exact ⟨rfl, rfl⟩
  · obtain ⟨s, hs⟩ : ∃ s, find8 l id = s := ⟨_, rfl⟩
    rw [hs]
    have hid : 1 ≤ id := by omega
    by_cases hs0 : s = 0
    · subst hs0
      have HC := Lib.hid (c_findNo t gi gh N l hash w h id (by omega) h1 hs)
      clear h hs h0
      go_enter Try.func32, Try.ntmps32
      go_wp2_with (go_at_call 46; refine HC.out.mono ?_; rintro e w' ⟨k, rfl, hk, hf, rfl⟩)
      go_ret2
      exact ⟨rfl, rfl⟩
    · have HC := Lib.hid (c_findYes t gi gh N l hash w h id (by omega) h1 s hs (by omega))
      have k1 := h.head.cell (i := 1) rfl
      have HA := Lib.hid h.ra
      have HL := Lib.hid h.good.lh
      have hsm := h.small
      have hs1 : (s != 0) = true := by simpa using hs0
      rw [hs1]
      obtain ⟨H, hH⟩ : ∃ H, H = 2 * N + 1 := ⟨_, rfl⟩
      rw [← hH] at k1 HC HL
      clear h hs hs1 h0 hH
      go_enter Try.func32, Try.ntmps32
      go_wp2_with (go_at_call 46; refine HC.out.mono ?_; rintro e w' ⟨k, rfl, hk, hf, rfl⟩; have kc := HA.out.cell (getD_map8 (k := .i64) (show k < hash.length from by rw [HL.out]; exact hk)); rw [hf] at kc; clear hf)
      go_ret2
      exact ⟨rfl, rfl⟩

/-- Whether a slot is not free. -/
def has8 (l : List Int) (s : Int) : Bool := decide (1 ≤ s) && decide (s ≤ l.length) && (l.getD (s - 1).toNat 0 != 0)

set_option maxRecDepth 100000 in
theorem c_ID (t gi gh N : Nat) (l : List Int) (w : World) (h : Tab w t gi gh N l) (s : Int) (h0 : -9223372036854775808 ≤ s) (h1 : s ≤ 9223372036854775807) :
    Calls Try.prog 34 #[.pointer (some ⟨t, 0, none⟩), .int .i64 s] w fun e w' => e = .returned (.tuple #[.int .i64 (if has8 l s then l.getD (s - 1).toNat 0 else 0), .bool (has8 l s)]) ∧ w = w' := by
  obtain ⟨hash, h⟩ := h
  have k0 := h.head.cell (i := 0) rfl
  have hsm := h.small
  have hl : l.length = N := by have := h.good.li; simp at this; exact this
  by_cases hs : s < 1
  · have hf : has8 l s = false := by unfold has8; simp; omega
    rw [hf]
    clear h hl
    go_enter Try.func34, Try.ntmps34
    go_wp2
    go_ret2
    exact ⟨rfl, rfl⟩
  · obtain ⟨n, rfl⟩ := Int.eq_ofNat_of_zero_le (show 0 ≤ s from by omega)
    by_cases hn : (N : Int) < n
    · have hf : has8 l n = false := by unfold has8; simp; omega
      rw [hf]
      have hg : ((N : Int) + 1 ≤ n) := by omega
      clear h hl
      go_enter Try.func34, Try.ntmps34
      go_wp2
      go_ret2
      exact ⟨rfl, rfl⟩
    · obtain ⟨k, rfl⟩ : ∃ k, n = k + 1 := ⟨n - 1, by omega⟩
      have hk : k < l.length := by omega
      have kc := h.ri.cell (getD_map8 (k := .i64) (show k + 1 < (0 :: l).length from by simp; exact hk))
      rw [List.getD_cons_succ] at kc
      have hh : has8 l ((k + 1 : Nat) : Int) = (l.getD k 0 != 0) := by
        unfold has8
        have : (((k + 1 : Nat) : Int) - 1).toNat = k := by omega
        rw [this]
        have h3 : decide (1 ≤ ((k + 1 : Nat) : Int)) = true := by simp; omega
        have h4 : decide (((k + 1 : Nat) : Int) ≤ l.length) = true := by simp; omega
        rw [h3, h4]; rfl
      have hv : (((k + 1 : Nat) : Int) - 1).toNat = k := by omega
      rw [hh, hv]
      have h6 : k + 1 < N + 1 := by omega
      generalize l.getD k 0 = x at *
      clear h hl hh hv hk
      obtain ⟨m, hm⟩ : ∃ m, m = k + 1 := ⟨_, rfl⟩
      rw [← hm] at kc h6 hs hn h0 h1 ⊢
      clear hm
      by_cases hx : x = 0
      · subst hx
        go_enter Try.func34, Try.ntmps34
        go_wp2
        go_ret2
        exact ⟨rfl, rfl⟩
      · have hx1 : (x != 0) = true := by simpa using hx
        have hx2 : (x == 0) = false := by simpa using hx
        rw [hx1]
        clear hx1
        go_enter Try.func34, Try.ntmps34
        go_wp2
        go_ret2
        exact ⟨rfl, rfl⟩

end Go.Proofs.Ytbmenldopeplcaa
