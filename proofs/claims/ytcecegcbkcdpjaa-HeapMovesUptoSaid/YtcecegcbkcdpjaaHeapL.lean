/-
  What a heap's functions may change; Free, Write.
-/
import Derived.Test.YtcecegcbkcdpjaaHeapK
import Derived.Test.YtcecegcbkcdpjaaMem
namespace Go.Proofs.Ytcecegcbkcdpjaa
open Go.RowKit
set_option linter.unusedVariables false
set_option maxHeartbeats 4000000

/-- A type of rows that are a heap's own. -/
def Mine (t : TypeId) : Prop := t = 75 ∨ t = 56 ∨ t = 78
instance (t : TypeId) : Decidable (Mine t) := by unfold Mine; exact inferInstance
/-- Nothing but a heap's own rows, from B on, may have turned. -/
structure HUpd (B : Nat) (w w' : World) : Prop where
  os : w'.os = w.os
  tape : w'.tape = w.tape
  output : w'.output = w.output
  size : w.heap.size ≤ w'.heap.size
  block : ∀ k, k < w.heap.size → (k < B ∨ ∀ cs t r, w.heap[k]? = some (.cells cs t r) → ¬ Mine t) → w'.heap[k]? = w.heap[k]?
theorem HUpd.refl (B : Nat) (w : World) : HUpd B w w := ⟨rfl, rfl, rfl, Nat.le_refl _, fun _ _ _ => rfl⟩
theorem HUpd.trans {B : Nat} {a b c : World} (h : HUpd B a b) (k : HUpd B b c) : HUpd B a c :=
  ⟨k.os.trans h.os, k.tape.trans h.tape, k.output.trans h.output, Nat.le_trans h.size k.size, fun i hi hn => by
    have e := h.block i hi hn
    exact (k.block i (Nat.lt_of_lt_of_le hi h.size) (by rw [e]; exact hn)).trans e⟩
theorem HUpd.of_below {B : Nat} {a b : World} (h : Below a.heap.size a b) : HUpd B a b := ⟨h.os, h.tape, h.output, h.size, fun i hi _ => h.block i hi⟩
theorem HUpd.of_upd {B : Nat} {l : List Nat} {a b : World} (h : Upd l a b) (hl : ∀ g ∈ l, B ≤ g ∧ ∃ t xs, Row a g t xs ∧ Mine t) : HUpd B a b :=
  ⟨h.os, h.tape, h.output, h.size, fun i hi hn => h.block i hi (fun hm => by
    obtain ⟨h1, t, xs, h2, h3⟩ := hl i hm
    rcases hn with hn | hn
    · omega
    · exact hn _ _ _ h2 h3)⟩
theorem HUpd.below {B : Nat} {a b : World} (h : HUpd B a b) : Below B a b ∨ a.heap.size < B := by
  by_cases hB : B ≤ a.heap.size
  · exact .inl ⟨h.os, h.tape, h.output, h.size, fun i hi => h.block i (by omega) (.inl hi)⟩
  · exact .inr (by omega)
theorem HUpd.row {B : Nat} {w w' : World} (u : HUpd B w w') {g : Nat} {t : TypeId} {xs : List Value} (h : Row w g t xs) (ht : ¬ Mine t) : Row w' g t xs :=
  (u.block g h.lt (.inr (fun cs t' r h' => by rw [show w.heap[g]? = _ from h] at h'; cases h'; exact ht))).trans h
theorem HUpd.owns {B : Nat} {w w' : World} (u : HUpd B w w') {base : Nat} {e : TypeId} {size : Nat} {v : Value} {n : Nat} {xs : List Value} (h : w.ownsRow base e size v n xs) (ht : ¬ Mine e) : w'.ownsRow base e size v n xs := by
  refine ⟨h.1, ?_⟩
  rcases h.2 with h2 | ⟨g, cap, cur, rfl, hbg, hg, rest⟩
  · exact .inl h2
  · exact .inr ⟨g, cap, cur, rfl, hbg, (u.block g (Array.getElem?_eq_some_iff.1 hg).1 (.inr (fun cs t' r h' => by rw [hg] at h'; cases h'; exact ht))).trans hg, rest⟩

/-! ### Rows of blocks -/
theorem h_block {w : World} {base : Nat} {e : TypeId} {size : Nat} {v : Value} {n : Nat} {xs : List Value} (h : w.ownsRow base e size v n xs) (hn : 0 < n) :
    ∃ g c cur, v = .slice (some ⟨g, 0, none⟩) n c ∧ base ≤ g ∧ Row w g e cur ∧ cur.take (n * size) = xs ∧ n ≤ c ∧ c ≤ maxLen ∧ cur.length = c * size := by
  rcases h.2 with ⟨_, rfl⟩ | ⟨g, cap, cur, rfl, hb, hg, hnc, hm, hs, ht⟩
  · omega
  · exact ⟨g, cap, cur.toList, rfl, hb, by unfold Row; simpa using hg, by simpa using ht, hnc, hm, by simpa using hs⟩
theorem block_h {w : World} {base : Nat} {e : TypeId} {size : Nat} {n g c : Nat} {cur xs : List Value} (hb : base ≤ g) (hr : Row w g e cur) (ht : cur.take (n * size) = xs) (hn : n ≤ c) (hm : c ≤ maxLen) (hl : cur.length = c * size) :
    w.ownsRow base e size (.slice (some ⟨g, 0, none⟩) n c) n xs := by
  refine ⟨?_, .inr ⟨g, c, cur.toArray, rfl, hb, hr, hn, hm, by simpa using hl, by simpa using ht⟩⟩
  rw [← ht, List.length_take, hl]
  exact Nat.min_eq_left (Nat.mul_le_mul_right _ hn)
theorem flatB_set : ∀ (bl : List Blk) (m : Nat) (x : Blk), flatB (bl.set m x) = if m < bl.length then (((flatB bl).set (m * 3) (.int .i64 x.at_)).set (m * 3 + 1) (.int .i64 x.n)).set (m * 3 + 2) (.bool x.used) else flatB bl
  | [], m, x => by simp [flatB]
  | y :: bl, 0, x => by
    show x.row ++ flatB bl = _
    rw [if_pos (by simp)]
    rfl
  | y :: bl, m + 1, x => by
    have ih := flatB_set bl m x
    show y.row ++ flatB (bl.set m x) = _
    rw [ih]
    by_cases h : m < bl.length
    · rw [if_pos h, if_pos (by simp; exact h)]
      show _ = (((y.row ++ flatB bl).set ((m + 1) * 3) _).set ((m + 1) * 3 + 1) _).set ((m + 1) * 3 + 2) _
      have e : y.row.length = 3 := rfl
      have e0 : (m + 1) * 3 - y.row.length = m * 3 := by rw [e]; omega
      have e1 : (m + 1) * 3 + 1 - y.row.length = m * 3 + 1 := by rw [e]; omega
      have e2 : (m + 1) * 3 + 2 - y.row.length = m * 3 + 2 := by rw [e]; omega
      rw [List.set_append_right (h := by rw [e]; omega), e0, List.set_append_right (h := by rw [e]; omega), e1, List.set_append_right (h := by rw [e]; omega), e2]
    · rw [if_neg h, if_neg (by simp; omega)]
      rfl
theorem set_same {l : List Value} {i : Nat} {v : Value} (h : l[i]? = some v) : l.set i v = l := by
  apply List.ext_getElem?
  intro j
  rw [List.getElem?_set]
  split
  · next e => subst e; split <;> simp_all
  · rfl
theorem flatB_used {bl : List Blk} {m : Nat} (hm : m < bl.length) (u : Bool) : flatB (bl.set m { bl[m] with used := u }) = (flatB bl).set (m * 3 + 2) (.bool u) := by
  rw [flatB_set, if_pos hm]
  have h0 := flatB_get (j := 0) (List.getElem?_eq_getElem hm) rfl
  have h1 := flatB_get (j := 1) (List.getElem?_eq_getElem hm) rfl
  show (((flatB bl).set (m * 3 + 0) (.int .i64 bl[m].at_)).set (m * 3 + 1) (.int .i64 bl[m].n)).set (m * 3 + 2) (.bool u) = _
  rw [set_same h0, set_same h1]
theorem flatB_at {bl : List Blk} {m : Nat} (hm : m < bl.length) (p : Nat) : flatB (bl.set m { bl[m] with at_ := p }) = (flatB bl).set (m * 3) (.int .i64 p) := by
  rw [flatB_set, if_pos hm]
  have h1 := flatB_get (j := 1) (List.getElem?_eq_getElem hm) rfl
  have h2 := flatB_get (j := 2) (List.getElem?_eq_getElem hm) rfl
  have e : ((flatB bl).set (m * 3) (.int .i64 p))[m * 3 + 1]? = some (.int .i64 bl[m].n) := by
    rw [List.getElem?_set_ne (by omega)]; exact h1
  have e2 : ((flatB bl).set (m * 3) (.int .i64 p))[m * 3 + 2]? = some (.bool bl[m].used) := by
    rw [List.getElem?_set_ne (by omega)]; exact h2
  show (((flatB bl).set (m * 3) (.int .i64 p)).set (m * 3 + 1) (.int .i64 bl[m].n)).set (m * 3 + 2) (.bool bl[m].used) = _
  rw [set_same e, set_same e2]

theorem typ_ne {w : World} {g g' : Nat} {t t' : TypeId} {xs ys : List Value} (h : Row w g t xs) (h' : Row w g' t' ys) (hne : t ≠ t') : g ≠ g' := by
  rintro rfl
  unfold Row at h h'
  rw [h] at h'
  cases h'
  exact hne rfl

def freeS (S : HpS) (m : Nat) : HpS := if hm : m < S.bl.length then { S with bl := S.bl.set m { S.bl[m] with used := false } } else S

theorem c_FreeYes {w : World} {B h g : Nat} {vb : Value} {S : HpS} (H : HpAt w B h g vb S) (m : Nat) (hm : m < S.bl.length) (hu : S.bl[m].used = true) : Calls Try.prog 28 #[.pointer (some ⟨h, 0, none⟩), .int .i64 m] w fun e w' => e = .returned (.int .i64 0) ∧ HpAt w' B h g vb (freeS S m) ∧ HUpd B w w' := by
  have HC := Lib.hid (c_has H m)
  rw [hasB_is hm hu] at HC
  have k1 := H.head.cell (i := 1) rfl
  have HH := Lib.hid H
  obtain ⟨b, c, cur, hv, hb, hr, ht, hn, hc, hl⟩ := h_block H.own (by omega)
  subst hv
  have kf := hr.free (m * 3 + 2)
  have kl : m * 3 + 2 < cur.length := by rw [hl]; have := Nat.mul_le_mul_right 3 hn; omega
  have kc := hr.cell (i := m * 3 + 2) (v := cur[m * 3 + 2]) (by simp)
  have HR := Lib.hid hr
  have HT := Lib.hid ht
  have HL := Lib.hid hl
  clear H hu hr ht hl
  generalize cur[m * 3 + 2] = old at *
  go_enter Try.func28, Try.ntmps28
  go_wp2_with fail
  refine HC.out.mono ?_
  rintro e w' ⟨rfl, rfl⟩
  go_wp2
  go_ret
  refine ⟨rfl, ?_, ?_⟩
  · have n1 : b ≠ h := typ_ne HR.out HH.out.head (by decide)
    have n2 : b ≠ g := typ_ne HR.out HH.out.data (by decide)
    unfold freeS
    rw [dif_pos hm]
    refine ⟨HH.out.head.setOther n1 _, HH.out.data.setOther n2 _, ?_, HH.out.len, HH.out.small, by simp; exact HH.out.few, HH.out.lo, HH.out.word⟩
    simp only [List.length_set]
    rw [flatB_used hm]
    exact block_h hb (HR.out.set _ _) (by rw [List.take_set, HT.out]) hn hc (by rw [List.length_set]; exact HL.out)
  · exact .of_upd (l := [b]) ((Upd.refl _ _).setCell (by simp) _) (fun k hk => by simp at hk; subst hk; exact ⟨hb, _, _, HR.out, by decide⟩)

/-- May these words be written? -/
def wrFits (S : HpS) (m : Nat) (i : Int) (n : Nat) : Prop := ∃ hm : m < S.bl.length, S.bl[m].used = true ∧ 0 ≤ i ∧ i + n ≤ (S.bl[m].n : Int)

section
variable {w : World} {B h g : Nat} {vb : Value} {S : HpS}
theorem c_WriteNo1 (H : HpAt w B h g vb S) (k i : Int) (hk : hasB S k = false) (a : Option Addr) (n c : Nat) : Calls Try.prog 34 #[.pointer (some ⟨h, 0, none⟩), .int .i64 k, .int .i64 i, .slice a n c] w fun e w' => e = .returned (.int .i64 4) ∧ w = w' := by
  have HC := Lib.hid (c_has H k)
  rw [hk] at HC
  clear H hk
  go_enter Try.func34, Try.ntmps34
  go_wp2_with (go_at_call 42; refine HC.out.mono ?_; rintro e w' ⟨rfl, rfl⟩)
  go_ret
  exact ⟨rfl, rfl⟩
theorem c_WriteNo2 (H : HpAt w B h g vb S) (m : Nat) (hm : m < S.bl.length) (hu : S.bl[m].used = true) (i : Int) (hi : i < 0) (a : Option Addr) (n c : Nat) : Calls Try.prog 34 #[.pointer (some ⟨h, 0, none⟩), .int .i64 m, .int .i64 i, .slice a n c] w fun e w' => e = .returned (.int .i64 4) ∧ w = w' := by
  have HC := Lib.hid (c_has H m)
  rw [hasB_is hm hu] at HC
  clear H hu
  go_enter Try.func34, Try.ntmps34
  go_wp2_with (go_at_call 42; refine HC.out.mono ?_; rintro e w' ⟨rfl, rfl⟩)
  go_ret
  exact ⟨rfl, rfl⟩
theorem c_WriteNo3 (H : HpAt w B h g vb S) (m : Nat) (hm : m < S.bl.length) (hu : S.bl[m].used = true) (i : Int) (hi : 0 ≤ i) (hx : i ≤ 9223372036854775807) (hi2 : (S.bl[m].n : Int) < i) (a : Option Addr) (n c : Nat) : Calls Try.prog 34 #[.pointer (some ⟨h, 0, none⟩), .int .i64 m, .int .i64 i, .slice a n c] w fun e w' => e = .returned (.int .i64 4) ∧ w = w' := by
  have HC := Lib.hid (c_has H m)
  rw [hasB_is hm hu] at HC
  have k1 := H.head.cell (i := 1) rfl
  obtain ⟨b, cb, hv, c0, c1, c2⟩ := blk_cells H.own hm
  subst hv
  clear H hu c0 c2
  generalize S.bl[m].n = q at *
  have h0 : ¬ i < 0 := by omega
  go_enter Try.func34, Try.ntmps34
  go_wp2_with (go_at_call 42; refine HC.out.mono ?_; rintro e w' ⟨rfl, rfl⟩)
  go_ret
  exact ⟨rfl, rfl⟩
theorem c_WriteNo4 (H : HpAt w B h g vb S) (m : Nat) (hm : m < S.bl.length) (hu : S.bl[m].used = true) (hq : S.bl[m].n ≤ 32768) (i : Nat) (hi2 : i ≤ S.bl[m].n) (a : Option Addr) (n c : Nat) (hn : S.bl[m].n < i + n) (hx : n ≤ 1000000000) : Calls Try.prog 34 #[.pointer (some ⟨h, 0, none⟩), .int .i64 m, .int .i64 i, .slice a n c] w fun e w' => e = .returned (.int .i64 4) ∧ w = w' := by
  have HC := Lib.hid (c_has H m)
  rw [hasB_is hm hu] at HC
  have k1 := H.head.cell (i := 1) rfl
  obtain ⟨b, cb, hv, c0, c1, c2⟩ := blk_cells H.own hm
  subst hv
  clear H hu c0 c2
  generalize S.bl[m].n = q at *
  have h0 : ¬ (q : Int) < (i : Int) := by omega
  have h1 : (q : Int) - (i : Int) < (n : Int) := by omega
  go_enter Try.func34, Try.ntmps34
  go_wp2_with (go_at_call 42; refine HC.out.mono ?_; rintro e w' ⟨rfl, rfl⟩)
  go_ret
  exact ⟨rfl, rfl⟩
theorem c_WriteBad (H : HpAt w B h g vb S) (m : Nat) (hm : m < S.bl.length) (hu : S.bl[m].used = true) (hq : S.bl[m].n ≤ 32768) (i : Nat) (a : Option Addr) (n c : Nat) (l : List Int) (e0 : n = l.length) (hn : i + n ≤ S.bl[m].n) (hr : Reads w a c (l.map (Value.int .i64))) (hb : badH l = true) : Calls Try.prog 34 #[.pointer (some ⟨h, 0, none⟩), .int .i64 m, .int .i64 i, .slice a n c] w fun e w' => e = .returned (.int .i64 2) ∧ w = w' := by
  have HC := Lib.hid (c_has H m)
  rw [hasB_is hm hu] at HC
  have HW := Lib.hid (c_WrContains a n c l w e0 hr (by omega))
  rw [hb] at HW
  have k1 := H.head.cell (i := 1) rfl
  obtain ⟨b, cb, hv, c0, c1, c2⟩ := blk_cells H.own hm
  subst hv
  clear H hu c0 c2 hr hb e0
  generalize S.bl[m].n = q at *
  have h0 : ¬ (q : Int) < (i : Int) := by omega
  have h1 : ¬ (q : Int) - (i : Int) < (n : Int) := by omega
  go_enter Try.func34, Try.ntmps34
  go_wp2_with (first | (go_at_call 42; refine HC.out.mono ?_; rintro e w' ⟨rfl, rfl⟩) | (go_at_call 44; refine HW.out.mono ?_; rintro e w' ⟨rfl, rfl⟩))
  go_ret
  exact ⟨rfl, rfl⟩
end

end Go.Proofs.Ytcecegcbkcdpjaa
