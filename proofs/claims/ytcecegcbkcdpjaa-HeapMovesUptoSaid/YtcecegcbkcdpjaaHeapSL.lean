/-
  The law HeapMoves: rows that are told; a write of nothing.
-/
import Derived.Test.YtcecegcbkcdpjaaHeapSK
namespace Go.Proofs.Ytcecegcbkcdpjaa
open Go.RowKit
set_option linter.unusedVariables false
set_option maxHeartbeats 4000000
set_option maxRecDepth 100000

section
variable {w : World} {B h g : Nat} {vb : Value} {S : HpS}
theorem c_Write0 (H : HpAt w B h g vb S) (m : Nat) (hm : m < S.bl.length) (hu : S.bl[m].used = true) (i : Nat) (a : Option Addr) (c : Nat) (hi : i ≤ S.bl[m].n) (hsm : S.bl[m].n ≤ 32768) (hr : Reads w a c (([] : List Int).map (Value.int .i64))) :
    Calls Try.prog 34 #[.pointer (some ⟨h, 0, none⟩), .int .i64 m, .int .i64 i, .slice a 0 c] w fun e w' => e = .returned (.int .i64 0) ∧ w = w' := by
  have HC := Lib.hid (c_has H m)
  rw [hasB_is hm hu] at HC
  have HW := Lib.hid (c_WrContains a 0 c [] w rfl hr (by decide))
  rw [show badH [] = false from rfl] at HW
  have k1 := H.head.cell (i := 1) rfl
  obtain ⟨b, cb, hv, c0, c1, c2⟩ := blk_cells H.own hm
  subst hv
  clear H hu c0 c2 hr
  generalize S.bl[m].n = q at *
  have h0 : ¬ (q : Int) < (i : Int) := by omega
  have h1 : ¬ (q : Int) - (i : Int) < 0 := by omega
  go_enter Try.func34, Try.ntmps34
  go_wp2_with (first | (go_at_call 42; refine HC.out.mono ?_; rintro e w' ⟨rfl, rfl⟩) | (go_at_call 44; refine HW.out.mono ?_; rintro e w' ⟨rfl, rfl⟩))
  go_loopw [55] (fun i' wr => i' = .int .i64 0 ∧ wr = w) (fun _ _ => 0)
  case atStart => exact ⟨rfl, rfl⟩
  case round =>
    obtain ⟨rfl, rfl⟩ := hrel
    go_wp2
    go_ret
    exact ⟨rfl, rfl⟩

theorem y_Write2 (H : HI w B h g S) (k i : Int) (hi : i ≤ 9223372036854775807) (a : Option Addr) (n c : Nat) (l : List Int) (e0 : n = l.length) (hn : n ≤ 1000000) (hr : Reads w a c (l.map (Value.int .i64))) (hg : 0 < n → ∀ x, a = some x → x.block ≠ g) :
    Calls Try.prog 34 #[.pointer (some ⟨h, 0, none⟩), .int .i64 k, .int .i64 i, .slice a n c] w fun e w' => ∃ r S', e = .returned r ∧ HI w' B h g S' ∧ S'.bl.length ≤ S.bl.length + 1 ∧ S'.N = S.N ∧ HUpd B w w' := by
  by_cases hz : n = 0
  · subst hz
    have hl : l = [] := List.eq_nil_of_length_eq_zero e0.symm
    subst hl
    have hsame : ∀ (v : Value) (e : Ending) (w' : World), (e = .returned v ∧ w = w') → ∃ r S', e = .returned r ∧ HI w' B h g S' ∧ S'.bl.length ≤ S.bl.length + 1 ∧ S'.N = S.N ∧ HUpd B w w' := by
      rintro v e w' ⟨rfl, rfl⟩
      exact ⟨_, S, rfl, H, Nat.le_succ _, rfl, HUpd.refl _ _⟩
    obtain ⟨vb, hx⟩ := H.at_
    by_cases hk : hasB S k = true
    · obtain ⟨m, hm, rfl, hu⟩ := hasB_yes hk
      obtain ⟨hf, hN⟩ := H.blk hm hu
      by_cases h0 : i < 0
      · exact (c_WriteNo2 hx m hm hu i h0 a 0 c).mono (hsame _)
      · obtain ⟨t, rfl⟩ := Int.eq_ofNat_of_zero_le (show 0 ≤ i by omega)
        by_cases h1 : S.bl[m].n < t
        · exact (c_WriteNo3 hx m hm hu t (by omega) hi (by omega) a 0 c).mono (hsame _)
        · exact (c_Write0 hx m hm hu t a c (by omega) (by omega) hr).mono (hsame _)
    · exact (c_WriteNo1 hx k i (by simpa using hk) a 0 c).mono (hsame _)
  · exact y_Write H k i hi a n c l e0 hn hr (hg (by omega))

theorem y_Room (H : HI w B h g S) (hb : S.bl.length ≤ 900) : Calls Try.prog 29 #[.pointer (some ⟨h, 0, none⟩)] w fun e w' => ∃ L, OrdG S L ∧ e = .returned (.tuple #[.int .i64 (allOf (gapsOf S L) : Nat), .int .i64 (mostOf (gapsOf S L) : Nat)]) ∧ Below w.heap.size w w' := by
  obtain ⟨vb, hx⟩ := H.at_
  exact c_HRoom hx (H.ok (by omega)) H.ords
theorem y_Compact (H : HI w B h g S) (hb : S.bl.length ≤ 900) : Calls Try.prog 30 #[.pointer (some ⟨h, 0, none⟩)] w fun e w' => ∃ L, OrdG S L ∧ e = .returned (.int .i64 ((compTo S L).2.1 : Nat)) ∧ HX w' B h g (compTo S L).1 ∧ Moved S (compTo S L).1 L ∧ (compTo S L).2.1 ≤ L.length ∧ HUpd B w w' := by
  obtain ⟨vb, hx⟩ := H.at_
  have hws : S.ws.length = S.N := hx.len
  refine (c_Compact hx (Q := OrdG S) (fun L hL => ⟨(H.ok (by omega)).few L hL, compOk_of H.inv hL hws⟩) H.ords).mono ?_
  rintro e w' ⟨L, hL, rfl, hx', hu⟩
  obtain ⟨m1, m2⟩ := moved_of H.inv hL hws
  exact ⟨L, hL, rfl, ⟨vb, hx'⟩, m1, m2, hu⟩
theorem y_Blocks (H : HI w B h g S) : Calls Try.prog 32 #[.pointer (some ⟨h, 0, none⟩)] w fun e w' => ∃ v, e = .returned v ∧ w'.ownsRow w.heap.size 3 1 v (usedL S).length ((usedL S).map valN) ∧ Below w.heap.size w w' := by
  obtain ⟨vb, hx⟩ := H.at_
  have hb := c_HBlocks hx
  rw [usedTo_N, List.length_map, List.map_map] at hb
  exact hb
/-- A block in use, of whatever heap. -/
theorem y_Size (H : HI w B h g S) {k : Nat} (hk : k ∈ usedL S) : Calls Try.prog 33 #[.pointer (some ⟨h, 0, none⟩), .int .i64 k] w fun e w' => e = .returned (.int .i64 (nOf S k : Nat)) ∧ w = w' := by
  obtain ⟨vb, hx⟩ := H.at_
  obtain ⟨hm, hu⟩ := usd_lt (mem_used.1 hk)
  have := c_Size hx k hm hu
  rwa [(blk_of hm).2] at this
theorem y_At (H : HI w B h g S) {k : Nat} (hk : k ∈ usedL S) : Calls Try.prog 27 #[.pointer (some ⟨h, 0, none⟩), .int .i64 k] w fun e w' => e = .returned (.int .i64 (atOf S k : Nat)) ∧ w = w' := by
  obtain ⟨vb, hx⟩ := H.at_
  obtain ⟨hm, hu⟩ := usd_lt (mem_used.1 hk)
  have := c_At hx k hm hu
  rwa [(blk_of hm).1] at this
theorem y_Read (H : HI w B h g S) {k : Nat} (hk : k ∈ usedL S) (i : Nat) (hi : i < nOf S k) : Calls Try.prog 35 #[.pointer (some ⟨h, 0, none⟩), .int .i64 k, .int .i64 i] w fun e w' => e = .returned (.tuple #[.int .i64 (word S k i), .int .i64 0]) ∧ Below w.heap.size w w' := by
  obtain ⟨vb, hx⟩ := H.at_
  obtain ⟨hm, hu⟩ := usd_lt (mem_used.1 hk)
  have hf := H.inv.fit k hk
  have := c_Read hx k hm hu i (by rw [(blk_of hm).2]; exact hi) (by rw [(blk_of hm).1, (blk_of hm).2]; exact hf)
  rw [(blk_of hm).1] at this
  exact this
end

/-- Words of a block, the first k. -/
def wordsN (S : HpS) (u k : Nat) : List Value := (List.range k).map (fun i => Value.int .i64 (word S u i))
theorem wordsN_len (S : HpS) (u k : Nat) : (wordsN S u k).length = k := by simp [wordsN]
theorem wordsN_next (S : HpS) (u k : Nat) : wordsN S u (k + 1) = wordsN S u k ++ [.int .i64 (word S u k)] := by simp [wordsN, List.range_succ]
theorem wordsN_get (S : HpS) (u : Nat) {k i : Nat} (h : i < k) : (wordsN S u k)[i]? = some (.int .i64 (word S u i)) := by simp [wordsN, h]
structure Rw where
  a : Option Addr
  n : Nat
  c : Nat
def Rw.val (r : Rw) : Value := .slice r.a r.n r.c
/-- What was read of the first j blocks, and where they were. -/
structure WasAt (w : World) (B : Nat) (S : HpS) (U : List Nat) (j : Nat) (v9 v10 : Value) (rows : List Rw) : Prop where
  len : rows.length = j
  was : w.ownsRow B 39 1 v9 j (rows.map Rw.val)
  ats : w.ownsRow B 3 1 v10 j ((U.take j).map (fun k => Value.int .i64 (atOf S k : Nat)))
  row : ∀ t (ht : t < rows.length), w.ownsRow B 3 1 rows[t].val (nOf S (U.getD t 0)) (wordsN S (U.getD t 0) (nOf S (U.getD t 0))) ∧ rows[t].n = nOf S (U.getD t 0)
  ne : ∀ t (ht : t < rows.length), ∀ x, v10.ownBlock = some x → rows[t].val.ownBlock ≠ some x
theorem WasAt.below {w w' : World} {B : Nat} {S : HpS} {U : List Nat} {j : Nat} {v9 v10 : Value} {rows : List Rw} (h : WasAt w B S U j v9 v10 rows) (hb : Below w.heap.size w w') : WasAt w' B S U j v9 v10 rows := by
  have u := Upd.of_below (l := []) hb
  exact ⟨h.len, u.ownsAbove h.was (by simp), u.ownsAbove h.ats (by simp), fun t ht => ⟨u.ownsAbove (h.row t ht).1 (by simp), (h.row t ht).2⟩, h.ne⟩
theorem WasAt.hupd {w w' : World} {B B0 : Nat} {S : HpS} {U : List Nat} {j : Nat} {v9 v10 : Value} {rows : List Rw} (h : WasAt w B S U j v9 v10 rows) (u : HUpd B0 w w') : WasAt w' B S U j v9 v10 rows :=
  ⟨h.len, u.owns h.was (by decide), u.owns h.ats (by decide), fun t ht => ⟨u.owns (h.row t ht).1 (by decide), (h.row t ht).2⟩, h.ne⟩

end Go.Proofs.Ytcecegcbkcdpjaa
