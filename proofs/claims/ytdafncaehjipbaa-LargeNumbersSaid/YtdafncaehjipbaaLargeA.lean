/-
  Contracts of package large: cut, Right, digit.
-/
import Derived.Test.YtdafncaehjipbaaLargePlain3
import Derived.Test.YtdafncaehjipbaaOpen
namespace Go.Proofs.Ytdafncaehjipbaa
open Go.RowKit
set_option linter.unusedVariables false
set_option maxHeartbeats 400000
set_option maxRecDepth 20000

theorem inf_u8L : (Try.prog.info? 5).map (fun i => (i.zero, i.size, i.bytes)) = some (some (.int .u8 0), 1, 1) := by kernel_rfl

theorem take_bytL {l : List Int} (h : Byt l) (k : Nat) : Byt (l.take k) := fun x hx => h x (List.mem_of_mem_take hx)

theorem reads_preL {w : World} {a : Option Addr} {c : Nat} {xs : List Value} (h : Reads w a c xs) (k : Nat) : Reads w a c (xs.take k) := by
  rcases h with ⟨rfl, rfl, rfl⟩ | ⟨x, rfl, h⟩
  · exact .inl ⟨rfl, rfl, by simp⟩
  · refine .inr ⟨x, rfl, fun i u hu => h i u ?_⟩
    rw [List.getElem?_take] at hu
    split at hu
    · exact hu
    · cases hu

/-- The capacity of what is read does not matter. -/
theorem reads_cap {w : World} {a : Option Addr} {c : Nat} {xs : List Value} (h : Reads w a c xs) : Reads w a xs.length xs := by
  rcases h with ⟨rfl, rfl, rfl⟩ | ⟨x, rfl, h⟩
  · exact .inl ⟨rfl, rfl, rfl⟩
  · exact .inr ⟨x, rfl, h⟩

theorem digs_step {l : List Int} {k : Nat} (hb : Byt l) (hk : k < l.length) (h0 : l.getD k 0 = 0) : digs (valI (l.take k)) = digs (valI (l.take (k + 1))) := by
  have e : l.take (k + 1) = l.take k ++ [0] := by
    rw [List.take_add_one, ← h0, List.getD_eq_getElem?_getD, List.getElem?_eq_getElem hk]; rfl
  rw [e, digs_snoc0 (take_bytL hb k)]

theorem digs_stop {l : List Int} {k : Nat} (hb : Byt l) (hk : k < l.length) (h0 : l.getD k 0 ≠ 0) : digs (valI (l.take (k + 1))) = l.take (k + 1) := by
  refine digs_of (take_bytL hb _) (.inr ?_)
  have hl : (l.take (k + 1)).length = k + 1 := by rw [List.length_take]; omega
  rw [hl, List.getD_eq_getElem?_getD, List.getElem?_take, if_pos (by omega)]
  rwa [List.getD_eq_getElem?_getD] at h0

/-- The digits of a row's number are its first. -/
theorem digs_le {l : List Int} (hb : Byt l) : (digs (valI l)).length ≤ l.length := digs_len (valI_lt hb)

/-- A number, as a slice that reads. -/
def NumAt (w : World) (a : Option Addr) (k c N : Nat) : Prop := k = (digs N).length ∧ k ≤ c ∧ c ≤ 9223372036854775807 ∧ Reads w a c ((digs N).map (Value.int .u8))
def NumPost (w : World) (N : Nat) (e : Ending) (w' : World) : Prop := ∃ a k c, e = .returned (.slice a k c) ∧ NumAt w' a k c N ∧ (∀ x, a = some x → w.heap.size ≤ x.block) ∧ Below w.heap.size w w'
theorem NumAt.below {w w' : World} {a : Option Addr} {k c N : Nat} (h : NumAt w a k c N) (b : Below w.heap.size w w') : NumAt w' a k c N := ⟨h.1, h.2.1, h.2.2.1, h.2.2.2.below b⟩

theorem c_cut (a : Option Addr) (n c : Nat) (l : List Int) (w : World) (e0 : n = l.length) (h : Reads w a c (l.map (Value.int .u8))) (hb : Byt l) (hc : n ≤ c) (hm : n ≤ 1000000000) :
    Calls Try.prog 39 #[.slice a n c] w fun e w' => (∃ k, e = .returned (.slice a k k) ∧ NumAt w' a k k (valI l)) ∧ w = w' := by
  subst e0
  have HR := Lib.hid h
  have HB := Lib.hid hb
  clear h hb
  go_enter Try.func39, Try.ntmps39
  go_wp2
  go_step3
  go_wp2
  go_step3
  go_wp2
  go_loop [3] (fun i => ∃ k : Nat, k ≤ l.length ∧ i = .int .i64 k ∧ Hid (digs (valI (l.take k)) = digs (valI l))) (fun i => (intOf i).toNat)
  case atStart => exact ⟨l.length, Nat.le_refl _, rfl, by show _ = _; rw [List.take_of_length_le (Nat.le_refl _)]⟩
  case round =>
    obtain ⟨k, hk, rfl, hd⟩ := hrel
    by_cases hk0 : k = 0
    · subst hk0
      have hn : digs (valI l) = [] := by rw [← hd.out]; simp [valI, digs_0]
      have HN := Lib.hid (show NumAt w a 0 0 (valI l) from ⟨by rw [hn]; rfl, Nat.le_refl _, by omega, by
        rw [hn]
        have := reads_cap (reads_preL HR.out 0)
        simpa using this⟩)
      clear hn hd
      go_wp2
      go_ret
      exact ⟨⟨0, rfl, HN.out⟩, rfl⟩
    · obtain ⟨m, rfl⟩ : ∃ m, k = m + 1 := ⟨k - 1, by omega⟩
      obtain ⟨b0, o0, rfl, _, hc0⟩ := HR.out.at (by simp; omega)
      have k0 := hc0 m _ (getD_map8 (by omega))
      by_cases hx : l.getD m 0 = 0
      · have HD := Lib.hid (show digs (valI (l.take m)) = digs (valI l) from by rw [digs_step HB.out (by omega) hx]; exact hd.out)
        rw [hx] at k0
        clear hc0 hd hx
        go_wp2
        go_round
        case rel => exact ⟨m, by omega, by go_num, HD.out⟩
        case measure => simp [intOf]
      · have HX := Lib.hid (show digs (valI l) = l.take (m + 1) from by rw [← hd.out]; exact digs_stop HB.out (by omega) hx)
        have hq : (l.getD m 0 == 0) = false := by simpa using hx
        have HN := Lib.hid (show NumAt w (some ⟨b0, o0, none⟩) (m + 1) (m + 1) (valI l) from by
          have hlen : (l.take (m + 1)).length = m + 1 := by rw [List.length_take]; omega
          refine ⟨by rw [HX.out, hlen], Nat.le_refl _, by omega, ?_⟩
          rw [HX.out]
          have := reads_cap (reads_preL HR.out (m + 1))
          rw [← List.map_take] at this
          rw [List.length_map, hlen] at this
          exact this)
        clear hc0 hd hx
        generalize l.getD m 0 = x at *
        go_wp2
        go_ret
        exact ⟨⟨m + 1, rfl, HN.out⟩, rfl⟩

/-- Is it a number? -/
def rightB (l : List Int) : Bool := decide (l.length ≤ 400 ∧ (l = [] ∨ l.getD (l.length - 1) 0 ≠ 0))

theorem c_Right (a : Option Addr) (n c : Nat) (l : List Int) (w : World) (e0 : n = l.length) (h : Reads w a c (l.map (Value.int .u8))) (hm : n ≤ 1000000000000) :
    Calls Try.prog 18 #[.slice a n c] w fun e w' => e = .returned (.bool (rightB l)) ∧ w = w' := by
  subst e0
  by_cases h4 : l.length ≤ 400
  · by_cases h0 : l = []
    · have hr : rightB l = true := decide_eq_true ⟨h4, .inl h0⟩
      rw [hr]
      subst h0
      simp only [List.length_nil] at *
      clear h
      go_enter Try.func18, Try.ntmps18
      go_wp2
      go_ret
      exact ⟨rfl, rfl⟩
    · obtain ⟨m, hm1⟩ : ∃ m, l.length = m + 1 := ⟨l.length - 1, by have : l.length ≠ 0 := fun h => h0 (List.eq_nil_of_length_eq_zero h); omega⟩
      obtain ⟨b0, o0, rfl, _, hc0⟩ := h.at (by simp; omega)
      have k0 := hc0 m _ (getD_map8 (by omega))
      have hr : rightB l = !(l.getD m 0 == 0) := by
        unfold rightB
        rw [hm1, Nat.add_sub_cancel]
        by_cases hx : l.getD m 0 = 0
        · rw [hx]; exact decide_eq_false (by simp [h0])
        · have : (l.getD m 0 == 0) = false := by simpa using hx
          rw [this]; exact decide_eq_true ⟨by omega, .inr hx⟩
      rw [hr, hm1]
      rw [hm1] at h4
      clear hc0 h hr h0 hm1
      generalize l.getD m 0 = x at *
      by_cases hx : x = 0
      · subst hx
        go_enter Try.func18, Try.ntmps18
        go_wp2
        go_ret
        exact ⟨rfl, rfl⟩
      · have q1 : (x == 0) = false := by simpa using hx
        have q2 : (x != 0) = true := by simpa using hx
        rw [q1]
        go_enter Try.func18, Try.ntmps18
        go_wp2
        go_ret
        exact ⟨rfl, rfl⟩
  · have hr : rightB l = false := decide_eq_false (fun h => h4 h.1)
    rw [hr]
    have q1 : ((l.length : Int) ≤ 400) = False := eq_false (by omega)
    clear hr h
    go_enter Try.func18, Try.ntmps18
    go_wp2
    go_ret
    exact ⟨rfl, rfl⟩

theorem c_digit (a : Option Addr) (n c : Nat) (l : List Int) (i : Nat) (w : World) (e0 : n = l.length) (h : Reads w a c (l.map (Value.int .u8))) (hb : Byt l) (hm : n ≤ 1000000000) (hi : i ≤ 1000000000) :
    Calls Try.prog 49 #[.slice a n c, .int .i64 i] w fun e w' => e = .returned (.int .i64 (dg l i : Nat)) ∧ w = w' := by
  subst e0
  by_cases hl : i < l.length
  · obtain ⟨b0, o0, rfl, _, hc0⟩ := h.at (by simp; omega)
    have k0 := hc0 i _ (getD_map8 hl)
    have hx : 0 ≤ l.getD i 0 ∧ l.getD i 0 ≤ 255 := by
      rw [List.getD_eq_getElem?_getD, List.getElem?_eq_getElem hl]
      exact hb _ (List.getElem_mem hl)
    have hd : ((dg l i : Nat) : Int) = l.getD i 0 := by unfold dg; omega
    rw [hd]
    clear hc0 h hd hb
    generalize l.getD i 0 = x at *
    go_enter Try.func49, Try.ntmps49
    go_wp2
    go_ret
    exact ⟨rfl, rfl⟩
  · have hd : dg l i = 0 := dg_out (by omega)
    rw [hd]
    have q1 : ((i : Int) < (l.length : Int)) = False := eq_false (by omega)
    have q2 : (i < l.length) = False := eq_false (by omega)
    clear h hd hb
    go_enter Try.func49, Try.ntmps49
    go_wp2
    go_ret
    exact ⟨rfl, rfl⟩

end Go.Proofs.Ytdafncaehjipbaa
