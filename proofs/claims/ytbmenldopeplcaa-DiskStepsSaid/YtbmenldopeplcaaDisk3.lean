/-
  What the laws of chapter 03 call besides: Spoil; a Clear that is refused; what the chapter's example fixes.
-/
import Derived.Test.YtbmenldopeplcaaDisk2
import Derived.Lib.SlBytesConst
namespace Go.Proofs.Ytbmenldopeplcaa
open Go.RowKit
set_option linter.unusedVariables false

set_option maxHeartbeats 400000

theorem c_Spoil (base g n c : Nat) (l : List Int) (w : World) (h : w.ownsRow base 5 1 (.slice (some ⟨g, 0, none⟩) n c) n (l.map (Value.int .u8))) (hn : n ≤ 1000000) :
    Calls Try.prog 17 #[.slice (some ⟨g, 0, none⟩) n c] w fun e w' => e = .returned (.tuple #[]) ∧ Upd [g] w w' := by
  have HO := Lib.hid h
  clear h
  go_enter Try.func17, Try.ntmps17
  go_wp2
  go_loopw [2] (fun i wr => ∃ (k : Nat) (m : List Int), k ≤ n ∧ i = .int .i64 k ∧ wr.ownsRow base 5 1 (.slice (some ⟨g, 0, none⟩) n c) n (m.map (Value.int .u8)) ∧ Upd [g] w wr) (fun i _ => n - (intOf i).toNat)
  case atStart => exact ⟨0, l, Nat.zero_le _, rfl, HO.out, Upd.refl _ _⟩
  case round =>
    obtain ⟨k, m, hk, rfl, hown, hup⟩ := hrel
    have HW := Lib.hid hown
    have HU := Lib.hid hup
    clear hown hup
    by_cases hlt : k < n
    · have hml : m.length = n := by have := HW.out.1; simpa using this
      have hc := HW.out.cellAt k (by omega)
      have hf := HW.out.frozenAt k
      rw [getD_map8 (by omega)] at hc
      have HS := Lib.hid (fun u => HW.out.stored k u)
      clear hml
      generalize m.getD k 0 = x at *
      go_wp2
      go_roundw
      case rel => exact ⟨k + 1, m.set k (bits .xor .u8 x 165), by omega, by go_num, by rw [List.map_set]; exact (HS.out _).1, HU.out.setCell (p := ⟨g, k, none⟩) (by simp) _⟩
      case measure => simp [intOf]; omega
    · go_wp2
      go_end0
      exact ⟨rfl, HU.out⟩

theorem c_SpoilNil (w : World) : Calls Try.prog 17 #[.slice none 0 0] w fun e w' => e = .returned (.tuple #[]) ∧ w = w' := by
  go_enter Try.func17, Try.ntmps17
  go_wp2
  go_rounds 1
  go_end0
  exact ⟨rfl, rfl⟩

theorem Reads.mark {w : World} {xs : List Value} {e : TypeId} {fz : Nat × Nat} {c b : Nat} (hb : b = w.heap.size) : Reads (w.alloc (.cells xs.toArray e fz)) (some ⟨b, 0, none⟩) c xs := by
  subst hb
  refine .inr ⟨_, rfl, fun i u hu => ?_⟩
  rw [add_flat, cell_of_row _ _ _ xs.toArray e fz (heap_alloc_new w _)]
  simpa using hu

theorem sector_splice {bs f : List Int} {n i : Nat} (hb : bs.length = 64 * n) (hi : i < n) (hf : f.length = 64) : sector (splice bs (64 * i) f) i = f := by
  apply List.ext_getElem?
  intro j
  by_cases hj : j < 64
  · rw [sector_get _ _ _ hj, splice_get _ _ _ (by omega), if_neg (by omega), if_pos (by omega), Nat.add_sub_cancel_left]
  · have h1 : (sector (splice bs (64 * i) f) i).length = 64 := sector_len (n := n) (by rw [length_splice _ _ _ (by omega)]; exact hb) hi
    rw [List.getElem?_eq_none (by omega), List.getElem?_eq_none (by omega)]

theorem sector_other {bs f : List Int} {n i j : Nat} (hb : bs.length = 64 * n) (hi : i < n) (hf : f.length = 64) (hj : j ≠ i) : sector (splice bs (64 * i) f) j = sector bs j := by
  apply List.ext_getElem?
  intro t
  by_cases ht : t < 64
  · rw [sector_get _ _ _ ht, sector_get _ _ _ ht, splice_get _ _ _ (by omega)]
    by_cases h1 : 64 * j + t < 64 * i
    · rw [if_pos h1]
    · rw [if_neg h1, if_neg (by omega)]
  · have l1 : (sector (splice bs (64 * i) f) j).length ≤ 64 := by simp [sector]; omega
    have l2 : (sector bs j).length ≤ 64 := by simp [sector]; omega
    rw [List.getElem?_eq_none (by omega), List.getElem?_eq_none (by omega)]

/-- A new disk. -/
def NewYes (n : Nat) (w : World) (e : Ending) (w' : World) : Prop :=
  ∃ d g, e = .returned (.tuple #[.pointer (some ⟨d, 0, none⟩), .int .i64 0]) ∧ w.heap.size ≤ d ∧ w.heap.size ≤ g ∧ DiskAt w' d g n 0 0 (List.replicate (64 * n) 0) ∧ Upd [] w w'

theorem c_NewYes (n : Nat) (w : World) (h : n ≤ 20000) : Calls Try.prog 14 #[.int .i64 n] w (NewYes n w) :=
  (c_New n w (by omega) (by omega)).mono fun e w' h1 => by
    unfold DiskNewPost at h1
    rw [if_neg (by omega), Int.toNat_natCast] at h1
    exact h1

theorem c_NewNo (k : Int) (w : World) (h0 : -9223372036854775808 ≤ k) (h1 : k ≤ 9223372036854775807) (h : k < 0 ∨ 20000 < k) : Calls Try.prog 14 #[.int .i64 k] w fun e w' => e = .returned (.tuple #[.pointer none, .int .i64 2]) ∧ w = w' :=
  (c_New k w h0 h1).mono fun e w' h1 => by
    unfold DiskNewPost at h1
    rwa [if_pos h] at h1

/-- What the call owns is at an address. -/
theorem owns_at {w : World} {base : Nat} {e : TypeId} {v : Value} {n : Nat} {xs : List Value} (h : w.ownsRow base e 1 v n xs) (hn : 0 < n) :
    ∃ g c, v = .slice (some ⟨g, 0, none⟩) n c ∧ base ≤ g ∧ g < w.heap.size ∧ n ≤ c ∧ ∀ i u, xs[i]? = some u → w.cell? ⟨g, i, none⟩ = some u := by
  rcases h.2 with ⟨_, rfl⟩ | ⟨g, cap, cur, rfl, hb, hg, hn, hm, hs, ht⟩
  · omega
  · refine ⟨g, cap, rfl, hb, (Array.getElem?_eq_some_iff.1 hg).1, hn, fun i u hu => ?_⟩
    have := h.cells (g := g) rfl i u hu
    rwa [add_flat, Nat.zero_add] at this

theorem c_known03 (w : World) : Calls Try.prog 13 #[] w fun e w' => e = .returned (.bool true) ∧ Below w.heap.size w w' := by
  have kc := fun (w : World) (C : Array Value) (n c : Nat) => Lib.run_convert_bytes_const (P := Try.prog) w 22 5 C n c Try.underlying22 Try.underlying5
  go_enter Try.func13, Try.ntmps13
  go_wp2_with fail
  refine (c_NewYes 2 _ (by omega)).mono ?_
  rintro e w1 ⟨d, g, rfl, hd, hg, D1, U1⟩
  have HD1 := Lib.hid D1
  have HU1 := Lib.hid U1
  clear D1 U1
  go_wp2_with fail
  refine (c_Write d g 2 0 0 _ _ (HD1.out.keep (l := []) ((Upd.refl _ _).alloc _) (by simp) (by simp)) (by omega) 1 (by omega) _ 1 1 [97] rfl (by unfold Byt; decide) (Reads.mark (xs := [.int .u8 97]) rfl) (by omega)).mono ?_
  rintro e w2 ⟨rfl, D2, U2⟩
  have HD2 := Lib.hid D2
  have HU2 := Lib.hid (((HU1.out.alloc (.cells #[.int .u8 97] 5 (1, 2))).mono (m := [d, g]) (by simp)).trans U2)
  clear D2 U2
  go_wp2_with fail
  refine (c_Read d g 2 0 1 _ _ HD2.out (by omega) 1 (by omega)).mono ?_
  rintro e w3 ⟨v, rfl, own, D3, U3⟩
  rw [sector_splice (n := 2) (by simp) (by omega) (filled_len (by simp))] at own
  obtain ⟨gv, cv, rfl, hgv, hgl, hcv, hcell⟩ := owns_at own (by omega)
  have cell0 := hcell 0 (.int .u8 97) rfl
  have cell1 := hcell 1 (.int .u8 0) rfl
  have HD3 := Lib.hid D3
  have HU3 := Lib.hid (HU2.out.trans (U3.mono (m := [d, g]) (by simp)))
  have HUsed := Lib.hid (c_Used _ _ _ _ _ _ _ HD3.out)
  rw [show usedN (splice (List.replicate (64 * 2) 0) (64 * 1) (filled [97])) 2 = 1 from by decide +kernel] at HUsed
  clear D3 U3 hcell own
  go_wp2_with (first
    | (go_at_call 18; refine (c_ReadNil 0 _).mono ?_; rintro e w' ⟨rfl, rfl⟩)
    | (go_at_call 22; refine HUsed.out.mono ?_; rintro e w' ⟨rfl, rfl⟩)
    | (go_at_call 21; refine (c_Len d g 2 1 1 _ _ HD3.out).mono ?_; rintro e w' ⟨rfl, rfl⟩))
  go_ret
  refine ⟨rfl, HU3.out.below (Nat.le_refl _) ?_⟩
  intro k hk
  simp at hk
  rcases hk with rfl | rfl <;> assumption

end Go.Proofs.Ytbmenldopeplcaa
