/-
  What the laws of chapter 03 call besides: Spoil; a Clear that is refused; what the chapter's example fixes.
-/
import Derived.Test.YtpbokmmobepolaaDisk2
import Derived.Lib.SlBytesConst
namespace Go.Proofs.Ytpbokmmobepolaa
open Go.RowKit
set_option linter.unusedVariables false

set_option maxHeartbeats 400000

theorem Reads.mark {w : World} {xs : List Value} {e : TypeId} {fz : Nat × Nat} {c b : Nat} (hb : b = w.heap.size) : Reads (w.alloc (.cells xs.toArray e fz)) (some ⟨b, 0, none⟩) c xs := by
  subst hb
  refine .inr ⟨_, rfl, fun i u hu => ?_⟩
  rw [add_flat, cell_of_row _ _ _ xs.toArray e fz (heap_alloc_new w _)]
  simpa using hu

theorem sector_splice {bs f : List Int} {n i : Nat} (hb : bs.length = 64 * n) (hi : i < n) (hf : f.length = 64) : sector (splice bs (64 * i) f) i = f := by
  apply List.ext_getElem?
  intro j
  by_cases hj : j < 64
  · rw [sector_get _ _ _ hj, splice_get _ _ _ (by omega), if_neg (by omega), if_pos (by omega), Nat.add_sub_cancel_left]
  · have h1 : (sector (splice bs (64 * i) f) i).length = 64 := sector_len (n := n) (by rw [length_splice _ _ _ (by omega)]; exact hb) hi
    rw [List.getElem?_eq_none (by omega), List.getElem?_eq_none (by omega)]

theorem sector_other {bs f : List Int} {n i j : Nat} (hb : bs.length = 64 * n) (hi : i < n) (hf : f.length = 64) (hj : j ≠ i) : sector (splice bs (64 * i) f) j = sector bs j := by
  apply List.ext_getElem?
  intro t
  by_cases ht : t < 64
  · rw [sector_get _ _ _ ht, sector_get _ _ _ ht, splice_get _ _ _ (by omega)]
    by_cases h1 : 64 * j + t < 64 * i
    · rw [if_pos h1]
    · rw [if_neg h1, if_neg (by omega)]
  · have l1 : (sector (splice bs (64 * i) f) j).length ≤ 64 := by simp [sector]; omega
    have l2 : (sector bs j).length ≤ 64 := by simp [sector]; omega
    rw [List.getElem?_eq_none (by omega), List.getElem?_eq_none (by omega)]

/-- A new disk. -/
def NewYes (n : Nat) (w : World) (e : Ending) (w' : World) : Prop :=
  ∃ d g, e = .returned (.tuple #[.pointer (some ⟨d, 0, none⟩), .int .i64 0]) ∧ w.heap.size ≤ d ∧ w.heap.size ≤ g ∧ DiskAt w' d g n 0 0 (List.replicate (64 * n) 0) ∧ Upd [] w w'

theorem c_NewYes (n : Nat) (w : World) (h : n ≤ 20000) : Calls Try.prog 25 #[.int .i64 n] w (NewYes n w) :=
  (c_New n w (by omega) (by omega)).mono fun e w' h1 => by
    unfold DiskNewPost at h1
    rw [if_neg (by omega), Int.toNat_natCast] at h1
    exact h1

theorem c_NewNo (k : Int) (w : World) (h0 : -9223372036854775808 ≤ k) (h1 : k ≤ 9223372036854775807) (h : k < 0 ∨ 20000 < k) : Calls Try.prog 25 #[.int .i64 k] w fun e w' => e = .returned (.tuple #[.pointer none, .int .i64 2]) ∧ w = w' :=
  (c_New k w h0 h1).mono fun e w' h1 => by
    unfold DiskNewPost at h1
    rwa [if_pos h] at h1

/-- What the call owns is at an address. -/
theorem owns_at {w : World} {base : Nat} {e : TypeId} {v : Value} {n : Nat} {xs : List Value} (h : w.ownsRow base e 1 v n xs) (hn : 0 < n) :
    ∃ g c, v = .slice (some ⟨g, 0, none⟩) n c ∧ base ≤ g ∧ g < w.heap.size ∧ n ≤ c ∧ ∀ i u, xs[i]? = some u → w.cell? ⟨g, i, none⟩ = some u := by
  rcases h.2 with ⟨_, rfl⟩ | ⟨g, cap, cur, rfl, hb, hg, hn, hm, hs, ht⟩
  · omega
  · refine ⟨g, cap, rfl, hb, (Array.getElem?_eq_some_iff.1 hg).1, hn, fun i u hu => ?_⟩
    have := h.cells (g := g) rfl i u hu
    rwa [add_flat, Nat.zero_add] at this

end Go.Proofs.Ytpbokmmobepolaa
