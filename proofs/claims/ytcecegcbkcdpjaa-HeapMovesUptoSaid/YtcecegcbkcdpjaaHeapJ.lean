/-
  Contracts of package heap: Room.
-/
import Derived.Test.YtcecegcbkcdpjaaHeapI
namespace Go.Proofs.Ytcecegcbkcdpjaa
open Go.RowKit
set_option linter.unusedVariables false
set_option maxHeartbeats 4000000

theorem flat2_len : ∀ xs : List (Nat × Nat), (flat2 xs).length = xs.length * 2
  | [] => rfl
  | x :: xs => by
    have := flat2_len xs
    show ([Value.int .i64 (x.1 : Nat), .int .i64 (x.2 : Nat)] ++ flat2 xs).length = _
    rw [List.length_append, this]
    simp only [List.length_cons, List.length_nil]
    omega
theorem flat2_get : ∀ {xs : List (Nat × Nat)} {k : Nat} (h : k < xs.length), (flat2 xs)[k * 2]? = some (.int .i64 (xs[k].1 : Nat)) ∧ (flat2 xs)[k * 2 + 1]? = some (.int .i64 (xs[k].2 : Nat))
  | x :: xs, 0, h => ⟨rfl, rfl⟩
  | x :: xs, k + 1, h => by
    have ih := flat2_get (xs := xs) (k := k) (by simp at h; omega)
    have e : flat2 (x :: xs) = [Value.int .i64 (x.1 : Nat), .int .i64 (x.2 : Nat)] ++ flat2 xs := rfl
    rw [e, List.getElem?_append_right (by simp; omega), List.getElem?_append_right (by simp; omega), List.getElem_cons_succ]
    rw [show (k + 1) * 2 - [Value.int .i64 (x.1 : Nat), .int .i64 (x.2 : Nat)].length = k * 2 by simp; omega, show (k + 1) * 2 + 1 - [Value.int .i64 (x.1 : Nat), .int .i64 (x.2 : Nat)].length = k * 2 + 1 by simp; omega]
    exact ih
theorem gap_cells {w : World} {B : Nat} {v : Value} {gs : List (Nat × Nat)} (h : w.ownsRow B 43 2 v gs.length (flat2 gs)) {k : Nat} (hk : k < gs.length) :
    ∃ b c, v = .slice (some ⟨b, 0, none⟩) gs.length c ∧ w.cell? ⟨b, k * 2, none⟩ = some (.int .i64 (gs[k].1 : Nat)) ∧ w.cell? ⟨b, k * 2 + 1, none⟩ = some (.int .i64 (gs[k].2 : Nat)) := by
  rcases h.2 with ⟨_, h0⟩ | ⟨g, cap, cur, rfl, hb, hg, hn, hm, hs, ht⟩
  · omega
  · have hat := h.cells (g := g) rfl
    obtain ⟨g1, g2⟩ := flat2_get hk
    have h1 := hat _ _ g1
    have h2 := hat _ _ g2
    rw [add_flat, Nat.zero_add] at h1 h2
    exact ⟨g, cap, rfl, h1, h2⟩

theorem gapS_le {S : HpS} {a : List (Nat × Nat) × Nat} {k : Nat} (h : atOf S k + nOf S k ≤ S.N) (ha : a.2 ≤ S.N) (hg : ∀ g ∈ a.1, g.1 + g.2 ≤ S.N) : ∀ g ∈ (gapS S a k).1, g.1 + g.2 ≤ S.N := by
  unfold gapS
  split
  · split
    · intro g hgm
      simp only [List.mem_append, List.mem_singleton] at hgm
      rcases hgm with hgm | rfl
      · exact hg g hgm
      · simp only; omega
    · exact hg
  · exact hg
theorem gapsTo_le {S : HpS} {l : List Nat} (h : ∀ k ∈ l, atOf S k + nOf S k ≤ S.N) : ∀ j, j ≤ l.length → ∀ g ∈ (gapsTo S (l.take j)).1, g.1 + g.2 ≤ S.N
  | 0, _ => by simp [gapsTo]
  | j + 1, hj => by
    rw [gapsTo_step S (by omega)]
    exact gapS_le (h _ (List.getElem_mem _)) (gapsTo_end h j (by omega)) (gapsTo_le h j (by omega))
theorem gapsOf_le {S : HpS} {l : List Nat} (h : ∀ k ∈ l, atOf S k + nOf S k ≤ S.N) : ∀ g ∈ gapsOf S l, g.1 + g.2 ≤ S.N := by
  have h1 := gapsTo_le h l.length (Nat.le_refl _)
  have h2 := gapsTo_end h l.length (Nat.le_refl _)
  rw [List.take_length] at h1 h2
  unfold gapsOf
  split
  · intro g hg
    simp only [List.mem_append, List.mem_singleton] at hg
    rcases hg with hg | rfl
    · exact h1 g hg
    · simp only; omega
  · exact h1
theorem gapsOf_len (S : HpS) (l : List Nat) : (gapsOf S l).length ≤ l.length + 1 := by
  have h := gapsTo_len S l l.length (Nat.le_refl _)
  rw [List.take_length] at h
  unfold gapsOf
  split
  · simp; exact h
  · omega

def allOf (gs : List (Nat × Nat)) : Nat := gs.foldl (fun a g => a + g.2) 0
def mostOf (gs : List (Nat × Nat)) : Nat := gs.foldl (fun a g => max a g.2) 0
theorem allOf_step (gs : List (Nat × Nat)) {j : Nat} (h : j < gs.length) : allOf (gs.take (j + 1)) = allOf (gs.take j) + gs[j].2 := by
  unfold allOf
  rw [List.take_add_one, List.getElem?_eq_getElem h, Option.toList_some, List.foldl_append]
  rfl
theorem mostOf_step (gs : List (Nat × Nat)) {j : Nat} (h : j < gs.length) : mostOf (gs.take (j + 1)) = max (mostOf (gs.take j)) gs[j].2 := by
  unfold mostOf
  rw [List.take_add_one, List.getElem?_eq_getElem h, Option.toList_some, List.foldl_append]
  rfl
theorem allOf_le {N : Nat} (gs : List (Nat × Nat)) (h : ∀ g ∈ gs, g.1 + g.2 ≤ N) : ∀ j, j ≤ gs.length → allOf (gs.take j) ≤ j * N ∧ mostOf (gs.take j) ≤ N
  | 0, _ => by simp [allOf, mostOf]
  | j + 1, hj => by
    obtain ⟨h1, h2⟩ := allOf_le gs h j (by omega)
    have h3 := h _ (List.getElem_mem (show j < gs.length by omega))
    rw [allOf_step gs (by omega), mostOf_step gs (by omega)]
    rw [Nat.succ_mul]
    omega

theorem c_HRoom {w : World} {B h g : Nat} {vb : Value} {S : HpS} (H : HpAt w B h g vb S) {Q : List Nat → Prop} (hQ : OrdOk Q S) (hO : Ords Q w h) :
    Calls Try.prog 29 #[.pointer (some ⟨h, 0, none⟩)] w fun e w' => ∃ L, Q L ∧ e = .returned (.tuple #[.int .i64 (allOf (gapsOf S L) : Nat), .int .i64 (mostOf (gapsOf S L) : Nat)]) ∧ Below w.heap.size w w' := by
  have HG := Lib.hid (c_HGaps H hQ hO)
  have HF := Lib.hid hQ
  have hsm := H.small
  clear H hO hQ
  go_enter Try.func29, Try.ntmps29
  go_wp2_with fail
  refine HG.out.mono ?_
  clear HG
  rintro e w1 ⟨v, L, hq, rfl, ho, hb⟩
  have HB1 := Lib.hid hb
  have hle := gapsOf_le (HF.out.fit L hq)
  have hfw := HF.out.few L hq
  have hgl := gapsOf_len S L
  have HQL := Lib.hid hq
  obtain ⟨va, vc, rfl, -, -, -⟩ := owns_reads ho
  have HO := Lib.hid ho
  clear ho hb hq HF
  generalize hgs : gapsOf S L = gs at *
  have HGS := Lib.hid hgs
  clear hgs
  have HLE := Lib.hid (allOf_le gs hle)
  clear hle
  go_wp2
  go_loopw [4, 5, 13] (fun x y i wr => ∃ j : Nat, j ≤ gs.length ∧ i = .int .i64 j ∧ x = .int .i64 (allOf (gs.take j) : Nat) ∧ y = .int .i64 (mostOf (gs.take j) : Nat) ∧ Hid (Below w1.heap.size w1 wr)) (fun _ _ i _ => gs.length - (intOf i).toNat)
  case atStart => exact ⟨0, Nat.zero_le _, rfl, rfl, rfl, Below.refl _ _⟩
  case round =>
    obtain ⟨j, hj, rfl, rfl, rfl, HB⟩ := hrel
    obtain ⟨hl1, hl2⟩ := HLE.out j hj
    by_cases hlt : j < gs.length
    · obtain ⟨b, c, hv, c0, c1⟩ := gap_cells ((Upd.of_below (l := []) HB.out).ownsAbove HO.out (by simp)) hlt
      cases hv
      have hs1 := allOf_step gs hlt
      have hs2 := mostOf_step gs hlt
      have hl3 := (HLE.out (j + 1) (by omega)).2
      rw [hs2] at hl3
      have HS1 := Lib.hid hs1
      have HS2 := Lib.hid hs2
      have hl4 : j * S.N ≤ 1001 * 32768 := Nat.mul_le_mul (by omega) hsm
      have hbs := HB.out.size
      generalize gs[j].1 = s at *
      generalize gs[j].2 = n at *
      generalize allOf (gs.take j) = A at *
      generalize mostOf (gs.take j) = M at *
      clear hs1 hs2
      go_wp2_with fail
      go_region
      go_wp2
      refine ⟨⟨j + 1, by omega, by go_num, ?_, ?_, (HB.out.alloc hbs _).drew⟩, by simp [intOf]; omega⟩
      · rw [HS1.out]; exact congrArg (Value.int .i64) (by omega)
      · rw [HS2.out]; refine congrArg (Value.int .i64) ?_; split <;> omega
    · obtain rfl : j = gs.length := by omega
      rw [List.take_length]
      go_wp2
      go_ret2
      exact ⟨L, HQL.out, by rw [HGS.out]; rfl, bNext HB1.out HB.out⟩

end Go.Proofs.Ytcecegcbkcdpjaa
