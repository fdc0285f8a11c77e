/-
  A heap whose blocks are in order: all that is done to it, told plainly; what the chapter's example fixes.
-/
import Derived.Test.YtcecegcbkcdpjaaHeapO
namespace Go.Proofs.Ytcecegcbkcdpjaa
open Go.RowKit
set_option linter.unusedVariables false
set_option maxHeartbeats 4000000

def usedL (S : HpS) : List Nat := usedN S.bl S.bl.length
/-- The blocks are in order of places by their numbers, and few. -/
structure Good (S : HpS) : Prop where
  ord : InOrder S (usedL S)
  few : (usedL S).length ≤ 19
  fit : ∀ k ∈ usedL S, atOf S k + nOf S k ≤ S.N

def HX (w : World) (B h g : Nat) (S : HpS) : Prop := ∃ vb, HpAt w B h g vb S
theorem HX.below {w w' : World} {B h g : Nat} {S : HpS} (H : HX w B h g S) (hb : Below w.heap.size w w') : HX w' B h g S := by
  obtain ⟨vb, H⟩ := H; exact ⟨vb, H.below hb⟩

section
variable {w : World} {B h g : Nat} {vb : Value} {S : HpS}
theorem ords_in (H : HpAt w B h g vb S) (G : Good S) : Ords (fun L => L = usedL S) w h :=
  (c_HOrder H G.ord G.few).mono (fun e w' ⟨v, h1, h2, h3⟩ => ⟨v, _, rfl, h1, h2, h3⟩)
theorem ordOk_in (G : Good S) : OrdOk (fun L => L = usedL S) S :=
  ⟨fun L hL => by subst hL; have := G.few; omega, fun L hL => by subst hL; exact G.ord.lt, fun L hL => by subst hL; exact G.fit⟩

theorem x_HAlloc (H : HX w B h g S) (G : Good S) (n p : Nat) (hn : n ≤ 9223372036854775807) (hfew : S.bl.length < 1000000) (hp : placeI (gapsOf S (usedL S)) n = p) (k : Nat) (hk : freeIx S = k) :
    Calls Try.prog 26 #[.pointer (some ⟨h, 0, none⟩), .int .i64 n] w fun e w' => e = .returned (.tuple #[.int .i64 k, .int .i64 0]) ∧ HX w' B h g (allocS S p n) ∧ HUpd B w w' := by
  obtain ⟨vb, H⟩ := H
  refine (c_HAlloc H (ordOk_in G) (ords_in H G) n hn hfew).mono ?_
  rintro e w' ⟨L, rfl, hu, ⟨p', vb', hp', rfl, hx⟩ | ⟨hp', rfl, hx⟩⟩
  · rw [hp] at hp'
    obtain rfl : p = p' := by omega
    subst hk
    exact ⟨rfl, ⟨vb', hx⟩, hu⟩
  · rw [hp] at hp'; omega
theorem x_HAllocNo (H : HX w B h g S) (G : Good S) (n : Nat) (hn : n ≤ 9223372036854775807) (hfew : S.bl.length < 1000000) (hp : placeI (gapsOf S (usedL S)) n = -1) :
    Calls Try.prog 26 #[.pointer (some ⟨h, 0, none⟩), .int .i64 n] w fun e w' => e = .returned (.tuple #[.int .i64 0, .int .i64 3]) ∧ HX w' B h g S ∧ HUpd B w w' := by
  obtain ⟨vb, H⟩ := H
  refine (c_HAlloc H (ordOk_in G) (ords_in H G) n hn hfew).mono ?_
  rintro e w' ⟨L, rfl, hu, ⟨p', vb', hp', rfl, hx⟩ | ⟨hp', rfl, hx⟩⟩
  · rw [hp] at hp'; omega
  · exact ⟨rfl, ⟨vb, hx⟩, hu⟩
theorem x_HRoom (H : HX w B h g S) (G : Good S) : Calls Try.prog 29 #[.pointer (some ⟨h, 0, none⟩)] w fun e w' => e = .returned (.tuple #[.int .i64 (allOf (gapsOf S (usedL S)) : Nat), .int .i64 (mostOf (gapsOf S (usedL S)) : Nat)]) ∧ Below w.heap.size w w' := by
  obtain ⟨vb, H⟩ := H
  refine (c_HRoom H (ordOk_in G) (ords_in H G)).mono ?_
  rintro e w' ⟨L, rfl, rfl, hu⟩
  exact ⟨rfl, hu⟩
theorem x_Compact (H : HX w B h g S) (G : Good S) (hC : CompOk S (usedL S)) (m : Nat) (hm : (compTo S (usedL S)).2.1 = m) : Calls Try.prog 30 #[.pointer (some ⟨h, 0, none⟩)] w fun e w' => e = .returned (.int .i64 m) ∧ HX w' B h g (compTo S (usedL S)).1 ∧ HUpd B w w' := by
  subst hm
  obtain ⟨vb, H⟩ := H
  refine (c_Compact H (Q := fun L => L = usedL S) (fun L hL => by subst hL; exact ⟨by have := G.few; omega, hC⟩) (ords_in H G)).mono ?_
  rintro e w' ⟨L, rfl, rfl, hx, hu⟩
  exact ⟨rfl, ⟨vb, hx⟩, hu⟩
theorem x_Free (H : HX w B h g S) (m : Nat) (hm : m < S.bl.length) (hu : S.bl[m].used = true) : Calls Try.prog 28 #[.pointer (some ⟨h, 0, none⟩), .int .i64 m] w fun e w' => e = .returned (.int .i64 0) ∧ HX w' B h g (freeS S m) ∧ HUpd B w w' := by
  obtain ⟨vb, H⟩ := H
  refine (c_FreeYes H m hm hu).mono ?_
  rintro e w' ⟨rfl, hx, hu⟩
  exact ⟨rfl, ⟨vb, hx⟩, hu⟩
theorem x_At (H : HX w B h g S) (m : Nat) (hm : m < S.bl.length) (hu : S.bl[m].used = true) (p : Nat) (hp : S.bl[m].at_ = p) : Calls Try.prog 27 #[.pointer (some ⟨h, 0, none⟩), .int .i64 m] w fun e w' => e = .returned (.int .i64 p) ∧ w = w' := by
  obtain ⟨vb, H⟩ := H
  rw [← hp]
  exact c_At H m hm hu
theorem x_Size (H : HX w B h g S) (m : Nat) (hm : m < S.bl.length) (hu : S.bl[m].used = true) (p : Nat) (hp : S.bl[m].n = p) : Calls Try.prog 33 #[.pointer (some ⟨h, 0, none⟩), .int .i64 m] w fun e w' => e = .returned (.int .i64 p) ∧ w = w' := by
  obtain ⟨vb, H⟩ := H
  rw [← hp]
  exact c_Size H m hm hu
theorem x_New (N : Nat) (w : World) (hN : N ≤ 32768) : Calls Try.prog 25 #[.int .i64 N] w fun e w' => ∃ h g, e = .returned (.tuple #[.pointer (some ⟨h, 0, none⟩), .int .i64 0]) ∧ HX w' w.heap.size h g (newH N) ∧ HUpd w.heap.size w w' :=
  (c_HNew N w hN).mono (fun e w' ⟨h, g, h1, h2, _, h4⟩ => ⟨h, g, h1, ⟨_, h2⟩, .of_below h4⟩)
end
theorem c_FreeNil (k : Int) (w : World) : Calls Try.prog 28 #[.pointer none, .int .i64 k] w fun e w' => e = .returned (.int .i64 1) ∧ w = w' := by
  go_enter Try.func28, Try.ntmps28
  go_wp2
  go_ret
  exact ⟨rfl, rfl⟩

/-- The same, to be reckoned. -/
def goodB (S : HpS) : Bool :=
  (usedL S).all (fun k => decide (k < S.bl.length) && decide (atOf S k ≤ 32768) && decide (atOf S k + nOf S k ≤ S.N)) && decide ((usedL S).length ≤ 19) && (List.range (usedL S).length).all (fun t => decide ((usedL S).length ≤ t + 1) || decide (atOf S ((usedL S).getD t 0) ≤ atOf S ((usedL S).getD (t + 1) 0)))
theorem good_of {S : HpS} (h : goodB S = true) : Good S := by
  unfold goodB at h
  simp only [Bool.and_eq_true, List.all_eq_true, decide_eq_true_eq, Bool.or_eq_true, List.mem_range] at h
  obtain ⟨⟨h1, h2⟩, h3⟩ := h
  exact ⟨⟨fun k hk => (h1 k hk).1.1, fun k hk => (h1 k hk).1.2, fun t ht => by have := h3 t (by omega); omega⟩, h2, fun k hk => (h1 k hk).2⟩
def compB (S : HpS) (L : List Nat) : Bool := (List.range L.length).all fun j =>
  decide (L.getD j 0 < S.bl.length) && decide (atOf (compTo S (L.take j)).1 (L.getD j 0) + nOf (compTo S (L.take j)).1 (L.getD j 0) ≤ S.N) && (decide (nOf (compTo S (L.take j)).1 (L.getD j 0) = 0) || decide ((compTo S (L.take j)).2.2 ≤ atOf (compTo S (L.take j)).1 (L.getD j 0))) && decide ((compTo S (L.take j)).2.2 ≤ S.N)
theorem comp_of {S : HpS} {L : List Nat} (h : compB S L = true) : CompOk S L := by
  intro j hj
  unfold compB at h
  simp only [Bool.and_eq_true, List.all_eq_true, decide_eq_true_eq, Bool.or_eq_true, List.mem_range] at h
  have hg : L.getD j 0 = L[j] := by rw [List.getD_eq_getElem?_getD, List.getElem?_eq_getElem hj]; rfl
  have := h j hj
  rw [hg] at this
  obtain ⟨⟨⟨h1, h2⟩, h3⟩, h4⟩ := this
  exact ⟨h1, h2, fun h => by omega, h4⟩

def k07_0 : HpS := newH 10
def k07_1 : HpS := allocS k07_0 0 4
def k07_2 : HpS := allocS k07_1 4 4
def k07_3 : HpS := freeS k07_2 0
def k07_4 : HpS := (compTo k07_3 [1]).1
def k07_5 : HpS := allocS k07_4 4 5

theorem HUpd.belowB {B : Nat} {a b : World} (h : HUpd B a b) (hB : B ≤ a.heap.size) : Below B a b := by
  rcases h.below with h | h
  · exact h
  · omega

theorem c_known07 (w : World) : Calls Try.prog 31 #[] w fun e w' => e = .returned (.bool true) ∧ Below w.heap.size w w' := by
  go_enter Try.func31, Try.ntmps31
  go_wp2_with fail
  refine (x_New 10 w (by decide)).mono ?_
  rintro e w1 ⟨h, g, rfl, h1, u1⟩
  have H1 := Lib.hid (show HX w1 w.heap.size h g k07_0 from h1)
  have U1 := Lib.hid u1
  clear h1 u1
  go_wp2_with fail
  refine (x_HAlloc H1.out (good_of (by decide +kernel)) 4 0 (by decide) (by decide) (by decide +kernel) 0 (by decide +kernel)).mono ?_
  rintro e w2 ⟨rfl, h2, u2⟩
  rw [show allocS k07_0 0 4 = k07_1 by kernel_rfl] at h2
  have H2 := Lib.hid h2
  have U2 := Lib.hid (U1.out.trans u2)
  clear h2 u2 H1 U1
  go_wp2_with fail
  refine (x_HAlloc H2.out (good_of (by decide +kernel)) 4 4 (by decide) (by decide +kernel) (by decide +kernel) 1 (by decide +kernel)).mono ?_
  rintro e w3 ⟨rfl, h3, u3⟩
  rw [show allocS k07_1 4 4 = k07_2 by kernel_rfl] at h3
  have H3 := Lib.hid h3
  have U3 := Lib.hid (U2.out.trans u3)
  clear h3 u3 H2 U2
  go_wp2_with fail
  refine (x_Free H3.out 0 (by decide +kernel) (by decide +kernel)).mono ?_
  rintro e w4 ⟨rfl, h4, u4⟩
  rw [show freeS k07_2 0 = k07_3 by kernel_rfl] at h4
  have H4 := Lib.hid h4
  have U4 := Lib.hid (U3.out.trans u4)
  clear h4 u4 H3 U3
  go_wp2_with fail
  refine (x_HAllocNo H4.out (good_of (by decide +kernel)) 5 (by decide) (by decide +kernel) (by decide +kernel)).mono ?_
  rintro e w5 ⟨rfl, h5, u5⟩
  have H5 := Lib.hid h5
  have U5 := Lib.hid (U4.out.trans u5)
  clear h5 u5 H4 U4
  go_wp2_with fail
  refine (x_Compact H5.out (good_of (by decide +kernel)) (comp_of (by decide +kernel)) 1 (by decide +kernel)).mono ?_
  rintro e w6 ⟨rfl, h6, u6⟩
  rw [show (compTo k07_3 (usedL k07_3)).1 = k07_4 by kernel_rfl] at h6
  have H6 := Lib.hid h6
  have U6 := Lib.hid (U5.out.trans u6)
  clear h6 u6 H5 U5
  go_wp2_with fail
  refine (x_HAlloc H6.out (good_of (by decide +kernel)) 5 4 (by decide) (by decide +kernel) (by decide +kernel) 0 (by decide +kernel)).mono ?_
  rintro e w7 ⟨rfl, h7, u7⟩
  rw [show allocS k07_4 4 5 = k07_5 by kernel_rfl] at h7
  have H7 := Lib.hid h7
  have U7 := Lib.hid (U6.out.trans u7)
  clear h7 u7 H6 U6
  have HA0 : Hid (Calls Try.prog 27 #[.pointer (some ⟨h, 0, none⟩), .int .i64 0] w7 fun e w' => e = .returned (.int .i64 4) ∧ w7 = w') := (x_At H7.out 0 (by decide +kernel) (by decide +kernel) 4 (by decide +kernel))
  have HA1 : Hid (Calls Try.prog 27 #[.pointer (some ⟨h, 0, none⟩), .int .i64 1] w7 fun e w' => e = .returned (.int .i64 0) ∧ w7 = w') := (x_At H7.out 1 (by decide +kernel) (by decide +kernel) 0 (by decide +kernel))
  clear H7
  go_wp2_with fail
  refine HA0.out.mono ?_
  rintro e w' ⟨rfl, rfl⟩
  go_wp2_with fail
  refine HA1.out.mono ?_
  rintro e w' ⟨rfl, rfl⟩
  go_wp2_with fail
  refine (c_FreeNil 0 _).mono ?_
  rintro e w' ⟨rfl, rfl⟩
  go_wp2
  go_ret
  exact ⟨rfl, U7.out.belowB (Nat.le_refl _)⟩

end Go.Proofs.Ytcecegcbkcdpjaa
