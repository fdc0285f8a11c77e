/-
  Contracts of package wide: Decode of any bytes, Word, Same.
-/
import Derived.Test.YtdedidjobjdekaaWide8
namespace Go.Proofs.Ytdedidjobjdekaa
open Go.RowKit
set_option linter.unusedVariables false
set_option maxHeartbeats 400000

theorem c_Decode (a : Option Addr) (n c : Nat) (l : List Int) (w : World) (e0 : n = l.length) (h : Reads w a c (l.map (Value.int .u8))) (hb : Byt l) (hc : n ≤ c) (hm : n ≤ 100000) : Calls Try.prog 14 #[.slice a n c] w (DecPost l w) := by
  by_cases hn : n < 12
  · refine (c_DecShort a n c w hn).mono ?_
    rintro e w' ⟨rfl, b⟩
    exact ⟨b, .inr ⟨fun h => by have := h.1; omega, rfl⟩⟩
  · by_cases k1 : decK l = 1
    · exact c_Dec1 a n c l w e0 h hb (by omega) hc hm k1
    · by_cases k2 : decK l = 2
      · exact c_Dec2 a n c l w e0 h hb (by omega) hc hm k2
      · exact c_Dec0 a n c l w e0 h hb (by omega) hc hm k1 k2

instance (l : List Int) : Decidable (isObj l) := by unfold isObj; exact inferInstance
def wordE (l : List Int) (i : Int) : Int := if ¬ isObj l then 5 else if decK l ≠ 1 then 2 else if i < 0 ∨ i ≥ (decW l).length then 4 else 0
def wordV (l : List Int) (i : Int) : Int := if wordE l i = 0 then (decW l).getD i.toNat 0 else 0

theorem c_WWord (a : Option Addr) (n c : Nat) (l : List Int) (i : Int) (w : World) (e0 : n = l.length) (h : Reads w a c (l.map (Value.int .u8))) (hb : Byt l) (hc : n ≤ c) (hm : n ≤ 100000) : Calls Try.prog 17 #[.slice a n c, .int .i64 i] w fun e w' => e = .returned (.tuple #[.int .i64 (wordV l i), .int .i64 (wordE l i)]) ∧ Below w.heap.size w w' := by
  have HD := Lib.hid (c_Decode a n c l w e0 h hb hc hm)
  have HL := Lib.hid e0
  clear e0 h hb hc hm
  go_enter Try.func17, Try.ntmps17
  go_wp2_with fail
  refine HD.out.mono ?_
  clear HD
  rintro e w1 ⟨b1, ⟨hi, o, rfl, ok, h1, h2, h3, h4⟩ | ⟨hi, rfl⟩⟩
  · obtain ⟨cls, kind, wa, wn, wc, W, ba, bn, bc, B⟩ := o
    have hwl := ok.wl
    have hwr := ok.wr
    have hwm := ok.wm
    unfold ObjD.val
    dsimp only at h1 h2 h3 h4 hwl hwr hwm ⊢
    have HB := Lib.hid (Below.alloc b1 b1.size (.cells #[.int .i64 cls, .int .i64 kind, .slice wa wn wc, .slice ba bn bc] 25))
    have HR := Lib.hid (hwr.alloc (.cells #[.int .i64 cls, .int .i64 kind, .slice wa wn wc, .slice ba bn bc] 25))
    by_cases hk : kind = 1
    rotate_left
    · have HE : Hid (wordE l i = 2) := by
        unfold wordE
        rw [if_neg (by simpa using hi), if_pos (by rw [← h2]; exact hk)]
        exact rfl
      have HV : Hid (wordV l i = 0) := by unfold wordV; rw [HE.out]; rfl
      have q1 : (kind == 1) = false := by simp [hk]
      have q2 : (kind != 1) = true := by simp [hk]
      clear hi ok h1 h2 h3 h4 hwl hwr hwm b1 hk
      go_wp2
      go_ret2
      exact ⟨by rw [HE.out, HV.out]; rfl, HB.out⟩
    · by_cases hx : i < 0 ∨ i ≥ wn
      · have HE : Hid (wordE l i = 4) := by
          unfold wordE
          rw [if_neg (by simpa using hi), if_neg (by rw [← h2, hk]; simp), if_pos (by rw [← h3, ← hwl]; exact hx)]
          exact rfl
        have HV : Hid (wordV l i = 0) := by unfold wordV; rw [HE.out]; rfl
        subst hk
        clear hi ok h1 h2 h3 h4 hwl hwr hwm b1
        rcases hx with hx | hx
        · go_wp2
          go_ret2
          exact ⟨by rw [HE.out, HV.out]; rfl, HB.out⟩
        · have hx2 : (i < 0) = False := eq_false (by omega)
          go_wp2
          go_ret2
          exact ⟨by rw [HE.out, HV.out]; rfl, HB.out⟩
      · have hx0 : (i < 0) = False := eq_false (by omega)
        have hx1 : (i ≥ (wn : Int)) = False := eq_false (by omega)
        have hx2 : ((wn : Int) ≤ i) = False := eq_false (by omega)
        obtain ⟨k, rfl⟩ : ∃ k : Nat, i = k := ⟨i.toNat, by omega⟩
        have hkw : k < wn := by omega
        have HE : Hid (wordE l (k : Int) = 0) := by
          unfold wordE
          rw [if_neg (by simpa using hi), if_neg (by rw [← h2, hk]; simp), if_neg (by rw [← h3, ← hwl]; exact hx)]
          exact rfl
        have HV : Hid (wordV l (k : Int) = W.getD k 0) := by unfold wordV; rw [HE.out, if_pos rfl, ← h3]; rfl
        subst hk
        obtain ⟨b0, o0, rfl, _, hc0⟩ := HR.out.at (by simp; omega)
        have k0 := hc0 k _ (getD_map8 (by omega))
        clear hi ok h1 h2 h3 h4 hwl hwr b1 hc0 hx
        go_wp2
        go_ret2
        exact ⟨by rw [HE.out, HV.out]; rfl, HB.out⟩
  · dsimp only
    have HE : Hid (wordE l i = 5) := by
      unfold wordE
      rw [if_pos hi]
      exact rfl
    have HV : Hid (wordV l i = 0) := by unfold wordV; rw [HE.out]; rfl
    unfold ObjD.val ObjD.nothing
    have HB := Lib.hid (Below.alloc b1 b1.size (.cells #[.int .i64 0, .int .i64 0, .slice none 0 0, .slice none 0 0] 25))
    clear b1 hi
    go_wp2_with fail
    go_ret2
    exact ⟨by rw [HE.out, HV.out]; rfl, HB.out⟩

theorem c_WSame (a b : ObjD) (w : World) (ha : a.ok w) (hb : b.ok w) (m1 : a.wn ≤ 1000000000) (m2 : b.wn ≤ 1000000000) (m3 : a.bn ≤ 1000000000) (m4 : b.bn ≤ 1000000000) :
    Calls Try.prog 24 #[a.val, b.val] w fun e w' => e = .returned (.bool (decide (a.cls = b.cls ∧ a.kind = b.kind ∧ a.W = b.W ∧ a.B = b.B))) ∧ Below w.heap.size w w' := by
  obtain ⟨cls, kind, wa, wn, wc, W, ba, bn, bc, B⟩ := a
  obtain ⟨cls', kind', wa', wn', wc', W', ba', bn', bc', B'⟩ := b
  unfold ObjD.val
  dsimp only at m1 m2 m3 m4 ⊢
  obtain ⟨w2, hw2⟩ : ∃ z, z = ((w.alloc (.cells #[.int .i64 cls, .int .i64 kind, .slice wa wn wc, .slice ba bn bc] 25)).alloc (.cells #[.int .i64 cls', .int .i64 kind', .slice wa' wn' wc', .slice ba' bn' bc'] 25)) := ⟨_, rfl⟩
  have hbel : Below w.heap.size w w2 := by rw [hw2]; exact bAlloc ((Below.refl _ w).alloc (Nat.le_refl _) _)
  have ha2 := ha.below hbel
  have hb2 := hb.below hbel
  have HI := Lib.hid (c_EqualI wa wa' wn wn' wc wc' W W' w2 ha2.wl hb2.wl ha2.wr hb2.wr m1 m2)
  have HB := Lib.hid (fun wx (bx : Below w2.heap.size w2 wx) => c_EqualB ba ba' bn bn' bc bc' B B' wx ha2.bl hb2.bl (ha2.br.below bx) (hb2.br.below bx) m3 m4)
  have HBEL := Lib.hid hbel
  have r0 : Row w2 w.heap.size 25 [.int .i64 cls, .int .i64 kind, .slice wa wn wc, .slice ba bn bc] := by
    rw [hw2]
    exact (Row.made w [.int .i64 cls, .int .i64 kind, .slice wa wn wc, .slice ba bn bc] 25).alloc _
  have r1 : Row w2 (w.heap.size + 1) 25 [.int .i64 cls', .int .i64 kind', .slice wa' wn' wc', .slice ba' bn' bc'] := by
    rw [hw2]
    have := Row.made (w.alloc (.cells #[.int .i64 cls, .int .i64 kind, .slice wa wn wc, .slice ba bn bc] 25)) [.int .i64 cls', .int .i64 kind', .slice wa' wn' wc', .slice ba' bn' bc'] 25
    simpa using this
  have HR0 := Lib.hid r0
  have HR1 := Lib.hid r1
  clear r0 r1
  rw [hw2] at HI
  have HW2 := Lib.hid hw2
  clear hbel ha2 hb2 ha hb m1 m2 m3 m4 hw2
  have hd : ∀ p : Prop, ∀ (i : Decidable p), p → decide p = true := fun p i h => decide_eq_true h
  by_cases h1 : cls = cls'
  · subst h1
    by_cases h2 : kind = kind'
    · subst h2
      by_cases h3 : W = W'
      · subst h3
        rw [decide_eq_true rfl] at HI
        have hr : decide (cls = cls ∧ kind = kind ∧ W = W ∧ B = B') = decide (B = B') := by simp
        rw [hr]
        generalize decide (B = B') = q at *
        clear hr hd
        go_enter Try.func24, Try.ntmps24
        go_wp2_with fail
        refine HI.out.mono ?_
        rintro e w3 ⟨rfl, b3⟩
        rw [← HW2.out] at b3
        have HC := Lib.hid (HB.out w3 b3)
        have HB3 := Lib.hid (bNext HBEL.out b3)
        have R0 := (b3.block w.heap.size HR0.out.lt).trans HR0.out
        have R1 := (b3.block (w.heap.size + 1) HR1.out.lt).trans HR1.out
        have j0 := Row.cell R0 (i := 3) rfl
        have j1 := Row.cell R1 (i := 3) rfl
        clear b3 HI HB R0 R1
        go_wp2_with fail
        refine HC.out.mono ?_
        rintro e w4 ⟨rfl, b4⟩
        have HB4 := Lib.hid (bNext HB3.out b4)
        clear b4 HC
        go_wp2
        go_ret
        exact ⟨rfl, HB4.out⟩
      · rw [decide_eq_false h3] at HI
        have hr : decide (cls = cls ∧ kind = kind ∧ W = W' ∧ B = B') = false := decide_eq_false (fun h => h3 h.2.2.1)
        rw [hr]
        clear hr hd h3
        go_enter Try.func24, Try.ntmps24
        go_wp2_with fail
        refine HI.out.mono ?_
        rintro e w3 ⟨rfl, b3⟩
        rw [← HW2.out] at b3
        have HB3 := Lib.hid (bNext HBEL.out b3)
        clear b3 HI HB
        go_wp2
        go_ret
        exact ⟨rfl, HB3.out⟩
    · have hr : decide (cls = cls ∧ kind = kind' ∧ W = W' ∧ B = B') = false := decide_eq_false (fun h => h2 h.2.1)
      rw [hr]
      have q1 : (kind == kind') = false := by simp [h2]
      have HB2 := Lib.hid HBEL.out
      rw [HW2.out] at HB2
      clear hr hd h2 HI HB
      go_enter Try.func24, Try.ntmps24
      go_wp2
      go_ret
      exact ⟨rfl, HB2.out⟩
  · have hr : decide (cls = cls' ∧ kind = kind' ∧ W = W' ∧ B = B') = false := decide_eq_false (fun h => h1 h.1)
    rw [hr]
    have q1 : (cls == cls') = false := by simp [h1]
    have HB2 := Lib.hid HBEL.out
    rw [HW2.out] at HB2
    clear hr hd h1 HI HB
    go_enter Try.func24, Try.ntmps24
    go_wp2
    go_ret
    exact ⟨rfl, HB2.out⟩

def refsOf : List Int → List Int
  | [] => []
  | x :: l => (if namIs x then [namV x] else []) ++ refsOf l

theorem refsOf_append : ∀ (a b : List Int), refsOf (a ++ b) = refsOf a ++ refsOf b
  | [], b => rfl
  | x :: a, b => by simp only [List.cons_append, refsOf, refsOf_append a b, List.append_assoc]

theorem refsOf_take {l : List Int} {k : Nat} (h : k < l.length) : refsOf (l.take (k + 1)) = refsOf (l.take k) ++ (if namIs (l.getD k 0) then [namV (l.getD k 0)] else []) := by
  rw [List.take_add_one, List.getElem?_eq_getElem h, refsOf_append, List.getD_eq_getElem?_getD, List.getElem?_eq_getElem h]
  simp [refsOf]

theorem refsOf_len : ∀ l : List Int, (refsOf l).length ≤ l.length
  | [] => Nat.le_refl _
  | x :: l => by
    have := refsOf_len l
    simp only [refsOf, List.length_append, List.length_cons]
    split <;> simp <;> omega

end Go.Proofs.Ytdedidjobjdekaa
