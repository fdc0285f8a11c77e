/-
  The law WideDecode.
-/
import Derived.Test.YtdedidjobjdekaaWideR8
namespace Go.Proofs.Ytdedidjobjdekaa
open Go.RowKit Go.ChangeShapes Go.WideShapes Go.ChangeAt
set_option linter.unusedVariables false
set_option maxHeartbeats 400000

theorem r_Decode (a : Option Addr) (n c : Nat) (l : List Int) (w : World) (e0 : n = l.length) (h : Reads w a c (l.map (Value.int .u8))) (hb : Byt l) (hc : n ≤ c) (hm : n ≤ 100000) : Calls Try.prog 22 #[.slice a n c] w (DecPost l w) := by
  by_cases hn : n < 12
  · exact r_DecBad a n c l w e0 h hb hm hn
  · by_cases h8 : 0 ≤ getV l 8 ∧ getV l 8 ≤ 1000
    · by_cases h1 : decK l = 1
      · by_cases h3 : (n : Int) = 12 + 4 * getV l 8
        · exact r_Dec1 a n c l w e0 h hb hm (by omega) h1 h8 h3
        · exact r_DecSize a n c l w e0 h hb hm (by omega) (.inr ⟨fun _ => h3, fun h => absurd h1 h⟩)
      · by_cases h3 : (n : Int) = 12 + getV l 8
        · exact r_Dec2 a n c l w e0 h hb hm hc (by omega) h1 h8 h3
        · exact r_DecSize a n c l w e0 h hb hm (by omega) (.inr ⟨fun h => absurd h h1, fun _ => h3⟩)
    · exact r_DecSize a n c l w e0 h hb hm (by omega) (.inl h8)

/-- What came of decoding: an object that is told. -/
def decO (l : List Int) (o : ObjD) : Prop := if isObj l then o.cls = decC l ∧ o.kind = decK l ∧ o.W = decW l ∧ o.B = decB l else o = ObjD.nothing
def decErr (l : List Int) : Int := if isObj l then 0 else 5

theorem nothing_ok (w : World) : ObjD.nothing.ok w :=
  ⟨by unfold ObjD.nothing; dsimp only; omega, by unfold ObjD.nothing; dsimp only; omega, rfl, ⟨Nat.le_refl _, by unfold ObjD.nothing; dsimp only; omega⟩, Reads.nil w, fun x hx => by simp [ObjD.nothing] at hx, rfl, ⟨Nat.le_refl _, by unfold ObjD.nothing; dsimp only; omega⟩, Reads.nil w, Byt.nil⟩

theorem decPost_to {l : List Int} {w : World} {e : Ending} {w' : World} (h : DecPost l w e w') : ∃ o : ObjD, e = .returned (.tuple #[o.val, .int .i64 (decErr l)]) ∧ o.ok w' ∧ decO l o ∧ Below w.heap.size w w' := by
  obtain ⟨b, ⟨hi, o, rfl, ok, h1, h2, h3, h4⟩ | ⟨hi, rfl⟩⟩ := h
  · refine ⟨o, ?_, ok, ?_, b⟩
    · unfold decErr; rw [if_pos hi]
    · unfold decO; rw [if_pos hi]; exact ⟨h1, h2, h3, h4⟩
  · refine ⟨ObjD.nothing, ?_, nothing_ok w', ?_, b⟩
    · unfold decErr; rw [if_neg hi]
    · unfold decO; rw [if_neg hi]

theorem decO_same {l : List Int} {o p : ObjD} (h : decO l o) (k : decO l p) : o.cls = p.cls ∧ o.kind = p.kind ∧ o.W = p.W ∧ o.B = p.B := by
  unfold decO at h k
  by_cases hi : isObj l
  · rw [if_pos hi] at h k
    obtain ⟨h1, h2, h3, h4⟩ := h
    obtain ⟨k1, k2, k3, k4⟩ := k
    exact ⟨h1.trans k1.symm, h2.trans k2.symm, h3.trans k3.symm, h4.trans k4.symm⟩
  · rw [if_neg hi] at h k
    subst h; subst k
    exact ⟨rfl, rfl, rfl, rfl⟩

theorem decO_len {l : List Int} {o : ObjD} {w : World} (h : decO l o) (k : o.ok w) (hl : l.length ≤ 100000) : o.wn ≤ 100000 ∧ o.bn ≤ 100000 := by
  unfold decO at h
  by_cases hi : isObj l
  · rw [if_pos hi] at h
    obtain ⟨h1, h2, h3, h4⟩ := h
    rw [k.wl, k.bl, h3, h4]
    rcases hi.2.1.2 with ⟨_, h5, h6, _⟩ | ⟨_, h5, h6⟩
    · rw [h5]; exact ⟨by omega, by simp⟩
    · rw [h5]; exact ⟨by simp, by omega⟩
  · rw [if_neg hi] at h
    subst h
    exact ⟨Nat.zero_le _, Nat.zero_le _⟩

theorem law_WideDecode (a0 : Option Addr) (len0 cap0 : Nat) (z0 : List Int) (w : World) (w0 : Came .u8 w a0 len0 cap0 z0) : Calls Try.prog 6 #[.slice a0 len0 cap0] w fun e w' => e = .returned (.bool true) ∧ Below w.heap.size w w' := by
  obtain ⟨l, el, hc0, hm0, hr0, hw0⟩ := w0.reads
  have hl : Byt l := fun x hx => bounds_u8 (hw0 x hx)
  clear w0 hw0
  by_cases hbig : len0 > 6000
  · have q1 : ((6000 : Int) < len0) = True := eq_true (by omega)
    have q2 : ((len0 : Int) > 6000) = True := eq_true (by omega)
    clear el hc0 hm0 hr0 hl
    go_enter Try.func6, Try.ntmps6
    go_wp2_with fail
    refine (c_Known _).mono ?_
    rintro e w2 ⟨rfl, b2⟩
    have HB2 := Lib.hid b2
    clear b2
    go_wp2
    go_ret
    exact ⟨rfl, HB2.out⟩
  · have q1 : ((6000 : Int) < len0) = False := eq_false (by omega)
    have q2 : ((len0 : Int) > 6000) = False := eq_false (by omega)
    have HEL := Lib.hid el
    have HR := Lib.hid hr0
    have HL := Lib.hid hl
    have HD := Lib.hid (c_Decode a0 len0 cap0 l w el hr0 hl hc0 (by omega))
    have HN := Lib.hid (And.intro hc0 hbig)
    clear el hr0 hl hc0 hm0 hbig
    go_enter Try.func6, Try.ntmps6
    go_wp2_with fail
    refine HD.out.mono ?_
    clear HD
    rintro e w1 hp1
    obtain ⟨o, rfl, ok1, ho, b1⟩ := decPost_to hp1
    obtain ⟨E, hE⟩ : ∃ E, E = decErr l := ⟨_, rfl⟩
    rw [← hE]
    have HE := Lib.hid hE
    clear hE
    have hov : o.val = .agg #[.int .i64 o.cls, .int .i64 o.kind, .slice o.wa o.wn o.wc, .slice o.ba o.bn o.bc] := rfl
    rw [hov]
    have HOV := Lib.hid hov
    have hnl := decO_len ho ok1 (by have := HN.out.2; have := HEL.out; omega)
    have HNL := Lib.hid hnl
    have HO := Lib.hid ho
    obtain ⟨w2, hw2⟩ : ∃ z, z = (w1.alloc (.cells #[.int .i64 o.cls, .int .i64 o.kind, .slice o.wa o.wn o.wc, .slice o.ba o.bn o.bc] 25)) := ⟨_, rfl⟩
    have b2 : Below w1.heap.size w1 w2 := by rw [hw2]; exact (Below.refl _ w1).alloc (Nat.le_refl _) _
    have HOK := Lib.hid (ok1.below b2)
    have HB2 := Lib.hid (bNext b1 b2)
    obtain ⟨p, hp⟩ : ∃ p, p = w1.heap.size := ⟨_, rfl⟩
    have hrow : Row w2 p 25 [.int .i64 o.cls, .int .i64 o.kind, .slice o.wa o.wn o.wc, .slice o.ba o.bn o.bc] := by rw [hw2, hp]; exact Row.made w1 _ _
    have HROW := Lib.hid hrow
    have HD2 := Lib.hid (r_Decode a0 len0 cap0 l w2 HEL.out (HR.out.below HB2.out) HL.out HN.out.1 (by have := HN.out.2; omega))
    rw [hw2] at HD2
    have HW2 := Lib.hid hw2
    have HPP := Lib.hid hp
    clear hp1 ok1 ho hov hnl hw2 b2 b1 hp hrow
    go_wp2_with fail
    refine HD2.out.mono ?_
    clear HD2
    rw [← HW2.out]
    rintro e w3 hp3
    obtain ⟨y, rfl, ok3, hy, b3⟩ := decPost_to hp3
    rw [← HE.out, ← HPP.out]
    have hyv : y.val = .agg #[.int .i64 y.cls, .int .i64 y.kind, .slice y.wa y.wn y.wc, .slice y.ba y.bn y.bc] := rfl
    have HYV := Lib.hid hyv
    have hny := decO_len hy ok3 (by have := HN.out.2; have := HEL.out; omega)
    have HNY := Lib.hid hny
    have HSM := Lib.hid (decO_same HO.out hy)
    obtain ⟨w4, hw4⟩ : ∃ z, z = (w3.alloc (.cells #[.int .i64 y.cls, .int .i64 y.kind, .slice y.wa y.wn y.wc, .slice y.ba y.bn y.bc] 25)) := ⟨_, rfl⟩
    have b4 : Below w3.heap.size w3 w4 := by rw [hw4]; exact (Below.refl _ w3).alloc (Nat.le_refl _) _
    have b24 : Below w2.heap.size w2 w4 := bNext b3 b4
    have HOK4 := Lib.hid (HOK.out.below b24)
    have HOY4 := Lib.hid (ok3.below b4)
    have HB4 := Lib.hid (bNext HB2.out b24)
    obtain ⟨p2, hp2⟩ : ∃ p, p = w3.heap.size := ⟨_, rfl⟩
    have hrow4 : Row w4 p2 25 [.int .i64 y.cls, .int .i64 y.kind, .slice y.wa y.wn y.wc, .slice y.ba y.bn y.bc] := by rw [hw4, hp2]; exact Row.made w3 _ _
    have hrow5 : Row w4 p 25 [.int .i64 o.cls, .int .i64 o.kind, .slice o.wa o.wn o.wc, .slice o.ba o.bn o.bc] := (b24.block p HROW.out.lt).trans HROW.out
    have HS := Lib.hid (r_WSame o y w4 HOK4.out HOY4.out (by have := HNL.out; omega) (by have := HNY.out; omega))
    rw [HOV.out, HYV.out, decide_eq_true HSM.out, hw4] at HS
    have i0 := hrow4.cell (i := 0) rfl
    have i1 := hrow4.cell (i := 1) rfl
    have i2 := hrow4.cell (i := 2) rfl
    have i3 := hrow4.cell (i := 3) rfl
    have j0 := hrow5.cell (i := 0) rfl
    have j1 := hrow5.cell (i := 1) rfl
    have j2 := hrow5.cell (i := 2) rfl
    have j3 := hrow5.cell (i := 3) rfl
    rw [hw4] at j0 j1 j2 j3
    rw [hw4, hp2] at i0 i1 i2 i3
    rw [hyv]
    have HW4 := Lib.hid hw4
    clear hyv hny hw4 b4 b24 hp2 hrow4 hrow5 hp3 ok3 hy b3
    go_wp2_with fail
    refine HS.out.mono ?_
    rw [← HW4.out]
    rintro e w5 ⟨rfl, b5⟩
    have HB5 := Lib.hid (bNext HB4.out b5)
    clear b5 HS i0 i1 i2 i3 j0 j1 j2 j3
    go_wp2_with fail
    refine (c_Known _).mono ?_
    rintro e w6 ⟨rfl, b6⟩
    have HB6 := Lib.hid (bNext HB5.out b6)
    clear b6
    go_wp2
    go_ret
    exact ⟨rfl, HB6.out⟩

end Go.Proofs.Ytdedidjobjdekaa
