/-
  Contracts of package large as laws use them; the laws' known.
-/
import Derived.Test.YtdafncaehjipbaaLargeK
namespace Go.Proofs.Ytdafncaehjipbaa
open Go.RowKit
set_option linter.unusedVariables false
set_option maxHeartbeats 2000000
set_option maxRecDepth 20000

/-- A row of bytes, as a slice that reads. -/
structure SlAt (w : World) (a : Option Addr) (n c : Nat) (l : List Int) : Prop where
  len : n = l.length
  rd : Reads w a c (l.map (Value.int .u8))
  byt : Byt l
  cap : n ≤ c
  max : c ≤ 9223372036854775807
theorem SlAt.below {w w' : World} {a : Option Addr} {n c : Nat} {l : List Int} (h : SlAt w a n c l) (b : Below w.heap.size w w') : SlAt w' a n c l := ⟨h.len, h.rd.below b, h.byt, h.cap, h.max⟩
theorem NumAt.sl {w : World} {a : Option Addr} {n c N : Nat} (h : NumAt w a n c N) : SlAt w a n c (digs N) := ⟨h.1, h.2.2.2, byt_digs N, h.2.1, h.2.2.1⟩
theorem SlAt.alloc {w : World} {a : Option Addr} {n c : Nat} {l : List Int} (h : SlAt w a n c l) (o : Obj) : SlAt (w.alloc o) a n c l := h.below ((Below.refl _ _).alloc (Nat.le_refl _) o)
theorem SlAt.nil (w : World) : SlAt w none 0 0 [] := ⟨rfl, Reads.nil w, Byt.nil, Nat.le_refl _, by omega⟩

theorem s_Same {a0 a1 : Option Addr} {n0 n1 c0 c1 : Nat} {l m : List Int} {w : World} (h0 : SlAt w a0 n0 c0 l) (h1 : SlAt w a1 n1 c1 m) :
    Calls Try.prog 16 #[.slice a0 n0 c0, .slice a1 n1 c1] w fun e w' => e = .returned (.bool (decide (l = m))) ∧ w = w' :=
  c_Same a0 a1 n0 n1 c0 c1 l m w h0.len h1.len h0.rd h1.rd h0.byt h1.byt
theorem s_Right {a : Option Addr} {n c : Nat} {l : List Int} {w : World} (h : SlAt w a n c l) (hm : n ≤ 1000000000000) :
    Calls Try.prog 18 #[.slice a n c] w fun e w' => e = .returned (.bool (rightB l)) ∧ w = w' := c_Right a n c l w h.len h.rd hm
theorem s_Cmp {a0 a1 : Option Addr} {n0 n1 c0 c1 : Nat} {l m : List Int} {w : World} (h0 : SlAt w a0 n0 c0 l) (h1 : SlAt w a1 n1 c1 m) (hm0 : n0 ≤ 100000) (hm1 : n1 ≤ 100000) :
    Calls Try.prog 17 #[.slice a0 n0 c0, .slice a1 n1 c1] w fun e w' => e = .returned (.int .i64 (cmpI (valI l) (valI m))) ∧ Below w.heap.size w w' :=
  c_Cmp a0 a1 n0 n1 c0 c1 l m w h0.len h1.len h0.rd h1.rd h0.byt h1.byt h0.cap h1.cap hm0 hm1
theorem s_Sub {a0 a1 : Option Addr} {n0 n1 c0 c1 : Nat} {l m : List Int} {w : World} (h0 : SlAt w a0 n0 c0 l) (h1 : SlAt w a1 n1 c1 m) (hm0 : n0 ≤ 100000) (hm1 : n1 ≤ 100000) :
    Calls Try.prog 14 #[.slice a0 n0 c0, .slice a1 n1 c1] w (ResPost w (subE l m) (valI l - valI m)) :=
  c_Sub a0 a1 n0 n1 c0 c1 l m w h0.len h1.len h0.rd h1.rd h0.byt h1.byt h0.cap h1.cap hm0 hm1
theorem s_Mul {a0 a1 : Option Addr} {n0 n1 c0 c1 : Nat} {l m : List Int} {w : World} (h0 : SlAt w a0 n0 c0 l) (h1 : SlAt w a1 n1 c1 m) (hm0 : n0 ≤ 100000) (hm1 : n1 ≤ 100000) :
    Calls Try.prog 26 #[.slice a0 n0 c0, .slice a1 n1 c1] w (ResPost w (mulE l m) (valI l * valI m)) :=
  c_Mul a0 a1 n0 n1 c0 c1 l m w h0.len h1.len h0.rd h1.rd h0.byt h1.byt hm0 hm1
theorem s_Div {a0 a1 : Option Addr} {n0 n1 c0 c1 : Nat} {l m : List Int} {w : World} (h0 : SlAt w a0 n0 c0 l) (h1 : SlAt w a1 n1 c1 m) (hm0 : n0 ≤ 100000) (hm1 : n1 ≤ 100000) :
    Calls Try.prog 19 #[.slice a0 n0 c0, .slice a1 n1 c1] w (DivPost w (divE l m) (valI l / valI m) (valI l % valI m)) :=
  c_Div a0 a1 n0 n1 c0 c1 l m w h0.len h1.len h0.rd h1.rd h0.byt h1.byt h1.cap hm0 hm1
theorem s_Text {a : Option Addr} {n c : Nat} {l : List Int} {w : World} (h : SlAt w a n c l) (hm : n ≤ 1000000000000) :
    Calls Try.prog 32 #[.slice a n c] w fun e w' => e = .returned (.string (str (textL l))) ∧ Below w.heap.size w w' := c_Text a n c l w h.len h.rd h.byt h.cap h.max hm

theorem sl_made (w : World) (l : List Int) (t : TypeId) (b n : Nat) (hb : b = w.heap.size) (hl : n = l.length) (hy : Byt l) (hm : n ≤ 1000000) : SlAt (w.alloc (.cells (l.map (Value.int .u8)).toArray t)) (some ⟨b, 0, none⟩) n n l :=
  ⟨hl, Reads.madeAt hb, hy, Nat.le_refl _, by omega⟩
theorem sl1 (w : World) (x : Int) (t : TypeId) (b : Nat) (hb : b = w.heap.size) (h : 0 ≤ x ∧ x ≤ 255) : SlAt (w.alloc (.cells #[.int .u8 x] t)) (some ⟨b, 0, none⟩) 1 1 [x] :=
  sl_made w [x] t b 1 hb rfl (Byt.nil.cons h) (by omega)
theorem sl2 (w : World) (x y : Int) (t : TypeId) (b : Nat) (hb : b = w.heap.size) (h : 0 ≤ x ∧ x ≤ 255) (h2 : 0 ≤ y ∧ y ≤ 255) : SlAt (w.alloc (.cells #[.int .u8 x, .int .u8 y] t)) (some ⟨b, 0, none⟩) 2 2 [x, y] :=
  sl_made w [x, y] t b 2 hb rfl ((Byt.nil.cons h2).cons h) (by omega)

theorem k258 : digs 258 = [2, 1] := by
  have := digs_of (l := [2, 1]) ((Byt.nil.cons (by omega)).cons (by omega)) (.inr (by decide))
  rwa [show valI [2, 1] = 258 from by decide] at this
theorem k65025 : digs 65025 = [1, 254] := by
  have := digs_of (l := [1, 254]) ((Byt.nil.cons (by omega)).cons (by omega)) (.inr (by decide))
  rwa [show valI [1, 254] = 65025 from by decide] at this
theorem k142 : digs 142 = [142] := by
  have := digs_of (l := [142]) (Byt.nil.cons (by omega)) (.inr (by decide))
  rwa [show valI [142] = 142 from by decide] at this
theorem k6 : digs 6 = [6] := by
  have := digs_of (l := [6]) (Byt.nil.cons (by omega)) (.inr (by decide))
  rwa [show valI [6] = 6 from by decide] at this
theorem k256 : textL [0, 1] = [50, 53, 54] := by
  unfold textL
  rw [if_pos (by decide), show valI [0, 1] = 256 from by decide, dec_big (by omega), dec_big (by omega), dec_small (by omega)]
  rfl
theorem kd : divE [232, 3] [7] = 0 ∧ valI [232, 3] / valI [7] = 142 ∧ valI [232, 3] % valI [7] = 6 := by decide
theorem ks : subE [] [1] = 4 := by decide
theorem str256 : str [50, 53, 54] = ⟨#[50, 53, 54]⟩ := rfl
theorem m1 : mulE [255] [255] = 0 ∧ valI [255] * valI [255] = 65025 := ⟨by unfold mulE fullE; rw [show valI [255] * valI [255] = 65025 from by decide, k65025]; decide, by decide⟩

theorem c_known13 (w : World) : Calls Try.prog 13 #[] w fun e w' => e = .returned (.bool true) ∧ Below w.heap.size w w' := by
  have HO := Lib.hid (c_Of 258 w (by omega))
  rw [show (((258 : Nat)) : Int) = 258 from rfl] at HO
  go_enter Try.func13, Try.ntmps13
  go_wp2_with fail
  refine HO.out.mono ?_
  clear HO
  rintro e w1 ⟨a1, k1, c1, rfl, hn1, b1⟩
  rw [if_pos rfl] at hn1
  have HS1 := Lib.hid (k258 ▸ hn1.sl)
  have HB1 := Lib.hid b1
  clear hn1 b1
  go_wp2_with fail
  refine (s_Mul (l := [255]) (m := [255]) ((sl1 _ 255 _ _ rfl (by omega)).alloc _) (sl1 _ 255 _ _ (by simp) (by omega)) (by omega) (by omega)).mono ?_
  rw [m1.1, m1.2]
  rintro e w2 ⟨a2, k2, c2, rfl, hn2, b2⟩
  rw [if_pos rfl] at hn2
  have HS2 := Lib.hid (k65025 ▸ hn2.sl)
  have b12 := (bAlloc ((Below.refl w1.heap.size w1).alloc (Nat.le_refl _) _)).trans (b2.mono (by simp; omega))
  have HS1 := Lib.hid (HS1.out.below b12)
  have HB2 := Lib.hid (bNext HB1.out b12)
  clear hn2 b2 b12
  go_wp2_with fail
  refine (s_Div (l := [232, 3]) (m := [7]) ((sl2 _ 232 3 _ _ rfl (by omega) (by omega)).alloc _) (sl1 _ 7 _ _ (by simp) (by omega)) (by omega) (by omega)).mono ?_
  rw [kd.1, kd.2.1, kd.2.2]
  rintro e w3 ⟨a3, k3, c3, a4, k4, c4, rfl, hn3, hn4, b3⟩
  rw [if_pos rfl] at hn3 hn4
  have HS3 := Lib.hid (k142 ▸ hn3.sl)
  have HS4 := Lib.hid (k6 ▸ hn4.sl)
  have b13 := (bAlloc ((Below.refl w2.heap.size w2).alloc (Nat.le_refl _) _)).trans (b3.mono (by simp; omega))
  have HS1 := Lib.hid (HS1.out.below b13)
  have HS2 := Lib.hid (HS2.out.below b13)
  have HB3 := Lib.hid (bNext HB2.out b13)
  clear hn3 hn4 b3 b13
  go_wp2_with fail
  refine (s_Sub (l := []) (m := [1]) (SlAt.nil _) (sl1 _ 1 _ _ rfl (by omega)) (by omega) (by omega)).mono ?_
  rw [ks]
  rintro e w4 ⟨a5, k5, c5, rfl, -, b4⟩
  have b14 := ((Below.refl w3.heap.size w3).alloc (Nat.le_refl _) _).trans (b4.mono (by simp))
  have HS1 := Lib.hid (HS1.out.below b14)
  have HS2 := Lib.hid (HS2.out.below b14)
  have HS3 := Lib.hid (HS3.out.below b14)
  have HS4 := Lib.hid (HS4.out.below b14)
  have HB4 := Lib.hid (bNext HB3.out b14)
  clear b4 b14
  go_wp2_with fail
  refine (s_Same (HS1.out.alloc _) (sl2 _ 2 1 _ _ rfl (by omega) (by omega))).mono ?_
  rintro e w5 ⟨rfl, rfl⟩
  rw [decide_eq_true rfl]
  go_wp2_with fail
  refine (s_Same ((HS2.out.alloc _).alloc _) (sl2 _ 1 254 _ _ (by simp) (by omega) (by omega))).mono ?_
  rintro e w5 ⟨rfl, rfl⟩
  rw [decide_eq_true rfl]
  go_wp2_with fail
  refine (s_Same (((HS3.out.alloc _).alloc _).alloc _) (sl1 _ 142 _ _ (by simp) (by omega))).mono ?_
  rintro e w5 ⟨rfl, rfl⟩
  rw [decide_eq_true rfl]
  go_wp2_with fail
  refine (s_Same ((((HS4.out.alloc _).alloc _).alloc _).alloc _) (sl1 _ 6 _ _ (by simp) (by omega))).mono ?_
  rintro e w5 ⟨rfl, rfl⟩
  rw [decide_eq_true rfl]
  go_wp2_with fail
  refine (s_Text (l := [0, 1]) (sl2 _ 0 1 _ _ (by simp) (by omega) (by omega)) (by omega)).mono ?_
  rw [k256, str256]
  rintro e w5 ⟨rfl, b5⟩
  have HB5 := Lib.hid (HB4.out.trans ((bAlloc (bAlloc (bAlloc (bAlloc ((Below.refl w4.heap.size w4).alloc (Nat.le_refl _) _))))).trans (b5.mono (by simp; omega)) |>.mono HB4.out.size))
  clear b5
  go_wp2
  go_ret
  exact ⟨rfl, HB5.out⟩

end Go.Proofs.Ytdafncaehjipbaa
