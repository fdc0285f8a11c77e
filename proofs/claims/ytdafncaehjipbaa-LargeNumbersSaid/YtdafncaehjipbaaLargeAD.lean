/-
  Contracts of package large, of numbers that have room.
-/
import Derived.Test.YtdafncaehjipbaaLargeAA
namespace Go.Proofs.Ytdafncaehjipbaa
open Go.RowKit
set_option linter.unusedVariables false
set_option maxHeartbeats 2000000
set_option maxRecDepth 20000

/-- So many digits at most. -/
def LB (N k : Nat) : Prop := (digs N).length ≤ k
theorem LB.le {N k j : Nat} (h : LB N k) (hj : k ≤ j) : LB N j := Nat.le_trans h hj
theorem LB.mono {M N k : Nat} (h : LB N k) (hm : M ≤ N) : LB M k := Nat.le_trans (digs_mono hm) h
theorem LB.lt {N k : Nat} (h : LB N k) : N < 256 ^ k := by
  have h1 := valI_lt (byt_digs N)
  rw [valI_digs] at h1
  exact Nat.lt_of_lt_of_le h1 (Nat.pow_le_pow_right (by omega) h)
theorem LB.of {N k : Nat} (h : N < 256 ^ k) : LB N k := digs_len h
theorem LB.add {M N k : Nat} (h : LB M k) (h2 : LB N k) : LB (M + N) (k + 1) := sum_len (n := k) (k := 0) h h2.lt
theorem LB.mul {M N k j : Nat} (h : LB M k) (h2 : LB N j) : LB (M * N) (k + j) := by
  refine LB.of ?_
  rw [Nat.pow_add]
  exact Nat.mul_lt_mul_of_lt_of_lt h.lt h2.lt
theorem LB.right {N k : Nat} (h : LB N k) (hk : k ≤ 400) : rightB (digs N) = true := rightB_digs (Nat.le_trans h hk)
theorem fullE_ok {N k : Nat} (h : LB N k) (hk : k ≤ 400) : fullE N = 0 := by unfold fullE; rw [if_pos (Nat.le_trans h hk)]

theorem n_Add1 {a0 xa : Option Addr} {n0 c0 xn xc b : Nat} {X Y : Nat} {w : World} (h0 : SlAt w a0 n0 c0 (digs X)) (h1 : SlAt w xa xn xc (digs Y)) (hr : Reads w (some ⟨b, 0, none⟩) 1 [.slice xa xn xc]) (hx : LB X 398) (hy : LB Y 398) :
    Calls Try.prog 24 #[.slice a0 n0 c0, .slice (some ⟨b, 0, none⟩) 1 1] w (ResPost w 0 (X + Y)) := by
  have l0 : n0 ≤ 398 := by rw [h0.len]; exact hx
  have l1 : xn ≤ 398 := by rw [h1.len]; exact hy
  have := s_Add1 h0 (by omega) h1 (by omega) hr
  rwa [valI_digs, valI_digs, show add2E (digs X) (digs Y) = 0 from by
    unfold add2E
    rw [hx.right (by omega), hy.right (by omega), valI_digs, valI_digs, if_neg (by simp)]
    exact fullE_ok (hx.add hy) (by omega)] at this
theorem n_Add2 {a0 xa ya : Option Addr} {n0 c0 xn xc yn yc b : Nat} {X Y Z : Nat} {w : World} (h0 : SlAt w a0 n0 c0 (digs X)) (h1 : SlAt w xa xn xc (digs Y)) (h2 : SlAt w ya yn yc (digs Z)) (hr : Reads w (some ⟨b, 0, none⟩) 2 [.slice xa xn xc, .slice ya yn yc]) (hx : LB X 398) (hy : LB Y 398) (hz : LB Z 398) :
    Calls Try.prog 24 #[.slice a0 n0 c0, .slice (some ⟨b, 0, none⟩) 2 2] w (ResPost w 0 (X + (Y + Z))) := by
  have l0 : n0 ≤ 398 := by rw [h0.len]; exact hx
  have l1 : xn ≤ 398 := by rw [h1.len]; exact hy
  have l2 : yn ≤ 398 := by rw [h2.len]; exact hz
  have := c_Add (ds := [⟨xa, xn, xc, digs Y⟩, ⟨ya, yn, yc, digs Z⟩]) h0 (by omega) rfl hr (fun d hd => by
    simp only [List.mem_cons, List.not_mem_nil, or_false] at hd
    rcases hd with rfl | rfl
    · exact ⟨h1, by show xn ≤ _; omega⟩
    · exact ⟨h2, by show yn ≤ _; omega⟩) (Nat.succ_le_succ (Nat.succ_le_succ (Nat.zero_le _)))
  have hs : sumR [⟨xa, xn, xc, digs Y⟩, ⟨ya, yn, yc, digs Z⟩] = Y + Z := by simp [sumR, valI_digs]
  have hb : badR [⟨xa, xn, xc, digs Y⟩, ⟨ya, yn, yc, digs Z⟩] = false := by simp [badR, hy.right (show 398 ≤ 400 by omega), hz.right (show 398 ≤ 400 by omega)]
  rwa [hs, valI_digs, show addE (digs X) [⟨xa, xn, xc, digs Y⟩, ⟨ya, yn, yc, digs Z⟩] = 0 from by
    unfold addE
    rw [hx.right (by omega), hb, hs, valI_digs, if_neg (by simp)]
    exact fullE_ok ((hx.le (show 398 ≤ 399 by omega)).add (hy.add hz)) (by omega)] at this
theorem n_Mul {a0 a1 : Option Addr} {n0 n1 c0 c1 k j : Nat} {X Y : Nat} {w : World} (h0 : SlAt w a0 n0 c0 (digs X)) (h1 : SlAt w a1 n1 c1 (digs Y)) (hx : LB X k) (hy : LB Y j) (hkj : k + j ≤ 400) :
    Calls Try.prog 26 #[.slice a0 n0 c0, .slice a1 n1 c1] w (ResPost w 0 (X * Y)) := by
  have l0 : n0 ≤ k := by rw [h0.len]; exact hx
  have l1 : n1 ≤ j := by rw [h1.len]; exact hy
  have := s_Mul h0 h1 (by omega) (by omega)
  rwa [valI_digs, valI_digs, show mulE (digs X) (digs Y) = 0 from by
    unfold mulE
    rw [hx.right (by omega), hy.right (by omega), valI_digs, valI_digs, if_neg (by simp)]
    exact fullE_ok (hx.mul hy) (by omega)] at this
theorem n_Sub {a0 a1 : Option Addr} {n0 n1 c0 c1 : Nat} {X Y : Nat} {w : World} (h0 : SlAt w a0 n0 c0 (digs X)) (h1 : SlAt w a1 n1 c1 (digs Y)) (hx : LB X 400) (hle : Y ≤ X) :
    Calls Try.prog 14 #[.slice a0 n0 c0, .slice a1 n1 c1] w (ResPost w 0 (X - Y)) := by
  have hy : LB Y 400 := hx.mono hle
  have l0 : n0 ≤ 400 := by rw [h0.len]; exact hx
  have l1 : n1 ≤ 400 := by rw [h1.len]; exact hy
  have := s_Sub h0 h1 (by omega) (by omega)
  rwa [valI_digs, valI_digs, show subE (digs X) (digs Y) = 0 from by
    unfold subE
    rw [hx.right (by omega), hy.right (by omega), valI_digs, valI_digs, if_neg (by simp), if_neg (by omega)]] at this
theorem n_Div {a0 a1 : Option Addr} {n0 n1 c0 c1 : Nat} {X Y : Nat} {w : World} (h0 : SlAt w a0 n0 c0 (digs X)) (h1 : SlAt w a1 n1 c1 (digs Y)) (hx : LB X 400) (hy : LB Y 400) :
    Calls Try.prog 19 #[.slice a0 n0 c0, .slice a1 n1 c1] w (DivPost w (if Y = 0 then 4 else 0) (X / Y) (X % Y)) := by
  have l0 : n0 ≤ 400 := by rw [h0.len]; exact hx
  have l1 : n1 ≤ 400 := by rw [h1.len]; exact hy
  have := s_Div h0 h1 (by omega) (by omega)
  rwa [valI_digs, valI_digs, show divE (digs X) (digs Y) = (if Y = 0 then 4 else 0) from by
    unfold divE
    rw [hx.right (by omega), hy.right (by omega), if_neg (by simp)]
    by_cases h : Y = 0
    · rw [if_pos (digs_nil.2 h), if_pos h]
    · rw [if_neg (fun h2 => h (digs_nil.1 h2)), if_neg h]] at this
theorem n_Cmp {a0 a1 : Option Addr} {n0 n1 c0 c1 : Nat} {X Y : Nat} {w : World} (h0 : SlAt w a0 n0 c0 (digs X)) (h1 : SlAt w a1 n1 c1 (digs Y)) (hx : LB X 400) (hy : LB Y 400) :
    Calls Try.prog 17 #[.slice a0 n0 c0, .slice a1 n1 c1] w fun e w' => e = .returned (.int .i64 (cmpI X Y)) ∧ Below w.heap.size w w' := by
  have l0 : n0 ≤ 400 := by rw [h0.len]; exact hx
  have l1 : n1 ≤ 400 := by rw [h1.len]; exact hy
  have := s_Cmp h0 h1 (by omega) (by omega)
  rwa [valI_digs, valI_digs] at this

end Go.Proofs.Ytdafncaehjipbaa
