/-
  Contracts of package word and of its reference: bytes. And whether two rows of bytes are the same.
-/
import Derived.Test.YtdedidjobjdekaaWord
namespace Go.Proofs.Ytdedidjobjdekaa
open Go.RowKit
set_option linter.unusedVariables false

set_option maxHeartbeats 400000

def put4 (o : Int) : List Int := [o / 16777216 % 256, o / 65536 % 256, o / 256 % 256, o % 256]
theorem put4_byt (o : Int) : Byt (put4 o) := by
  intro x hx
  simp [put4] at hx
  rcases hx with h | h | h | h <;> omega
theorem put4_len (o : Int) : (put4 o).length = 4 := rfl

theorem alloc4 {w : World} {t : TypeId} {a b c d a' b' c' d' : Int} (ha : a = a') (hb : b = b') (hc : c = c') (hd : d = d') :
    w.alloc (.cells #[.int .u8 a, .int .u8 b, .int .u8 c, .int .u8 d] t) = w.alloc (.cells #[.int .u8 a', .int .u8 b', .int .u8 c', .int .u8 d'] t) := by
  rw [ha, hb, hc, hd]

theorem c_Put (n : Int) (w : World) (h1 : -9223372036854775808 ≤ n) (h2 : n ≤ 9223372036854775807) :
    Calls Try.prog 47 #[.int .i64 n] w fun e w' => e = .returned (.slice (some ⟨w.heap.size, 0, none⟩) 4 4) ∧ w.alloc (.cells #[.int .u8 (n / 16777216 % 256), .int .u8 (n / 65536 % 256), .int .u8 (n / 256 % 256), .int .u8 (n % 256)] 5) = w' := by
  have hmk : ∀ w, (Instr.makeSlice 23 (.int .i64 4) (.int .i64 4)).run Try.prog w = .ok (.slice (some ⟨w.heap.size, 0, none⟩) 4 4) (w.alloc (.cells #[.int .u8 0, .int .u8 0, .int .u8 0, .int .u8 0] 5)) := fun _ => by kernel_rfl
  go_enter Try.func47, Try.ntmps47
  go_wp2
  go_rounds 5
  go_returns
  exact ⟨rfl, rfl⟩

theorem r_Put (n : Int) (w : World) (h1 : -9223372036854775808 ≤ n) (h2 : n ≤ 9223372036854775807) :
    Calls Try.prog 41 #[.int .i64 n] w fun e w' => e = .returned (.slice (some ⟨w.heap.size, 0, none⟩) 4 4) ∧ w.alloc (.cells #[.int .u8 (n / 16777216 % 256), .int .u8 (n / 65536 % 256), .int .u8 (n / 256 % 256), .int .u8 (n % 256)] 5) = w' := by
  go_enter Try.func41, Try.ntmps41
  go_wp2
  go_ret
  exact ⟨rfl, alloc4 (by go_arith) (by go_arith) (by go_arith) (by go_arith)⟩

theorem put_reads (w : World) (n : Int) (c : Nat) (t : TypeId) : Reads (w.alloc (.cells #[.int .u8 (n / 16777216 % 256), .int .u8 (n / 65536 % 256), .int .u8 (n / 256 % 256), .int .u8 (n % 256)] t)) (some ⟨w.heap.size, 0, none⟩) c ((put4 n).map (Value.int .u8)) :=
  Reads.made w _ t c

theorem c_Same (a0 a1 : Option Addr) (n0 n1 c0 c1 : Nat) (l0 l1 : List Int) (w : World) (e0 : n0 = l0.length) (e1 : n1 = l1.length)
    (h0 : Reads w a0 c0 (l0.map (Value.int .u8))) (h1 : Reads w a1 c1 (l1.map (Value.int .u8))) (b0 : Byt l0) (b1 : Byt l1) :
    Calls Try.prog 18 #[.slice a0 n0 c0, .slice a1 n1 c1] w fun e w' => e = .returned (.bool (decide (l0 = l1))) ∧ w = w' := by
  have k0 := run_str (P := Try.prog) w 23 9 5 a0 n0 c0 l0 Try.underlying23 Try.underlying5 Try.underlying9 e0 h0
  have k1 := run_str (P := Try.prog) w 23 9 5 a1 n1 c1 l1 Try.underlying23 Try.underlying5 Try.underlying9 e1 h1
  have k2 := str_eq b0 b1
  rw [← k2]
  clear k2 b0 b1 h0 h1 e0 e1
  go_enter Try.func18, Try.ntmps18
  go_wp2
  go_ret
  exact ⟨rfl, rfl⟩

def getE (n : Nat) (at_ : Int) : Int := if 0 ≤ at_ ∧ at_ + 4 ≤ n then 0 else 2
def be4 (b0 b1 b2 b3 : Int) : Int := wrap32 (((b0 * 256 + b1) * 256 + b2) * 256 + b3)
def getV (l : List Int) (at_ : Int) : Int := if 0 ≤ at_ ∧ at_ + 4 ≤ l.length then be4 (l.getD at_.toNat 0) (l.getD (at_.toNat + 1) 0) (l.getD (at_.toNat + 2) 0) (l.getD (at_.toNat + 3) 0) else 0

theorem getD_map {l : List Int} {i : Nat} (h : i < l.length) (k : IntKind) : (l.map (Value.int k))[i]? = some (.int k (l.getD i 0)) := by
  simp [h]
theorem byt_getD {l : List Int} (h : Byt l) (i : Nat) : 0 ≤ l.getD i 0 ∧ l.getD i 0 ≤ 255 := by
  by_cases hi : i < l.length
  · rw [List.getD_eq_getElem?_getD, List.getElem?_eq_getElem hi]
    exact h _ (List.getElem_mem hi)
  · simp [List.getElem?_eq_none (Nat.le_of_not_lt hi)]

theorem or0 (b : Int) (h : 0 ≤ b ∧ b ≤ 255) : bits .or .i32 0 b = b := by
  have := i32_or8 0 b h.1 (by omega)
  rw [IntWalk.wrap32_in _ (by omega), IntWalk.wrap32_in _ (by omega)] at this
  simpa using this
theorem or1 (x b : Int) (h : 0 ≤ b ∧ b ≤ 255) (hx : 0 ≤ x ∧ x ≤ 65535) : bits .or .i32 (x * 256) b = x * 256 + b := by
  have := i32_or8 x b h.1 (by omega)
  rwa [IntWalk.wrap32_in _ (by omega), IntWalk.wrap32_in _ (by omega)] at this

theorem c_Get (a : Option Addr) (n c : Nat) (l : List Int) (p : Int) (w : World) (e0 : n = l.length) (hc : n ≤ c) (hm : n ≤ 4611686018427387904)
    (h : Reads w a c (l.map (Value.int .u8))) (hb : Byt l) (b0 : -9223372036854775808 ≤ p) (b1 : p ≤ 9223372036854775807) :
    Calls Try.prog 32 #[.slice a n c, .int .i64 p] w fun e w' => e = .returned (.tuple #[.int .i64 (getV l p), .int .i64 (getE l.length p)]) ∧ w = w' := by
  subst e0
  by_cases hp : 0 ≤ p ∧ p + 4 ≤ l.length
  · rw [getV, getE, if_pos hp, if_pos hp]
    obtain ⟨b, off, rfl, hlt, hcell⟩ := h.at (by simp; omega)
    obtain ⟨k, rfl⟩ := Int.eq_ofNat_of_zero_le hp.1
    have hk : k + 4 ≤ l.length := by omega
    have f0 := hcell k _ (getD_map (by omega) .u8)
    have f1 := hcell (k + 1) _ (getD_map (by omega) .u8)
    have f2 := hcell (k + 2) _ (getD_map (by omega) .u8)
    have f3 := hcell (k + 3) _ (getD_map (by omega) .u8)
    have g0 := byt_getD hb k
    have g1 := byt_getD hb (k + 1)
    have g2 := byt_getD hb (k + 2)
    have g3 := byt_getD hb (k + 3)
    rw [Int.toNat_natCast]
    generalize l.getD k 0 = x0 at *
    generalize l.getD (k + 1) 0 = x1 at *
    generalize l.getD (k + 2) 0 = x2 at *
    generalize l.getD (k + 3) 0 = x3 at *
    have o0 := or0 x0 g0
    have o1 := or1 x0 x1 g1 (by omega)
    have o2 := or1 (x0 * 256 + x1) x2 g2 (by omega)
    have o3 := i32_or8 ((x0 * 256 + x1) * 256 + x2) x3 g3.1 (by omega)
    have hl2 : -2147483648 ≤ wrap32 (((x0 * 256 + x1) * 256 + x2) * 256 + x3) ∧ wrap32 (((x0 * 256 + x1) * 256 + x2) * 256 + x3) ≤ 2147483647 := by unfold wrap32; omega
    obtain ⟨l1, l2⟩ := hl2
    unfold be4
    rw [show off + (k + 1) = off + k + 1 from rfl] at f1
    rw [show off + (k + 2) = off + k + 2 from rfl] at f2
    rw [show off + (k + 3) = off + k + 3 from rfl] at f3
    clear hcell h hb hp
    go_enter Try.func32, Try.ntmps32
    go_wp2
    go_rounds 5
    go_ret2
    exact ⟨rfl, rfl⟩
  · rw [getV, getE, if_neg hp, if_neg hp]
    clear h hb
    by_cases h0 : p < 0
    · clear hp
      go_enter Try.func32, Try.ntmps32
      go_wp2
      go_ret2
      exact ⟨rfl, rfl⟩
    · have h1 : (l.length : Int) - 4 < p := by omega
      clear hp
      go_enter Try.func32, Try.ntmps32
      go_wp2
      go_ret2
      exact ⟨rfl, rfl⟩

theorem r_Get (a : Option Addr) (n c : Nat) (l : List Int) (p : Int) (w : World) (e0 : n = l.length) (hm : n ≤ 4611686018427387904)
    (h : Reads w a c (l.map (Value.int .u8))) (hb : Byt l) (b0 : -9223372036854775808 ≤ p) (b1 : p ≤ 9223372036854775807) :
    Calls Try.prog 43 #[.slice a n c, .int .i64 p] w fun e w' => e = .returned (.tuple #[.int .i64 (getV l p), .int .i64 (getE l.length p)]) ∧ w = w' := by
  subst e0
  by_cases hp : 0 ≤ p ∧ p + 4 ≤ l.length
  · rw [getV, getE, if_pos hp, if_pos hp]
    obtain ⟨b, off, rfl, hlt, hcell⟩ := h.at (by simp; omega)
    obtain ⟨k, rfl⟩ := Int.eq_ofNat_of_zero_le hp.1
    have hk : k + 4 ≤ l.length := by omega
    have f0 := hcell k _ (getD_map (by omega) .u8)
    have f1 := hcell (k + 1) _ (getD_map (by omega) .u8)
    have f2 := hcell (k + 2) _ (getD_map (by omega) .u8)
    have f3 := hcell (k + 3) _ (getD_map (by omega) .u8)
    have g0 := byt_getD hb k
    have g1 := byt_getD hb (k + 1)
    have g2 := byt_getD hb (k + 2)
    have g3 := byt_getD hb (k + 3)
    rw [Int.toNat_natCast]
    generalize l.getD k 0 = x0 at *
    generalize l.getD (k + 1) 0 = x1 at *
    generalize l.getD (k + 2) 0 = x2 at *
    generalize l.getD (k + 3) 0 = x3 at *
    clear hcell h hb hp
    by_cases hx : x0 < 128
    · rw [show be4 x0 x1 x2 x3 = 256 * (256 * (256 * x0 + x1) + x2) + x3 from by unfold be4 wrap32; omega]
      go_enter Try.func43, Try.ntmps43
      go_wp2
      go_rounds 5
      go_ret2
      exact ⟨rfl, rfl⟩
    · rw [show be4 x0 x1 x2 x3 = 256 * (256 * (256 * x0 + x1) + x2) + x3 - 4294967296 from by unfold be4 wrap32; omega]
      go_enter Try.func43, Try.ntmps43
      go_wp2
      go_rounds 5
      go_ret2
      exact ⟨rfl, rfl⟩
  · rw [getV, getE, if_neg hp, if_neg hp]
    clear h hb
    by_cases h0 : p < 0
    · clear hp
      go_enter Try.func43, Try.ntmps43
      go_wp2
      go_ret2
      exact ⟨rfl, rfl⟩
    · by_cases h2 : (l.length : Int) < 4
      · clear hp
        go_enter Try.func43, Try.ntmps43
        go_wp2
        go_ret2
        exact ⟨rfl, rfl⟩
      · have h1 : (l.length : Int) - 4 < p := by omega
        clear hp
        go_enter Try.func43, Try.ntmps43
        go_wp2
        go_ret2
        exact ⟨rfl, rfl⟩

end Go.Proofs.Ytdedidjobjdekaa
