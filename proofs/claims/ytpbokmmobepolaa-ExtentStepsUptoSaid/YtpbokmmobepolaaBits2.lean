/-
  Contracts of package bits: New, Len, Taken, First.
-/
import Derived.Test.YtpbokmmobepolaaBits
import Derived.Deep.LoopGhost
namespace Go.Proofs.Ytpbokmmobepolaa
open Go.RowKit
set_option linter.unusedVariables false
set_option maxHeartbeats 1000000

theorem wd_none (j : Nat) : wd (fun _ => false) j = 0 := by
  unfold wd
  apply Nat.eq_of_testBit_eq
  intro i
  rw [testBit_wordN]; simp

theorem wordsB_none (W : Nat) : wordsB (fun _ => false) W = List.replicate W 0 := by
  apply List.ext_getElem (by simp [wordsB])
  intro i h1 h2
  simp [wordsB, wd_none]

def BNewPost (w : World) (k : Int) (e : Ending) (w' : World) : Prop :=
  if k < 0 ∨ 65536 < k then e = .returned (.tuple #[.pointer none, .int .i64 2]) ∧ w = w'
  else ∃ m g, e = .returned (.tuple #[.pointer (some ⟨m, 0, none⟩), .int .i64 0]) ∧ w.heap.size ≤ m ∧ w.heap.size ≤ g ∧ MapAt w' m g k.toNat (fun _ => false) ∧ Upd [] w w'

theorem c_BNew (k : Int) (w : World) (h0 : -9223372036854775808 ≤ k) (h1 : k ≤ 9223372036854775807) : Calls Try.prog 26 #[.int .i64 k] w (BNewPost w k) := by
  by_cases h : k < 0
  · go_enter Try.func26, Try.ntmps26
    go_wp2
    go_ret2
    unfold BNewPost
    rw [if_pos (.inl h)]
    exact ⟨rfl, rfl⟩
  · by_cases h2 : 65536 < k
    · go_enter Try.func26, Try.ntmps26
      go_wp2
      go_ret2
      unfold BNewPost
      rw [if_pos (.inr h2)]
      exact ⟨rfl, rfl⟩
    · obtain ⟨n, rfl⟩ := Int.eq_ofNat_of_zero_le (show 0 ≤ k from by omega)
      have hn : n ≤ 65536 := by omega
      go_enter Try.func26, Try.ntmps26
      go_wp2_with (at_make; refine wpList_mk rfl _ _ 84 rfl 90 (.int .u64 0) 8 Try.underlying84 (by kernel_rfl) rfl .i64 .i64 _ _ ((n + 63) / 64) rfl rfl ?c1 ?c2 (by omega) (by unfold maxLen; omega) ?_)
      case c1 => omega
      case c2 => omega
      intro w' row upd
      have lt := row.lt
      go_wp2
      go_ret2
      unfold BNewPost
      rw [if_neg (by omega), Int.toNat_natCast]
      refine ⟨w'.heap.size, w.heap.size, rfl, by omega, Nat.le_refl _, ⟨Row.made _ _ _, ?_, fun _ _ => rfl, hn, by omega⟩, upd.alloc _⟩
      rw [wordsB_none, List.map_replicate]; exact row.alloc _

theorem c_Taken (m g n : Nat) (b : Nat → Bool) (w : World) (h : MapAt w m g n b) : Calls Try.prog 32 #[.pointer (some ⟨m, 0, none⟩)] w fun e w' => e = .returned (.int .i64 (cntF b n)) ∧ w = w' := by
  have k1 := h.head.cell (i := 1) rfl
  have hsm := h.small
  have HD := Lib.hid h.data
  have HE := Lib.hid (show cntF b (64 * ((n + 63) / 64)) = cntF b n from by
    obtain ⟨r, hr⟩ : ∃ r, 64 * ((n + 63) / 64) = n + r := ⟨64 * ((n + 63) / 64) - n, by omega⟩
    rw [hr]; exact cntF_out h.out r)
  clear h
  obtain ⟨W, hW⟩ : ∃ W, W = (n + 63) / 64 := ⟨_, rfl⟩
  rw [← hW] at k1 HD HE
  have hW2 : W ≤ 1024 := by omega
  clear hW
  go_enter Try.func32, Try.ntmps32
  go_wp2
  go_loop [3, 13] (fun v i => ∃ k : Nat, k ≤ W ∧ v = .int .i64 (cntF b (64 * k)) ∧ i = .int .i64 k) (fun _ i => W - (intOf i).toNat)
  case atStart => exact ⟨0, Nat.zero_le _, rfl, rfl⟩
  case round =>
    obtain ⟨k, hk, rfl, rfl⟩ := hrel
    by_cases hlt : k < W
    · have kc := HD.out.cell (getD_map8 (k := .u64) (show k < (wordsB b W).length from by rw [wordsB_len]; exact hlt))
      rw [wordsB_get hlt] at kc
      have HO := Lib.hid (c_Ones (wd b k) (wd_lt _ _) w)
      have hs : swar (wd b k) = cntF (fun i => b (64 * k + i)) 64 := swar_pop _
      have HA := Lib.hid (cntF_add b (64 * k) 64)
      have hle := cntF_le b (64 * k)
      have hle2 := cntF_le (fun i => b (64 * k + i)) 64
      rw [hs] at HO
      clear hs
      generalize wd b k = x at *
      generalize cntF (fun i => b (64 * k + i)) 64 = y at *
      generalize hc : cntF b (64 * k) = c at *
      go_wp2_with (go_at_call 45; refine HO.out.mono ?_; rintro e w' ⟨rfl, rfl⟩)
      go_round
      case rel => exact ⟨k + 1, by omega, by rw [show 64 * (k + 1) = 64 * k + 64 from by omega, HA.out]; go_num, by go_num⟩
      case measure => simp [intOf]; omega
    · obtain rfl : W = k := by omega
      go_wp2
      go_ret
      rw [← HE.out]
      exact ⟨rfl, rfl⟩

/-- Where there is room first, as it is told. -/
def firstV (o : Option Nat) : Value := .tuple #[.int .i64 ((o.getD 0 : Nat) : Int), .bool o.isSome]
def FirstRes (b : Nat → Bool) (n : Nat) (q : Int) (o : Option Nat) : Prop := (q < 1 ∧ o = none) ∨ (1 ≤ q ∧ FirstIs b n q.toNat o)

theorem c_First (m g n : Nat) (b : Nat → Bool) (w : World) (h : MapAt w m g n b) (q : Int) (h1 : q ≤ 9223372036854775807) :
    Calls Try.prog 27 #[.pointer (some ⟨m, 0, none⟩), .int .i64 q] w fun e w' => (∃ o, FirstRes b n q o ∧ e = .returned (firstV o)) ∧ w = w' := by
  by_cases hq : q < 1
  · clear h
    go_enter Try.func27, Try.ntmps27
    go_wp2
    go_step3
    go_wp2
    try rw [Exit.noGoto_ret]
    go_ret2
    exact ⟨⟨none, .inl ⟨hq, rfl⟩, rfl⟩, rfl⟩
  · obtain ⟨a, rfl⟩ := Int.eq_ofNat_of_zero_le (show 0 ≤ q from by omega)
    have ha : 1 ≤ a := by omega
    have k0 := h.head.cell (i := 0) rfl
    have hsm := h.small
    have HH := Lib.hid h
    clear h
    go_enter Try.func27, Try.ntmps27
    go_wp2
    go_step3
    go_wp2
    go_step3
    go_wp2
    go_loopg [6] n (fun gg s6 wx => ∃ f : Nat, f + gg = n ∧ s6 = .int .i64 f ∧ Hid (∀ a', a' < f → ¬ runIs b a' a false) ∧ w = wx)
    case atStart => exact ⟨0, by omega, rfl, fun a' h => by omega, rfl⟩
    case round =>
      obtain ⟨f, hf, rfl, HF, rfl⟩ := hrel
      by_cases hle : (a : Int) ≤ (n : Int) - (f : Int)
      · have hle2 : f + a ≤ n := by omega
        have ha63 : a ≤ 65536 := by omega
        go_wp2
        go_loopg [6, 7] a (fun g2 s6 s7 wy => ∃ x : Int, x + 1 = (g2 : Int) ∧ g2 ≤ a ∧ s6 = .int .i64 f ∧ s7 = .int .i64 x ∧ Hid (∀ i, g2 ≤ i → i < a → b (f + i) = false) ∧ w = wy)
        case atStart => exact ⟨(a : Int) - 1, by omega, Nat.le_refl _, rfl, rfl, fun i h1 h2 => by omega, rfl⟩
        case round =>
          obtain ⟨x, hx, hga, rfl, rfl, HB, rfl⟩ := hrel
          cases gk with
          | zero =>
            obtain rfl : x = -1 := by omega
            clear hx
            go_wp2
            try rw [Exit.noGoto_ret]
            go_ret2
            exact ⟨⟨some f, .inr ⟨by omega, hle2, fun i hi => HB.out i (Nat.zero_le _) hi, HF.out⟩, rfl⟩, rfl⟩
          | succ r =>
            obtain rfl : x = (r : Int) := by omega
            have hfr : f + r < n := by omega
            have HC := Lib.hid (c_HasN m g n b w HH.out (f + r) hfr)
            rw [show ((f + r : Nat) : Int) = (f : Int) + (r : Int) from by simp] at HC
            have hr0 : (0 : Int) ≤ (r : Int) := by omega
            clear hx
            cases hb : b (f + r)
            · rw [hb] at HC
              have HB2 : Hid (∀ i, r ≤ i → i < a → b (f + i) = false) := fun i h1 h2 => by
                by_cases hi : i = r
                · subst hi; exact hb
                · exact HB.out i (by omega) h2
              clear hb HB
              go_wp2_with (go_at_call 40; refine HC.out.mono ?_; rintro e w' ⟨rfl, rfl⟩)
              go_roundg r
              case measure => omega
              case rel => exact ⟨(r : Int) - 1, by omega, by omega, rfl, rfl, HB2, rfl⟩
            · rw [hb] at HC
              have HF2 : Hid (∀ a', a' < f + r + 1 → ¬ runIs b a' a false) := fun a' h1 h2 => by
                by_cases hi : a' < f
                · exact HF.out a' hi h2
                · have := h2 (f + r - a') (by omega)
                  rw [show a' + (f + r - a') = f + r from by omega, hb] at this
                  cases this
              clear hb HB
              go_wp2_with (go_at_call 40; refine HC.out.mono ?_; rintro e w' ⟨rfl, rfl⟩)
              go_roundg (n - (f + r + 1))
              case measure => omega
              case rel => exact ⟨f + r + 1, by omega, by go_num, HF2, rfl⟩
      · go_wp2
        try rw [Exit.noGoto_ret]
        go_ret2
        exact ⟨⟨none, .inr ⟨by omega, fun a' h => HF.out a' (by rw [Int.toNat_natCast] at h; omega)⟩, rfl⟩, rfl⟩

end Go.Proofs.Ytpbokmmobepolaa
