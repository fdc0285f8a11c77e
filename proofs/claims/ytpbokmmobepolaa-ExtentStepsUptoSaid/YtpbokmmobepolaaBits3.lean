/-
  Contracts of package bits: change, Take, Free.
-/
import Derived.Test.YtpbokmmobepolaaBits2
namespace Go.Proofs.Ytpbokmmobepolaa
open Go.RowKit
set_option linter.unusedVariables false
set_option maxHeartbeats 1000000

instance (b : Nat → Bool) (f k : Nat) (v : Bool) : Decidable (runIs b f k v) := by unfold runIs; exact inferInstance

def okRun (n : Nat) (f q : Int) : Prop := 1 ≤ q ∧ 0 ≤ f ∧ f + q ≤ n
instance (n : Nat) (f q : Int) : Decidable (okRun n f q) := by unfold okRun; exact inferInstance

def chgE (b : Nat → Bool) (n : Nat) (f q : Int) (was : Bool) (no : Int) : Int := if okRun n f q then (if runIs b f.toNat q.toNat was then 0 else no) else 2
def chgB (b : Nat → Bool) (n : Nat) (f q : Int) (was : Bool) : Nat → Bool := if okRun n f q ∧ runIs b f.toNat q.toNat was then fill b f.toNat q.toNat (!was) else b

def ChgPost (m g n : Nat) (b : Nat → Bool) (f q : Int) (was : Bool) (no : Int) (w : World) (e : Ending) (w' : World) : Prop :=
  e = .returned (.int .i64 (chgE b n f q was no)) ∧ MapAt w' m g n (chgB b n f q was) ∧ Upd [g] w w'

theorem u64_xor (x m : Nat) (hx : x < 18446744073709551616) (hm : m < 18446744073709551616) : bits .xor .u64 (x : Int) (m : Int) = ((x ^^^ m : Nat) : Int) := by
  have ha : (BitVec.ofInt 64 (x : Int)).toNat = x := by rw [BitVec.toNat_ofInt]; omega
  have hb : (BitVec.ofInt 64 (m : Int)).toNat = m := by rw [BitVec.toNat_ofInt]; omega
  have key : (BitVec.ofInt 64 (x : Int) ^^^ BitVec.ofInt 64 (m : Int)).toNat = x ^^^ m := by rw [BitVec.toNat_xor, ha, hb]
  have hl : x ^^^ m < 2 ^ 64 := Nat.xor_lt_two_pow (by omega) (by omega)
  show IntKind.u64.wrap ((BitVec.ofInt 64 (x : Int) ^^^ BitVec.ofInt 64 (m : Int)).toNat : Nat) = ((x ^^^ m : Nat) : Int)
  rw [key, IntKind.wrap_u64]
  omega

theorem c_changeNo (m g n : Nat) (b : Nat → Bool) (w : World) (h : MapAt w m g n b) (f q : Int) (was : Bool) (no : Int) (hf0 : -9223372036854775808 ≤ f) (hf1 : f ≤ 9223372036854775807) (hq1 : q ≤ 9223372036854775807) (hok : ¬ okRun n f q) :
    Calls Try.prog 41 #[.pointer (some ⟨m, 0, none⟩), .int .i64 f, .int .i64 q, .bool was, .int .i64 no] w fun e w' => e = .returned (.int .i64 2) ∧ w = w' := by
  have k0 := h.head.cell (i := 0) rfl
  have hsm := h.small
  unfold okRun at hok
  clear h
  by_cases h1 : q < 1
  · clear hok
    go_enter Try.func41, Try.ntmps41
    go_wp2
    go_ret
    exact ⟨rfl, rfl⟩
  · by_cases h2 : f < 0
    · clear hok
      go_enter Try.func41, Try.ntmps41
      go_wp2
      go_ret
      exact ⟨rfl, rfl⟩
    · obtain ⟨F, rfl⟩ := Int.eq_ofNat_of_zero_le (show 0 ≤ f from by omega)
      by_cases h3 : n < F
      · clear hok
        go_enter Try.func41, Try.ntmps41
        go_wp2
        go_ret
        exact ⟨rfl, rfl⟩
      · have h4 : (n : Int) - (F : Int) < q := by omega
        clear hok
        go_enter Try.func41, Try.ntmps41
        go_wp2
        go_ret
        exact ⟨rfl, rfl⟩

theorem c_changeYes (m g n : Nat) (b : Nat → Bool) (w : World) (h : MapAt w m g n b) (F Q : Nat) (was : Bool) (no : Int) (h1 : 1 ≤ Q) (h2 : F + Q ≤ n) :
    Calls Try.prog 41 #[.pointer (some ⟨m, 0, none⟩), .int .i64 F, .int .i64 Q, .bool was, .int .i64 no] w fun e w' => (runIs b F Q was ∧ e = .returned (.int .i64 0) ∧ MapAt w' m g n (fill b F Q (!was)) ∧ Upd [g] w w') ∨ (¬ runIs b F Q was ∧ e = .returned (.int .i64 no) ∧ w = w') := by
  have k0 := h.head.cell (i := 0) rfl
  have hsm := h.small
  have HH := Lib.hid h
  have h5 : ¬ (n : Int) - (F : Int) < (Q : Int) := by omega
  have h6 : (Q : Int) ≤ (n : Int) - (F : Int) := by omega
  have q1 : ((Q : Int) < 1) = False := eq_false (by omega)
  have q2 : ((F : Int) < 0) = False := eq_false (by omega)
  clear h
  go_enter Try.func41, Try.ntmps41
  go_wp2
  go_loop [43] (fun i => ∃ k : Nat, k ≤ Q ∧ i = .int .i64 k ∧ Hid (runIs b F k was)) (fun i => Q - (intOf i).toNat)
  case atStart => exact ⟨0, Nat.zero_le _, rfl, fun i hi => by omega⟩
  case round =>
    obtain ⟨k, hk, rfl, hr⟩ := hrel
    by_cases hlt : k < Q
    · have HC := Lib.hid (c_HasN m g n b w HH.out (F + k) (by omega))
      rw [show ((F + k : Nat) : Int) = (F : Int) + (k : Int) from by simp] at HC
      by_cases hb : b (F + k) = was
      · have hr2 : Hid (runIs b F (k + 1) was) := fun i hi => by
          by_cases hik : i = k
          · subst hik; exact hb
          · exact hr.out i (by omega)
        rw [hb] at HC
        clear hr hb
        cases was
        all_goals
          go_wp2_with (go_at_call 40; refine HC.out.mono ?_; rintro e w' ⟨rfl, rfl⟩)
          go_round
          case rel => exact ⟨k + 1, by omega, by go_num, hr2⟩
          case measure => simp [intOf]; omega
      · have HF := Lib.hid (show ¬ runIs b F Q was from fun h => hb (h k hlt))
        have hb2 : b (F + k) = !was := by cases hx : b (F + k) <;> cases was <;> simp_all
        rw [hb2] at HC
        clear hr hb hb2
        cases was
        all_goals
          go_wp2_with (go_at_call 40; refine HC.out.mono ?_; rintro e w' ⟨rfl, rfl⟩)
          go_ret
          exact .inr ⟨HF.out, rfl, rfl⟩
    · obtain rfl : k = Q := by omega
      clear hlt hk
      go_wp2
      go_loopw [56] (fun i wr => ∃ j : Nat, j ≤ k ∧ i = .int .i64 j ∧ Hid (MapAt wr m g n (fill b F j (!was))) ∧ Hid (Upd [g] w wr)) (fun i _ => k - (intOf i).toNat)
      case atStart => exact ⟨0, Nat.zero_le _, rfl, by rw [fill_0]; exact HH.out, Upd.refl _ _⟩
      case round =>
        obtain ⟨j, hj, rfl, HM, HU⟩ := hrel
        by_cases hlt : j < k
        · have hFj : F + j < n := by omega
          obtain ⟨b', hb'⟩ : ∃ b', b' = fill b F j (!was) := ⟨_, rfl⟩
          have hNX := Lib.hid (show fill b F (j + 1) (!was) = turn b' (F + j) from by rw [hb']; exact fill_turn (by rw [hr.out j hlt]; simp))
          rw [← hb'] at HM
          clear hb'
          obtain ⟨p, hp⟩ : ∃ p, p = F + j := ⟨_, rfl⟩
          have hpc : (F : Int) + (j : Int) = (p : Int) := by omega
          rw [← hp] at hNX hFj
          have hjW : p / 64 < (n + 63) / 64 := by omega
          have hlW : p / 64 < (wordsB b' ((n + 63) / 64)).length := by rw [wordsB_len]; exact hjW
          have kc := HM.out.data.cell (getD_map8 (k := .u64) hlW)
          rw [wordsB_get hjW] at kc
          have kf := HM.out.data.free (p / 64)
          have k1 := HM.out.head.cell (i := 1) rfl
          have hx := wd_lt b' (p / 64)
          obtain ⟨x, hxe⟩ : ∃ x, x = wd b' (p / 64) := ⟨_, rfl⟩
          rw [← hxe] at kc hx
          obtain ⟨W, hW⟩ : ∃ W, W = (n + 63) / 64 := ⟨_, rfl⟩
          rw [← hW] at k1 hjW
          have HWW := Lib.hid hW
          have HXE := Lib.hid hxe
          clear hW hxe hp hlW
          have hi1 : (0 : Int) ≤ (p : Int) / 64 := by omega
          have hi2 : (p : Int) / 64 < (W : Int) := by omega
          have hi3 : ((p : Int) / 64).toNat = p / 64 := by omega
          have hpow : (2 : Nat) ^ (p % 64) < 18446744073709551616 := by
            have : (2 : Nat) ^ (p % 64) < 2 ^ 64 := Nat.pow_lt_pow_right (by omega) (by omega)
            omega
          obtain ⟨z, hz⟩ : ∃ z, z = x ^^^ 2 ^ (p % 64) := ⟨_, rfl⟩
          have hxor : bits .xor .u64 (x : Int) (IntKind.u64.wrap (2 ^ (p % 64))) = (z : Int) := by
            rw [show (2 : Int) ^ (p % 64) = ((2 ^ (p % 64) : Nat) : Int) from by simp]
            generalize (2 : Nat) ^ (p % 64) = P2 at *
            have h1 : IntKind.u64.wrap (P2 : Int) = (P2 : Int) := by rw [IntKind.wrap_u64]; omega
            rw [h1, u64_xor x _ hx hpow, hz]
          have HZ := Lib.hid hz
          clear hz hpow
          go_wp2
          refine wp_region_planH (fun y => y.cell? ⟨m, 1, none⟩ = some (.slice (some ⟨g, 0, none⟩) W W)) [(0, true), (1, true), (2, true), (3, true), (4, true), (5, true), (6, true), (8, true), (9, true), (10, true), (7, false), (11, true), (12, true), (13, false)] (by kernel_rfl) (by kernel_rfl) (fun _ _ _ _ _ h => h) k1 ?_
          (repeat (refine wpPlanH_free rfl (fun K hK => ?_); go_simp; (try go_bits); refine hK _ ?_; clear hK K))
          refine wpPlanH_load (.slice (some ⟨g, 0, none⟩) W W) rfl rfl (fun y hS => by go_simp) (fun K hK => ?_)
          refine hK _ ?_
          clear hK K
          (repeat (refine wpPlanH_free rfl (fun K hK => ?_); go_simp; (try go_bits); refine hK _ ?_; clear hK K))
          refine wpPlanH_sole rfl ?_
          go_wp2
          refine ⟨k1, ?_⟩
          (repeat (refine wpPlanH_free rfl (fun K hK => ?_); go_simp; (try go_bits); refine hK _ ?_; clear hK K))
          refine wpPlanH_sole rfl ?_
          go_wp2
          obtain ⟨w1, hw1⟩ : ∃ y, y = (wr.setCell ⟨g, p / 64, none⟩ (.int .u64 (z : Int))).drew := ⟨_, rfl⟩
          rw [← hw1]
          have ne := HM.out.ne
          have hd1 : Row w1 m 86 [.int .i64 n, .slice (some ⟨g, 0, none⟩) ((n + 63) / 64) ((n + 63) / 64)] := by rw [hw1]; exact (HM.out.head.setOther (Ne.symm ne) _).drew
          have M1 : MapAt w1 m g n (fill b F (j + 1) (!was)) := by
            rw [hNX.out]
            refine ⟨hd1, ?_, fun i hi => ?_, hsm, ne⟩
            · rw [wordsB_turn b' _ p (by rw [← HWW.out]; exact hjW), ← HXE.out, ← HZ.out, List.map_set, hw1]
              exact (HM.out.data.set _ _).drew
            · unfold turn
              rw [if_neg (by omega)]; exact HM.out.out i hi
          have U1 : Upd [g] w w1 := by rw [hw1]; exact (HU.out.setCell (by simp) _).drew
          have k2 := hd1.cell (i := 1) rfl
          rw [← HWW.out] at k2
          have HM1 := Lib.hid M1
          have HU1 := Lib.hid U1
          clear hw1 hd1 M1 U1 k1 kc kf
          refine ⟨k2, wpPlanH_nil ?_⟩
          go_wp2
          go_roundw
          case rel => exact ⟨j + 1, by omega, by go_num, HM1.out, HU1.out⟩
          case measure => simp [intOf]; omega
        · obtain rfl : k = j := by omega
          go_wp2
          go_ret
          exact .inl ⟨hr.out, rfl, HM.out, HU.out⟩

theorem c_change (m g n : Nat) (b : Nat → Bool) (w : World) (h : MapAt w m g n b) (f q : Int) (was : Bool) (no : Int) (hf0 : -9223372036854775808 ≤ f) (hf1 : f ≤ 9223372036854775807) (hq1 : q ≤ 9223372036854775807) :
    Calls Try.prog 41 #[.pointer (some ⟨m, 0, none⟩), .int .i64 f, .int .i64 q, .bool was, .int .i64 no] w (ChgPost m g n b f q was no w) := by
  by_cases hok : okRun n f q
  · have hk := hok
    unfold okRun at hk
    obtain ⟨F, rfl⟩ := Int.eq_ofNat_of_zero_le hk.2.1
    obtain ⟨Q, rfl⟩ := Int.eq_ofNat_of_zero_le (show 0 ≤ q from by omega)
    refine (c_changeYes m g n b w h F Q was no (by omega) (by omega)).mono ?_
    unfold ChgPost chgE chgB
    rw [if_pos hok, Int.toNat_natCast, Int.toNat_natCast]
    rintro e w' (⟨hr, rfl, h1, h2⟩ | ⟨hr, rfl, rfl⟩)
    · rw [if_pos hr, if_pos ⟨hok, hr⟩]
      exact ⟨rfl, h1, h2⟩
    · rw [if_neg hr, if_neg (fun h => hr h.2)]
      exact ⟨rfl, h, Upd.refl _ _⟩
  · refine (c_changeNo m g n b w h f q was no hf0 hf1 hq1 hok).mono ?_
    rintro e w' ⟨rfl, rfl⟩
    unfold ChgPost chgE chgB
    rw [if_neg hok, if_neg (fun h => hok h.1)]
    exact ⟨rfl, h, Upd.refl _ _⟩

theorem c_Take (m g n : Nat) (b : Nat → Bool) (w : World) (h : MapAt w m g n b) (f q : Int) (hf0 : -9223372036854775808 ≤ f) (hf1 : f ≤ 9223372036854775807) (hq1 : q ≤ 9223372036854775807) :
    Calls Try.prog 28 #[.pointer (some ⟨m, 0, none⟩), .int .i64 f, .int .i64 q] w (ChgPost m g n b f q false 3 w) := by
  have HC := Lib.hid (c_change m g n b w h f q false 3 hf0 hf1 hq1)
  clear h
  go_enter Try.func28, Try.ntmps28
  go_wp2_with fail
  refine HC.out.mono ?_
  rintro e w' ⟨rfl, h1, h2⟩
  have H1 := Lib.hid h1
  have H2 := Lib.hid h2
  clear h1 h2
  go_wp2
  go_ret
  exact ⟨rfl, H1.out, H2.out⟩

theorem c_BFree (m g n : Nat) (b : Nat → Bool) (w : World) (h : MapAt w m g n b) (f q : Int) (hf0 : -9223372036854775808 ≤ f) (hf1 : f ≤ 9223372036854775807) (hq1 : q ≤ 9223372036854775807) :
    Calls Try.prog 34 #[.pointer (some ⟨m, 0, none⟩), .int .i64 f, .int .i64 q] w (ChgPost m g n b f q true 4 w) := by
  have HC := Lib.hid (c_change m g n b w h f q true 4 hf0 hf1 hq1)
  clear h
  go_enter Try.func34, Try.ntmps34
  go_wp2_with fail
  refine HC.out.mono ?_
  rintro e w' ⟨rfl, h1, h2⟩
  have H1 := Lib.hid h1
  have H2 := Lib.hid h2
  clear h1 h2
  go_wp2
  go_ret
  exact ⟨rfl, H1.out, H2.out⟩

theorem c_TakeNil (f q : Int) (w : World) : Calls Try.prog 28 #[.pointer none, .int .i64 f, .int .i64 q] w fun e w' => e = .returned (.int .i64 1) ∧ w = w' := by
  have HC := Lib.hid (show Calls Try.prog 41 #[.pointer none, .int .i64 f, .int .i64 q, .bool false, .int .i64 3] w fun e w' => e = .returned (.int .i64 1) ∧ w = w' from by
    go_enter Try.func41, Try.ntmps41
    go_wp2
    go_ret
    exact ⟨rfl, rfl⟩)
  go_enter Try.func28, Try.ntmps28
  go_wp2_with fail
  refine HC.out.mono ?_
  rintro e w' ⟨rfl, rfl⟩
  go_wp2
  go_ret
  exact ⟨rfl, rfl⟩

end Go.Proofs.Ytpbokmmobepolaa
