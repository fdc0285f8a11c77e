/-
  Contracts of package names.
-/
import Derived.Test.YtbmenldopeplcaaInts
import Derived.Test.YtbmenldopeplcaaNamesPlain
namespace Go.Proofs.Ytbmenldopeplcaa
open Go.RowKit
set_option linter.unusedVariables false
set_option maxHeartbeats 1000000

/-- How many are not free. -/
def live (l : List Int) : Nat := (l.filter (fun x => x != 0)).length

structure TableAt (w : World) (t gi gh N : Nat) (l hash : List Int) : Prop where
  head : Row w t 84 [.slice (some ⟨gi, 0, none⟩) (N + 1) (N + 1), .slice (some ⟨gh, 0, none⟩) (2 * N + 1) (2 * N + 1), .int .i64 (live l)]
  ri : Row w gi 3 ((0 :: l).map (Value.int .i64))
  ra : Row w gh 3 (hash.map (Value.int .i64))
  good : Good N (0 :: l) hash
  small : N ≤ 16383
  n1 : t ≠ gi
  n2 : t ≠ gh
  n3 : gi ≠ gh

/-- A table, told by whose its slots are. -/
def Tab (w : World) (t gi gh N : Nat) (l : List Int) : Prop := ∃ hash, TableAt w t gi gh N l hash

theorem TableAt.keep {w w' : World} {t gi gh N : Nat} {l hash : List Int} (h : TableAt w t gi gh N l hash) {m : List Nat} (u : Upd m w w') (h1 : t ∉ m) (h2 : gi ∉ m) (h3 : gh ∉ m) : TableAt w' t gi gh N l hash :=
  ⟨h.head.keep u h1, h.ri.keep u h2, h.ra.keep u h3, h.good, h.small, h.n1, h.n2, h.n3⟩
theorem Tab.keep {w w' : World} {t gi gh N : Nat} {l : List Int} (h : Tab w t gi gh N l) {m : List Nat} (u : Upd m w w') (h1 : t ∉ m) (h2 : gi ∉ m) (h3 : gh ∉ m) : Tab w' t gi gh N l := by
  obtain ⟨hash, h⟩ := h
  exact ⟨hash, h.keep u h1 h2 h3⟩

theorem c_Size (t gi gh N : Nat) (l : List Int) (w : World) (h : Tab w t gi gh N l) : Calls Try.prog 41 #[.pointer (some ⟨t, 0, none⟩)] w fun e w' => e = .returned (.int .i64 N) ∧ w = w' := by
  obtain ⟨hash, h⟩ := h
  have k1 := h.head.cell (i := 0) rfl
  have hn := h.small
  have h2 : (((N + 1 : Nat) : Int) - 1) = N := by omega
  clear h
  go_enter Try.func41, Try.ntmps41
  go_wp2
  go_ret
  exact ⟨rfl, rfl⟩

theorem c_LenT (t gi gh N : Nat) (l : List Int) (w : World) (h : Tab w t gi gh N l) : Calls Try.prog 30 #[.pointer (some ⟨t, 0, none⟩)] w fun e w' => e = .returned (.int .i64 (live l)) ∧ w = w' := by
  obtain ⟨hash, h⟩ := h
  have k1 := h.head.cell (i := 2) rfl
  clear h
  go_enter Try.func30, Try.ntmps30
  go_wp2
  go_ret
  exact ⟨rfl, rfl⟩

theorem home_int (H : Nat) (id : Int) (h : 0 ≤ id) (hH : 0 < H) (hs : H ≤ 32767) : wrap64 ((IntKind.u64.wrap (id * 2654435761)).tmod (H : Int)) = ((home H id : Nat) : Int) := by
  obtain ⟨n, rfl⟩ := Int.eq_ofNat_of_zero_le h
  have h1 := home_lt hH (n : Int)
  have h2 : (IntKind.u64.wrap ((n : Int) * 2654435761)).tmod (H : Int) = ((home H n : Nat) : Int) := by
    rw [IntKind.wrap_u64, Int.tmod_eq_emod_of_nonneg (by omega)]
    unfold home
    simp
  rw [h2]
  unfold wrap64
  omega
theorem spot0 (H : Nat) (id : Int) (h : 0 < H) : spot H id 0 = home H id := by
  unfold spot
  rw [Nat.add_zero, Nat.mod_eq_of_lt (home_lt h id)]
theorem spot_next (H : Nat) (id : Int) (i : Nat) : (((spot H id i : Nat) : Int) + 1) % (H : Int) = ((spot H id (i + 1) : Nat) : Int) := by
  unfold spot
  rw [show (((home H id + i) % H : Nat) : Int) + 1 = (((home H id + i) % H + 1 : Nat) : Int) from by simp]
  rw [← Int.natCast_emod, Nat.mod_add_mod, Nat.add_assoc]

/-- What the search tells. -/
def FindPost (N : Nat) (ids hash : List Int) (id : Int) (w : World) (e : Ending) (w' : World) : Prop :=
  ∃ k : Nat, k < 2 * N + 1 ∧ w = w' ∧ ((e = .returned (.tuple #[.int .i64 k, .bool true]) ∧ ∃ s : Nat, 0 < s ∧ s ≤ N ∧ hash.getD k 0 = s ∧ ids.getD s 0 = id) ∨ (e = .returned (.tuple #[.int .i64 k, .bool false]) ∧ Free8 N ids hash id k))

theorem free_lt {N : Nat} {ids hash : List Int} {id : Int} {k : Nat} (h : Free8 N ids hash id k) : k < 2 * N + 1 := by
  obtain ⟨_, _, j, hj, rfl, _⟩ := h
  exact spot_lt (by omega) _ _

theorem c_find (t gi gh N : Nat) (l hash : List Int) (w : World) (h : TableAt w t gi gh N l hash) (id : Int) (h0 : 0 < id) (h1 : id ≤ 9223372036854775807) :
    Calls Try.prog 46 #[.pointer (some ⟨t, 0, none⟩), .int .i64 id] w (FindPost N (0 :: l) hash id w) := by
  have k0 := h.head.cell (i := 0) rfl
  have k1 := h.head.cell (i := 1) rfl
  have hsm := h.small
  have HI := Lib.hid h.ri
  have HA := Lib.hid h.ra
  have HG := Lib.hid h.good
  generalize 0 :: l = ids at *
  obtain ⟨H, hH⟩ : ∃ H, H = 2 * N + 1 := ⟨_, rfl⟩
  rw [← hH] at k1
  have hHs : H ≤ 32767 := by omega
  have hH0 : 0 < H := by omega
  have h2 := home_int H id (by omega) hH0 hHs
  have h3 := spot0 H id hH0
  rw [← h3] at h2
  have H2 := Lib.hid h2
  clear h3 h2
  have HHH := Lib.hid hH
  have hid0 : id ≠ 0 := by omega
  clear h hH
  go_enter Try.func46, Try.ntmps46
  go_wp2
  go_step3
  go_wp2
  go_step3
  go_wp2
  go_loop [6, 7, 25] (fun o p i => ∃ (k : Nat) (op : Int), k ≤ H ∧ o = .int .i64 op ∧ p = .int .i64 (spot H id k) ∧ i = .int .i64 k ∧ Hid (Seen N ids hash id k op)) (fun _ _ i => H - (intOf i).toNat)
  case atStart => exact ⟨0, -1, Nat.zero_le _, rfl, by rw [H2.out], rfl, Seen.start _ _ _ _⟩
  case round =>
    obtain ⟨k, op, hk, rfl, rfl, rfl, hs⟩ := hrel
    have HA0 := Lib.hid hk
    by_cases hlt : k < H
    · have hsl := spot_lt hH0 id k
      have hnx := spot_next H id k
      have hlen := HG.out.lh
      have hsl2 : spot H id k < hash.length := by rw [hlen, ← HHH.out]; exact hsl
      have kc := HA.out.cell (getD_map8 (k := .i64) hsl2)
      have hrng := HG.out.hr (spot H id k)
      obtain ⟨v, hv⟩ : ∃ v, v = hash.getD (spot H id k) 0 := ⟨_, rfl⟩
      rw [← hv] at kc hrng
      have HV := Lib.hid hv
      obtain ⟨p, hp⟩ : ∃ p, p = spot H id k := ⟨_, rfl⟩
      obtain ⟨p2, hp2⟩ : ∃ p, p = spot H id (k + 1) := ⟨_, rfl⟩
      have HP := Lib.hid hp
      have HP2 := Lib.hid hp2
      rw [← hp] at hsl hnx kc
      rw [← hp2] at hnx
      rw [← hp]
      clear hv hp hp2 hlen hsl2
      by_cases hv0 : v = 0
      · subst hv0
        have hz := hs.out.zero HG.out hid0 (by rw [← HHH.out]; exact hlt) (by rw [← HHH.out]; exact HV.out.symm)
        rw [← HHH.out, ← HP.out] at hz
        clear hrng hnx
        by_cases hop : op = -1
        · subst hop
          obtain ⟨q, hq, hf⟩ := hz
          rw [if_pos rfl] at hq
          have hqp : q = p := by omega
          subst hqp
          have HF := Lib.hid hf
          clear hf hq hs
          go_wp2
          go_ret2
          exact ⟨q, by rw [← HHH.out]; exact hsl, rfl, .inr ⟨rfl, HF.out⟩⟩
        · rw [if_neg hop] at hz
          obtain ⟨q, rfl, hf⟩ := hz
          have HF := Lib.hid hf
          clear hf hs
          go_wp2
          go_ret2
          exact ⟨q, free_lt HF.out, rfl, .inr ⟨rfl, HF.out⟩⟩
      · by_cases hv1 : v = -1
        · subst hv1
          have hg := Lib.hid (hs.out.gone (by rw [← HHH.out]; exact HV.out.symm))
          by_cases hop : op = -1
          · subst hop
            rw [← HHH.out, ← HP.out] at hg
            have hg2 : Hid (Seen N ids hash id (k + 1) (p : Int)) := by have := hg.out; rwa [if_pos rfl] at this
            clear hg hs hrng
            go_wp2
            go_round
            case rel => exact ⟨k + 1, _, by omega, rfl, by rw [← HP2.out]; exact congrArg _ hnx, by go_num, hg2⟩
            case measure => simp [intOf]; omega
          · have hg2 : Hid (Seen N ids hash id (k + 1) op) := by have := hg.out; rwa [if_neg hop] at this
            clear hg hs hrng
            go_wp2
            go_round
            case rel => exact ⟨k + 1, _, by omega, rfl, by rw [← HP2.out]; exact congrArg _ hnx, by go_num, hg2⟩
            case measure => simp [intOf]; omega
        · obtain ⟨s, rfl⟩ := Int.eq_ofNat_of_zero_le (show 0 ≤ v from by omega)
          have hsN : s < N + 1 := by omega
          have hs0 : 0 < s := by omega
          have ks := HI.out.cell (getD_map8 (k := .i64) (show s < ids.length from by rw [HG.out.li]; exact hsN))
          have HO := Lib.hid (fun h : ids.getD s 0 ≠ id => hs.out.other (by rw [← HHH.out, ← HV.out]; omega) (by rw [← HHH.out, ← HV.out, Int.toNat_natCast]; exact h))
          obtain ⟨y, hy⟩ : ∃ y, y = ids.getD s 0 := ⟨_, rfl⟩
          rw [← hy] at ks
          have HY := Lib.hid hy
          clear hy hrng hs
          by_cases hyi : y = id
          · subst hyi
            clear HO hnx
            go_wp2
            go_ret2
            exact ⟨p, by rw [← HHH.out]; exact hsl, rfl, .inl ⟨rfl, s, hs0, by omega, by rw [HP.out, ← HV.out], HY.out.symm⟩⟩
          · have hg2 := Lib.hid (HO.out (by rw [← HY.out]; exact hyi))
            clear HO
            go_wp2
            go_round
            case rel => exact ⟨k + 1, _, by omega, rfl, by rw [← HP2.out]; exact congrArg _ hnx, by go_num, hg2⟩
            case measure => simp [intOf]; omega
    · obtain rfl : k = H := by omega
      have hz := Seen.all HG.out hid0 (by rw [← HHH.out]; exact hs.out)
      obtain ⟨q, rfl, hf⟩ := hz
      have HF := Lib.hid hf
      clear hf hs
      go_wp2
      go_ret2
      exact ⟨q, free_lt HF.out, rfl, .inr ⟨rfl, HF.out⟩⟩

end Go.Proofs.Ytbmenldopeplcaa
