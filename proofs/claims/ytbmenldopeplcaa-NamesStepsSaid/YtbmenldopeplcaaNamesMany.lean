/-
  The walk of the law NamesMany.
-/
import Derived.Test.YtbmenldopeplcaaNamesLeast
namespace Go.Proofs.Ytbmenldopeplcaa
open Go.RowKit
set_option linter.unusedVariables false
set_option maxHeartbeats 2000000
set_option maxRecDepth 100000

theorem live_append (a b : List Int) : live (a ++ b) = live a + live b := by
  unfold live
  rw [List.filter_append, List.length_append]

theorem slotsTo_live (l : List Int) : ∀ k, k ≤ l.length → (slotsTo l k).length = live (l.take k)
  | 0, _ => by simp [slotsTo, live]
  | k + 1, h => by
    rw [slotsTo_succ, List.take_add_one, List.length_append, live_append, slotsTo_live l k (by omega), getD_at (show k < l.length by omega)]
    congr 1
    by_cases hz : l.getD k 0 = 0
    · rw [if_pos hz, hz]; rfl
    · rw [if_neg hz]
      show 1 = live [l.getD k 0]
      rw [live_cons, if_neg hz]; rfl
theorem slotsL_live (l : List Int) : (slotsL l).length = live l := by
  unfold slotsL
  rw [slotsTo_live l _ (Nat.le_refl _), List.take_length]

theorem slotsL_mem {l : List Int} {s : Int} : s ∈ slotsL l ↔ ∃ i : Nat, i < l.length ∧ l.getD i 0 ≠ 0 ∧ s = ((i + 1 : Nat) : Int) := by
  unfold slotsL slotsTo
  simp only [List.mem_map, List.mem_filter, List.mem_range, bne_iff_ne, ne_eq]
  constructor
  · rintro ⟨i, ⟨h1, h2⟩, rfl⟩; exact ⟨i, h1, h2, rfl⟩
  · rintro ⟨i, h1, h2, rfl⟩; exact ⟨i, ⟨h1, h2⟩, rfl⟩

theorem slotsL_nodup (l : List Int) : (slotsL l).Nodup := by
  unfold slotsL slotsTo
  have h := (List.nodup_range (n := l.length)).filter (fun i => l.getD i 0 != 0)
  unfold List.Nodup at h ⊢
  rw [List.pairwise_map]
  exact h.imp (fun {a b} hab he => hab (by omega))

theorem ok_all (l : List Int) : FreeOk l (slotsL l) := by
  refine ⟨fun s hs => ?_, slotsL_nodup l⟩
  obtain ⟨i, h1, h2, rfl⟩ := slotsL_mem.1 hs
  exact has8_of h1 h2

theorem freeL_zero : ∀ (ls l : List Int) (i : Nat), l.getD i 0 = 0 → (freeL l ls).getD i 0 = 0
  | [], l, i, h => h
  | s :: ls, l, i, h => by
    refine freeL_zero ls (l.set (s - 1).toNat 0) i ?_
    by_cases he : (s - 1).toNat = i
    · by_cases hl : i < l.length
      · rw [← he]; exact getD_set_same (by omega) 0
      · rw [List.getD_eq_getElem?_getD, List.getElem?_eq_none (by rw [List.length_set]; omega)]; rfl
    · rw [getD_set_other he]; exact h
theorem freeL_in : ∀ (ls l : List Int) (i : Nat), i < l.length → ((i + 1 : Nat) : Int) ∈ ls → (freeL l ls).getD i 0 = 0
  | [], l, i, _, h => by simp at h
  | s :: ls, l, i, hl, h => by
    show (freeL (l.set (s - 1).toNat 0) ls).getD i 0 = 0
    rcases List.mem_cons.1 h with h | h
    · refine freeL_zero ls _ i ?_
      have : (s - 1).toNat = i := by omega
      rw [this]; exact getD_set_same hl 0
    · exact freeL_in ls _ i (by rw [List.length_set]; exact hl) h

theorem free_all (l : List Int) : freeL l (slotsL l) = List.replicate l.length 0 := by
  apply List.ext_getElem (by rw [freeL_len, List.length_replicate])
  intro i h1 h2
  have hl : i < l.length := by rw [freeL_len] at h1; exact h1
  have key : (freeL l (slotsL l)).getD i 0 = 0 := by
    by_cases hz : l.getD i 0 = 0
    · exact freeL_zero _ _ _ hz
    · exact freeL_in _ _ _ hl (slotsL_mem.2 ⟨i, hl, hz, rfl⟩)
  rw [List.getD_eq_getElem?_getD, List.getElem?_eq_getElem h1] at key
  simpa using key

/-- All slots that are not free are freed. -/
theorem c_FreeAll (t gi gh N : Nat) (l : List Int) (w : World) (h : Tab w t gi gh N l) (a : Option Addr) (n c B : Nat) (hn : n = (slotsL l).length) (hr : Reads w a c ((slotsL l).map (Value.int .i64))) (hb : ∀ x, a = some x → B ≤ x.block) (h1 : t < B) (h2 : gi < B) (h3 : gh < B) (hc : n ≤ c) :
    Calls Try.prog 33 #[.pointer (some ⟨t, 0, none⟩), .slice a n c] w fun e w' => e = .returned (.int .i64 0) ∧ Tab w' t gi gh N (List.replicate N 0) ∧ Upd [t, gi, gh] w w' := by
  have hl := h.len
  have hs := h.small
  have hsl := slotsTo_len l l.length
  refine (c_Free t gi gh N l w h a n c (slotsL l) hn hr (fun x hx => ?_) (fun x hx => ?_) (by rw [hn]; unfold slotsL; omega) hc).mono ?_
  · have := hb x hx
    exact ⟨by omega, by omega, by omega⟩
  · obtain ⟨i, hi, _, rfl⟩ := slotsL_mem.1 hx
    constructor <;> omega
  · rintro e w' (⟨_, rfl, h4, h5⟩ | ⟨h4, _⟩)
    · rw [free_all, hl] at h4
      exact ⟨rfl, h4, h5⟩
    · exact absurd (ok_all l) h4

/-- The numbers that are bound. -/
def idN (F S : Int) (k : Nat) : Int := F + (k : Int) * S
theorem idN_inj {F S : Int} (hS : 1 ≤ S) {i j : Nat} (h : idN F S i = idN F S j) : i = j := by
  unfold idN at h
  have h2 : (i : Int) * S = (j : Int) * S := by omega
  have := Int.eq_of_mul_eq_mul_right (by omega) h2
  omega
theorem mul_bound {S : Int} (h0 : 1 ≤ S) (h1 : S ≤ 65536) {k : Nat} (hk : k ≤ 255) : 0 ≤ (k : Int) * S ∧ (k : Int) * S ≤ 16711680 := by
  refine ⟨Int.mul_nonneg (by omega) (by omega), ?_⟩
  have : (k : Int) * S ≤ 255 * 65536 := Int.mul_le_mul (by omega) h1 (by omega) (by omega)
  omega

/-- The first n slots are bound to the first n numbers. -/
def ManyN (F S : Int) (n : Nat) (l : List Int) : Prop := Packed n l ∧ ∀ i, i < n → l.getD i 0 = idN F S i

theorem ManyN.new {F S : Int} (hS : 1 ≤ S) {n : Nat} {l : List Int} (h : ManyN F S n l) (hid : 1 ≤ idN F S n) : find8 l (idN F S n) = 0 := by
  refine find8_no (fun hm => ?_)
  obtain ⟨i, hi, he⟩ := List.getElem_of_mem hm
  have h1 : l.getD i 0 = idN F S n := by rw [List.getD_eq_getElem?_getD, List.getElem?_eq_getElem hi]; exact he
  by_cases hin : i < n
  · rw [h.2 i hin] at h1
    have := idN_inj hS h1
    omega
  · rw [h.1.2.2 i (by omega)] at h1
    omega
theorem ManyN.next {F S : Int} {n : Nat} {l : List Int} (h : ManyN F S n l) (hn : n < l.length) (hid : 1 ≤ idN F S n) : ManyN F S (n + 1) (l.set n (idN F S n)) := by
  refine ⟨h.1.bind hn (by omega), fun i hi => ?_⟩
  by_cases he : n = i
  · subst he; exact getD_set_same hn _
  · rw [getD_set_other he]; exact h.2 i (by omega)
theorem ManyN.find {F S : Int} (hS : 1 ≤ S) {n : Nat} {l : List Int} (h : ManyN F S n l) {k : Nat} (hk : k < n) (hid : 1 ≤ idN F S k) : find8 l (idN F S k) = k + 1 := by
  have hl := h.1.1
  have hi : Go.Proofs.Ytbmenldopeplcaa.idx l (idN F S k) = some k := idx_some (by omega) (h.2 k hk) (fun j hj he => by
    rw [h.2 j (by omega)] at he
    have := idN_inj hS he
    omega)
  unfold find8
  rw [if_neg (by omega), hi]

theorem law_NamesMany (a0 : Int) (a1 : Int) (a2 : Int) (w : World) (w0 : (Lit.int .u8 a0).wf = true) (w1 : (Lit.int .u32 a1).wf = true) (w2 : (Lit.int .u16 a2).wf = true) :
    Calls Try.prog 9 #[.int .u8 a0, .int .u32 a1, .int .u16 a2] w fun e w' => e = .returned (.bool true) ∧ Below w.heap.size w w' := by
  obtain ⟨b0, b1⟩ := bounds_u8 w0
  obtain ⟨b2, b3⟩ := bounds_u32 w1
  obtain ⟨b4, b5⟩ := bounds_u16 w2
  clear w0 w1 w2
  obtain ⟨N, rfl⟩ := Int.eq_ofNat_of_zero_le b0
  obtain ⟨F, hF⟩ : ∃ F : Int, 1 + a1 = F := ⟨_, rfl⟩
  obtain ⟨S, hS⟩ : ∃ S : Int, 1 + a2 = S := ⟨_, rfl⟩
  have F1 : 1 ≤ F := by omega
  have F2 : F ≤ 4294967296 := by omega
  have S1 : 1 ≤ S := by omega
  have S2 : S ≤ 65536 := by omega
  have hN : N ≤ 255 := by omega
  go_enter Try.func9, Try.ntmps9
  go_wp2_with fail
  refine (c_NewTYes N _ (by omega)).mono ?_
  rintro e w1 ⟨t, gi, gh, rfl, h1, h2, h3, T1, U1⟩
  have HIN := Lib.hid (show ∀ k ∈ [t, gi, gh], w.heap.size ≤ k from fun k hk => by simp at hk; rcases hk with rfl | rfl | rfl <;> assumption)
  have HT1 := Lib.hid T1
  have HU1 := Lib.hid (U1.mono (m := [t, gi, gh]) (by simp))
  clear T1 U1 h1 h2 h3
  go_wp2_with fail
  go_loopw [10] (fun i wr => ∃ (k : Nat) (l : List Int), k ≤ N ∧ i = .int .i64 k ∧ Hid (ManyN F S k l) ∧ Hid (Tab wr t gi gh N l) ∧ Hid (Upd [t, gi, gh] w wr)) (fun i _ => N - (intOf i).toNat)
  case atStart => exact ⟨0, _, Nat.zero_le _, rfl, ⟨Packed.zero _, fun i hi => by omega⟩, HT1.out, HU1.out⟩
  case round =>
    obtain ⟨k, l, hk, rfl, HP, HT, HU⟩ := hrel
    have HB := Lib.hid (HU.out.below (Nat.le_refl _) HIN.out)
    have hlen := HT.out.len
    have hmb := mul_bound S1 S2 (show k ≤ 255 by omega)
    obtain ⟨P, hP⟩ : ∃ P : Int, (k : Int) * S = P := ⟨_, rfl⟩
    rw [hP] at hmb
    have hid : F + P = idN F S k := by unfold idN; rw [hP]
    have hid1 : 1 ≤ idN F S k := by omega
    have hid2 : idN F S k ≤ 4311678976 := by omega
    have hf := HP.out.new S1 hid1
    by_cases hlt : k < N
    · obtain ⟨e1, e2, e3⟩ := bind_new hid1 hf (HP.out.1.idx (by omega))
      have HBind := Lib.hid (c_BindTo t gi gh N l wr HT.out (idN F S k) (by omega) ((k : Int) + 1) 0 _ (by rw [e1]; rfl) e2 e3)
      have HP2 := Lib.hid (HP.out.next (by omega) hid1)
      clear e1 e2 e3 hf
      generalize idN F S k = x at *
      go_wp2_with fail
      refine HBind.out.mono ?_
      rintro e w4 ⟨rfl, T4, U4⟩
      have HT4 := Lib.hid T4
      have HU4 := Lib.hid (HU.out.trans U4)
      clear T4 U4
      go_wp2
      go_roundw
      case rel => exact ⟨k + 1, _, by omega, by go_num, HP2.out, HT4.out, HU4.out⟩
      case measure => simp [intOf]; omega
    · obtain rfl : N = k := by omega
      have hi : Go.Proofs.Ytbmenldopeplcaa.idx l 0 = none := idx_none (fun j hj => HP.out.1.2.1 j (by omega))
      obtain ⟨e1, e2, e3⟩ := bind_full hid1 hf hi
      have HBind := Lib.hid (c_BindTo t gi gh N l wr HT.out (idN F S N) (by omega) 0 3 l (by rw [e1]; rfl) e2 e3)
      clear e1 e2 e3 hf hi
      generalize idN F S N = x at *
      obtain ⟨wA, rfl⟩ : ∃ x, x = wr := ⟨_, rfl⟩
      go_wp2_with fail
      refine HBind.out.mono ?_
      rintro e w4 ⟨rfl, T4, U4⟩
      have HT4 := Lib.hid T4
      have HU4 := Lib.hid (HU.out.trans U4)
      clear T4 U4 hid hid1 hid2 hP
      go_wp2_with fail
      go_loop [15] (fun i => ∃ (k : Nat), k ≤ N ∧ i = .int .i64 k) (fun i => N - (intOf i).toNat)
      case atStart => exact ⟨0, Nat.zero_le _, rfl⟩
      case round =>
        obtain ⟨k, hk, rfl⟩ := hrel
        by_cases hlt : k < N
        · have hmb := mul_bound S1 S2 (show k ≤ 255 by omega)
          obtain ⟨P2, hP2⟩ : ∃ P : Int, (k : Int) * S = P := ⟨_, rfl⟩
          rw [hP2] at hmb
          have hid : F + P2 = idN F S k := by unfold idN; rw [hP2]
          have hid1 : 1 ≤ idN F S k := by omega
          have hid2 : idN F S k ≤ 4311678976 := by omega
          have hf := HP.out.find S1 hlt hid1
          have HS := Lib.hid (c_Slot t gi gh N l w4 HT4.out (idN F S k) (by omega))
          have HI := Lib.hid (c_ID t gi gh N l w4 HT4.out ((k : Int) + 1) (by omega) (by omega))
          rw [hf, show ((k + 1 : Nat) != 0) = true from rfl] at HS
          rw [HP.out.1.has hlt, if_pos rfl, show ((k : Int) + 1 - 1).toNat = k from by omega, HP.out.2 k hlt] at HI
          clear hf
          generalize idN F S k = y at *
          go_wp2_with (first
            | (go_at_call 32; refine HS.out.mono ?_; rintro e w' ⟨rfl, rfl⟩)
            | (go_at_call 34; refine HI.out.mono ?_; rintro e w' ⟨rfl, rfl⟩))
          go_round
          case rel => exact ⟨k + 1, by omega, by go_num⟩
          case measure => simp [intOf]; omega
        · obtain rfl : k = N := by omega
          go_wp2_with fail
          refine (c_Slots t gi gh k _ _ HT4.out).mono ?_
          rintro e w5 ⟨v, rfl, own, bel⟩
          obtain ⟨a, c, rfl, hr, hc, hb⟩ := owns_reads own
          have HF5 := Lib.hid (c_FreeAll t gi gh k l w5 (HT4.out.below bel) a _ c w4.heap.size rfl hr (fun x hx => (hb x hx).1) HT4.out.lt.1 HT4.out.lt.2.1 HT4.out.lt.2.2 hc)
          have hln : (slotsL l).length = k := by rw [slotsL_live, HP.out.1.live]
          rw [hln] at HF5 ⊢
          have HU5 := Lib.hid (HU4.out.trans (.of_below bel))
          clear own bel hr hc hb hln
          go_wp2_with fail
          refine HF5.out.mono ?_
          rintro e w6 ⟨rfl, T6, U6⟩
          have HT6 := Lib.hid T6
          have HU6 := Lib.hid (HU5.out.trans U6)
          clear T6 U6
          go_wp2_with fail
          refine (c_Slots t gi gh k _ _ HT6.out).mono ?_
          rintro e w7 ⟨v, rfl, own, bel⟩
          unfold slotsL at own
          rw [slotsTo_zeros] at own
          obtain ⟨a', c', rfl, hr, hc, hb⟩ := owns_reads own
          have HU7 := Lib.hid (HU6.out.trans (.of_below bel))
          have HR7 := Lib.hid hr
          clear own bel hr hc hb
          go_wp2_with fail
          refine (c_SameInts _ _ _ _ _ _ [] [] w7 rfl rfl HR7.out (Reads.nil w7) (by decide) (by decide)).mono ?_
          rintro e w8 ⟨rfl, bel⟩
          have HB8 := Lib.hid (bNext (HU7.out.below (Nat.le_refl _) HIN.out) bel)
          clear bel
          go_wp2_with (go_at_call 28; refine (c_known08 _).mono ?_; rintro e w' ⟨rfl, hbel⟩)
          go_ret
          exact ⟨rfl, bNext HB8.out hbel⟩

end Go.Proofs.Ytbmenldopeplcaa
