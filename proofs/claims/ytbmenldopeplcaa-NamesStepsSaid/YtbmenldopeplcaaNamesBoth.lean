/-
  The walk of the law NamesBoth.
-/
import Derived.Test.YtbmenldopeplcaaNamesMany
namespace Go.Proofs.Ytbmenldopeplcaa
open Go.RowKit
set_option linter.unusedVariables false
set_option maxHeartbeats 2000000
set_option maxRecDepth 100000

/-- An id that was to be bound: it is none, or it has a slot, or no slot is free. -/
def Done (l : List Int) (x : Int) : Prop := x < 1 ∨ find8 l x ≠ 0 ∨ idx l 0 = none

theorem find8_is {l : List Int} {x : Int} (h : find8 l x ≠ 0) : ∃ k, find8 l x = k + 1 ∧ k < l.length ∧ l.getD k 0 = x ∧ 1 ≤ x := by
  unfold find8 at h ⊢
  by_cases h1 : x < 1
  · rw [if_pos h1] at h; exact absurd rfl h
  · rw [if_neg h1] at h ⊢
    cases hi : Go.Proofs.Ytbmenldopeplcaa.idx l x with
    | none => rw [hi] at h; exact absurd rfl h
    | some k =>
      obtain ⟨h2, h3, _⟩ := idx_is hi
      exact ⟨k, rfl, h2, h3, by omega⟩
theorem find8_in {l : List Int} {x : Int} (h : x ∈ l) (h1 : 1 ≤ x) : find8 l x ≠ 0 := fun h0 => find8_not h0 h1 h

theorem mem_set_other {l : List Int} {k : Nat} {x y : Int} (h : x ∈ l) (hk : l.getD k 0 ≠ x) : x ∈ l.set k y := by
  obtain ⟨j, hj, he⟩ := List.getElem_of_mem h
  have hjk : k ≠ j := fun hkj => hk (by rw [hkj, List.getD_eq_getElem?_getD, List.getElem?_eq_getElem hj]; exact he)
  have : (l.set k y).getD j 0 = x := by rw [getD_set_other hjk, List.getD_eq_getElem?_getD, List.getElem?_eq_getElem hj]; exact he
  rw [← this]
  exact getD_mem (by rw [List.length_set]; exact hj)

theorem Done.self (l : List Int) (x : Int) : Done (bindL l x) x := by
  by_cases h1 : x < 1
  · exact .inl h1
  · by_cases hf : find8 l x = 0
    · cases hi : Go.Proofs.Ytbmenldopeplcaa.idx l 0 with
      | none =>
        obtain ⟨_, _, e⟩ := bind_full (by omega) hf hi
        rw [e]; exact .inr (.inr hi)
      | some k =>
        obtain ⟨_, _, e⟩ := bind_new (by omega) hf hi
        rw [e]
        refine .inr (.inl (find8_in ?_ (by omega)))
        have h8 := getD_set_same (idx_is hi).1 x
        have h9 := getD_mem (l := l.set k x) (k := k) (by rw [List.length_set]; exact (idx_is hi).1)
        rwa [h8] at h9
    · obtain ⟨_, _, e⟩ := bind_old (by omega) hf
      rw [e]; exact .inr (.inl hf)

theorem Done.next {l : List Int} {x : Int} (h : Done l x) (y : Int) : Done (bindL l y) x := by
  by_cases h1 : y < 1
  · rw [(bind_arg h1).2.2]; exact h
  · by_cases hf : find8 l y = 0
    · cases hi : Go.Proofs.Ytbmenldopeplcaa.idx l 0 with
      | none => rw [(bind_full (by omega) hf hi).2.2]; exact h
      | some k =>
        rw [(bind_new (by omega) hf hi).2.2]
        rcases h with h | h | h
        · exact .inl h
        · obtain ⟨j, _, hj, hjx, hx1⟩ := find8_is h
          refine .inr (.inl (find8_in (mem_set_other (by rw [← hjx]; exact getD_mem hj) ?_) hx1))
          rw [(idx_is hi).2.1]; omega
        · rw [hi] at h; cases h
    · rw [(bind_old (by omega) hf).2.2]; exact h

/-- Bound once more it is as it was. -/
theorem Done.again {l : List Int} {x : Int} (h : Done l x) : bindL l x = l ∧ bindS l x = find8 l x ∧ (bindE l x = 0 ↔ find8 l x ≠ 0) := by
  by_cases h1 : x < 1
  · obtain ⟨e1, e2, e3⟩ := bind_arg (l := l) h1
    have : find8 l x = 0 := by unfold find8; rw [if_pos h1]
    rw [e1, e2, e3, this]
    exact ⟨rfl, rfl, by simp⟩
  · by_cases hf : find8 l x = 0
    · have hi : Go.Proofs.Ytbmenldopeplcaa.idx l 0 = none := by
        rcases h with h | h | h
        · omega
        · exact absurd hf h
        · exact h
      obtain ⟨e1, e2, e3⟩ := bind_full (by omega) hf hi
      rw [e1, e2, e3, hf]
      exact ⟨rfl, rfl, by simp⟩
    · obtain ⟨e1, e2, e3⟩ := bind_old (by omega) hf
      rw [e1, e2, e3]
      exact ⟨rfl, rfl, by simp [hf]⟩

theorem has8_0 (l : List Int) : has8 l 0 = false := by unfold has8; simp
theorem twice_not {l ls : List Int} (h : 0 < ls.length) : ¬ FreeOk l (ls ++ ls) := fun hk => by
  obtain ⟨x, ls', rfl⟩ := List.exists_cons_of_length_pos h
  have := (List.nodup_append.1 hk.2).2.2 x (by simp) x (by simp)
  exact this rfl

theorem c_FreeTwice (t gi gh N : Nat) (l : List Int) (w : World) (h : Tab w t gi gh N l) (a : Option Addr) (n c B : Nat) (hn : n = (slotsL l ++ slotsL l).length) (hr : Reads w a c ((slotsL l ++ slotsL l).map (Value.int .i64))) (hb : ∀ x, a = some x → B ≤ x.block) (h1 : t < B) (h2 : gi < B) (h3 : gh < B) (hc : n ≤ c) (h0 : 0 < (slotsL l).length) :
    Calls Try.prog 33 #[.pointer (some ⟨t, 0, none⟩), .slice a n c] w fun e w' => e = .returned (.int .i64 4) ∧ w = w' := by
  have hl := h.len
  have hs := h.small
  have hsl := slotsTo_len l l.length
  have hln : (slotsL l).length ≤ N := by unfold slotsL; omega
  refine (c_Free t gi gh N l w h a n c _ hn hr (fun x hx => ?_) (fun x hx => ?_) (by rw [hn, List.length_append]; omega) hc).mono ?_
  · have := hb x hx
    exact ⟨by omega, by omega, by omega⟩
  · have hx2 : x ∈ slotsL l := by
      rcases List.mem_append.1 hx with h | h <;> exact h
    obtain ⟨i, hi, _, rfl⟩ := slotsL_mem.1 hx2
    constructor <;> omega
  · rintro e w' (⟨h4, _⟩ | ⟨_, rfl, rfl⟩)
    · exact absurd h4 (twice_not h0)
    · exact ⟨rfl, rfl⟩

theorem law_NamesBoth (a0 : Option Addr) (len0 cap0 : Nat) (z0 : List Int) (a1 : Int) (w : World) (w0 : Came .i64 w a0 len0 cap0 z0) (w1 : (Lit.int .u8 a1).wf = true) :
    Calls Try.prog 11 #[.slice a0 len0 cap0, .int .u8 a1] w fun e w' => e = .returned (.bool true) ∧ Below w.heap.size w w' := by
  obtain ⟨b0, b1⟩ := bounds_u8 w1
  obtain ⟨ls, el, hc0, hm0, hr0, hw0⟩ := w0.reads
  have hI : I64 ls := fun x hx => bounds_i64 (hw0 x hx)
  unfold maxLen at hm0
  obtain ⟨N, rfl⟩ := Int.eq_ofNat_of_zero_le b0
  have hN : N ≤ 255 := by omega
  have EL := Lib.hid el
  have HI := Lib.hid hI
  have HR := Lib.hid hr0
  clear el hI hr0 hw0 w0 w1
  by_cases h100 : 300 < len0
  · go_enter Try.func11, Try.ntmps11
    go_wp2_with (go_at_call 28; refine (c_known08 _).mono ?_; rintro e w' ⟨rfl, hbel⟩)
    go_ret
    exact ⟨rfl, hbel⟩
  · have hle : len0 ≤ 300 := by omega
    clear h100
    go_enter Try.func11, Try.ntmps11
    go_wp2_with fail
    refine (c_NewTYes N _ (by omega)).mono ?_
    rintro e w1 ⟨t, gi, gh, rfl, h1, h2, h3, T1, U1⟩
    have HIN := Lib.hid (show ∀ k ∈ [t, gi, gh], w.heap.size ≤ k from fun k hk => by simp at hk; rcases hk with rfl | rfl | rfl <;> assumption)
    have HT1 := Lib.hid T1
    have HU1 := Lib.hid (U1.mono (m := [t, gi, gh]) (by simp))
    clear T1 U1 h1 h2 h3
    go_wp2_with fail
    go_loopw [7] (fun i wr => ∃ (k : Nat) (l : List Int), k ≤ len0 ∧ i = .int .i64 k ∧ Hid (∀ j, j < k → Done l (ls.getD j 0)) ∧ Hid (Tab wr t gi gh N l) ∧ Hid (Upd [t, gi, gh] w wr)) (fun i _ => len0 - (intOf i).toNat)
    case atStart => exact ⟨0, _, Nat.zero_le _, rfl, fun j hj => by omega, HT1.out, HU1.out⟩
    case round =>
      obtain ⟨k, l, hk, rfl, HP, HT, HU⟩ := hrel
      have HB := Lib.hid (HU.out.below (Nat.le_refl _) HIN.out)
      by_cases hlt : k < len0
      · have hlt2 : k < ls.length := by have := EL.out; omega
        obtain ⟨b, off, rfl, hblt, hc⟩ := (HR.out.below HB.out).at (by simp; omega)
        have hcell := hc k _ (getD_map8 hlt2)
        have hx := HI.out _ (getD_mem hlt2)
        have HP2 : Hid (∀ j, j < k + 1 → Done (bindL l (ls.getD k 0)) (ls.getD j 0)) := fun j hj => by
          by_cases hjk : j = k
          · subst hjk; exact Done.self _ _
          · exact (HP.out j (by omega)).next _
        generalize ls.getD k 0 = x at *
        clear hc
        go_wp2_with fail
        refine (c_Bind t gi gh N l _ HT.out x hx.2).mono ?_
        rintro e w4 ⟨rfl, T4, U4⟩
        have HT4 := Lib.hid T4
        have HU4 := Lib.hid (HU.out.trans U4)
        clear T4 U4 hcell
        go_wp2
        go_roundw
        case rel => exact ⟨k + 1, _, by omega, by go_num, HP2, HT4.out, HU4.out⟩
        case measure => simp [intOf]; omega
      · obtain rfl : len0 = k := by omega
        obtain ⟨wA, rfl⟩ : ∃ x, x = wr := ⟨_, rfl⟩
        clear hlt hk HT1 HU1
        go_wp2_with fail
        go_loopw [8] (fun i wr => ∃ (k : Nat), k ≤ len0 ∧ i = .int .i64 k ∧ Hid (Tab wr t gi gh N l) ∧ Hid (Upd [t, gi, gh] w wr)) (fun i _ => len0 - (intOf i).toNat)
        case atStart => exact ⟨0, Nat.zero_le _, rfl, HT.out, HU.out⟩
        case round =>
          obtain ⟨k, hk, rfl, HT2, HU2⟩ := hrel
          have HB2 := Lib.hid (HU2.out.below (Nat.le_refl _) HIN.out)
          by_cases hlt : k < len0
          · have hlt2 : k < ls.length := by have := EL.out; omega
            obtain ⟨b, off, rfl, hblt, hc⟩ := (HR.out.below HB2.out).at (by simp; omega)
            have hcell := hc k _ (getD_map8 hlt2)
            have hx := HI.out _ (getD_mem hlt2)
            obtain ⟨e1, e2, e3⟩ := (HP.out k hlt).again
            obtain ⟨x, hxe⟩ : ∃ x, x = ls.getD k 0 := ⟨_, rfl⟩
            rw [← hxe] at hcell hx e1 e2 e3
            have HXE := Lib.hid hxe
            have HS := Lib.hid (c_Slot t gi gh N l wr HT2.out x hx.2)
            have HBind := Lib.hid (c_BindTo t gi gh N l wr HT2.out x hx.2 (find8 l x) (bindE l x) l (by rw [e2]) rfl e1)
            obtain ⟨wC, rfl⟩ : ∃ x, x = wr := ⟨_, rfl⟩
            clear hc hxe e1 e2
            have HNEXT := Lib.hid (fun (w4 : World) (U4 : Upd [t, gi, gh] wC w4) => show w4.cell? ⟨b, off + k, none⟩ = some (.int .i64 x) from by
              have k4 := (HR.out.below ((HU2.out.trans U4).below (Nat.le_refl _) HIN.out)).at (by simp; omega)
              obtain ⟨b', off', hbo, -, hc4⟩ := k4
              cases hbo
              have := hc4 k _ (getD_map8 hlt2)
              rwa [← HXE.out] at this)
            by_cases hf : find8 l x = 0
            · have he : bindE l x ≠ 0 := fun h => (e3.1 h) hf
              have HI0 := Lib.hid (c_ID t gi gh N l wC HT2.out 0 (by omega) (by omega))
              rw [has8_0] at HI0
              rw [hf] at HS HBind
              clear hf e3
              generalize bindE l x = y at *
              have he2 : (y != 0) = true := by simpa using he
              have he3 : (y == 0) = false := by simpa using he
              go_wp2_with (first
                | (go_at_call 32; refine HS.out.mono ?_; rintro e w' ⟨rfl, rfl⟩)
                | (go_at_call 34; refine HI0.out.mono ?_; rintro e w' ⟨rfl, rfl⟩)
                | (go_at_call 31; refine HBind.out.mono ?_))
              rintro e w4 ⟨rfl, T4, U4⟩
              have HT4 := Lib.hid T4
              have HU4 := Lib.hid (HU2.out.trans U4)
              clear T4 U4 hcell
              go_wp2
              go_roundw
              case rel => exact ⟨k + 1, by omega, by go_num, HT4.out, HU4.out⟩
              case measure => simp [intOf]; omega
            · have he : bindE l x = 0 := e3.2 hf
              obtain ⟨s, hs, hsl, hsx, hx1⟩ := find8_is hf
              have hlen := HT2.out.len
              have hlenN := HT2.out.small
              have HI0 := Lib.hid (c_ID t gi gh N l wC HT2.out ((s : Int) + 1) (by omega) (by omega))
              rw [show has8 l ((s : Int) + 1) = true from by have := has8_of hsl (by omega); rwa [show ((s + 1 : Nat) : Int) = (s : Int) + 1 from by simp] at this, if_pos rfl, show ((s : Int) + 1 - 1).toNat = s from by omega, hsx] at HI0
              rw [hs, show ((s + 1 : Nat) != 0) = true from rfl] at HS
              rw [hs, he] at HBind
              clear hf e3 he hs hsx
              go_wp2_with (first
                | (go_at_call 32; refine HS.out.mono ?_; rintro e w' ⟨rfl, rfl⟩)
                | (go_at_call 34; refine HI0.out.mono ?_; rintro e w' ⟨rfl, rfl⟩)
                | (go_at_call 31; refine HBind.out.mono ?_))
              rintro e w4 ⟨rfl, T4, U4⟩
              have HT4 := Lib.hid T4
              have HU4 := Lib.hid (HU2.out.trans U4)
              clear T4 U4 hcell
              go_wp2
              go_roundw
              case rel => exact ⟨k + 1, by omega, by go_num, HT4.out, HU4.out⟩
              case measure => simp [intOf]; omega
          · obtain rfl : len0 = k := by omega
            obtain ⟨wD, rfl⟩ : ∃ x, x = wr := ⟨_, rfl⟩
            clear hlt hk HP HT HU HR EL
            go_wp2_with fail
            refine (c_Slots t gi gh N _ _ HT2.out).mono ?_
            rintro e w5 ⟨v, rfl, own, bel⟩
            obtain ⟨a, c, rfl, hr, hc, hb⟩ := owns_reads own
            have HT5 := Lib.hid (HT2.out.below bel)
            have HU5 := Lib.hid (HU2.out.trans (.of_below bel))
            have hA : (slotsL l).length ≤ N := by have := slotsTo_len l l.length; have := HT2.out.len; unfold slotsL; omega
            have hlv := slotsL_live l
            have HR5 := Lib.hid hr
            have HB5 := Lib.hid hb
            have HD := Lib.hid HT2.out.lt
            have HLS := Lib.hid (show ((slotsL l).map (Value.int .i64)).length = (slotsL l).length from List.length_map _)
            clear own bel hr hb
            obtain ⟨A, hAe⟩ : ∃ A, A = (slotsL l).length := ⟨_, rfl⟩
            have HAE := Lib.hid hAe
            rw [← hAe] at hA hc hlv HLS ⊢
            have HLV := Lib.hid hlv
            clear hAe hlv
            go_wp2_with (at_builtin; refine wpList_app rfl _ _ 45 rfl w5.heap.size 3 (.int .i64 0) 1 8 Try.underlying45 inf_int rfl (by decide) _ 0 [] rfl (World.ownsRow_nil _ _ _ _) a A c _ rfl (by rw [HLS.out]; omega) HR5.out (ints_one _ _) (by unfold maxLen; omega) (by omega) (Nat.le_refl _) ?_)
            intro v6 w6 own6 gr6
            have bel6 : Below w5.heap.size w5 w6 := (Below.refl _ _).grown gr6 (Nat.le_refl _) (fun k hk => by cases hk)
            have HO6 := Lib.hid own6
            have HB6 := Lib.hid bel6
            have HR6 := Lib.hid (HR5.out.below bel6)
            clear own6 gr6 bel6
            go_wp2_with (at_builtin; (refine wpList_app rfl _ _ 45 rfl w5.heap.size 3 (.int .i64 0) 1 8 Try.underlying45 inf_int rfl (by decide) v6 A _ rfl HO6.out a A c _ rfl (by rw [HLS.out]; omega) HR6.out (ints_one _ _) (by unfold maxLen; omega) (by omega) HB6.out.size ?_))
            intro v7 w7 own7 gr7
            have bel7 : Below w5.heap.size w5 w7 := HB6.out.grown gr7 HB6.out.size (fun k hk => (HO6.out.lt k hk).1)
            obtain ⟨a7, c7, rfl, hr7, hc7, hb7⟩ := owns_reads own7
            have HT7 := Lib.hid (HT5.out.below bel7)
            have HU7 := Lib.hid (HU5.out.trans (.of_below bel7))
            have HL7 := Lib.hid (c_LenT t gi gh N l w7 HT7.out)
            rw [← HLV.out] at HL7
            have hl5 := HT5.out.lt
            have HTW := Lib.hid (fun h0 : 0 < A => c_FreeTwice t gi gh N l w7 HT7.out a7 (A + A) c7 w5.heap.size (by rw [List.length_append, ← HAE.out]) (by rw [List.map_append]; exact hr7) (fun x hx => (hb7 x hx).1) hl5.1 hl5.2.1 hl5.2.2 hc7 (by rw [← HAE.out]; exact h0))
            have HFA := Lib.hid (c_FreeAll t gi gh N l w7 HT7.out a A c wD.heap.size HAE.out (HR5.out.below bel7) (fun x hx => (HB5.out x hx).1) HD.out.1 HD.out.2.1 HD.out.2.2 hc)
            clear own7 gr7 bel7 hr7 hb7 hl5
            have hA2 : A ≤ 255 := by omega
            have hNA : (N < A) = False := eq_false (by omega)
            have hNA2 : ((N : Int) < (A : Int)) = False := eq_false (by omega)
            have HL7F := Lib.hid (fun (w8 : World) (T8 : Tab w8 t gi gh N (List.replicate N 0)) => (by
              have := c_LenT t gi gh N _ w8 T8
              rwa [live_zero] at this : Calls Try.prog 30 #[.pointer (some ⟨t, 0, none⟩)] w8 fun e w' => e = .returned (.int .i64 (0 : Nat)) ∧ w8 = w'))
            by_cases hA0 : A = 0
            · subst hA0
              clear HTW
              go_wp2_with (go_at_call 30; refine HL7.out.mono ?_; rintro e w' ⟨rfl, rfl⟩)
              refine HFA.out.mono ?_
              rintro e w8 ⟨rfl, T8, U8⟩
              have HU8 := Lib.hid (HU7.out.trans U8)
              have HT8 := Lib.hid T8
              have HL8 := Lib.hid (HL7F.out w8 T8)
              clear T8 U8
              go_wp2_with (go_at_call 30; refine HL8.out.mono ?_; rintro e w' ⟨rfl, rfl⟩)
              clear HFA HL7F HL7 HU7 HT7 HB6 HO6 HR6 HR5 HB5 HT5 HU5 HL8
              go_wp2_with fail
              go_loopw [17] (fun i wr => ∃ (k : Nat) (l : List Int), k ≤ N ∧ i = .int .i64 k ∧ Hid (ManyN 1000000 7 k l) ∧ Hid (Tab wr t gi gh N l) ∧ Hid (Upd [t, gi, gh] w wr)) (fun i _ => N - (intOf i).toNat)
              case atStart => exact ⟨0, _, Nat.zero_le _, rfl, ⟨Packed.zero _, fun i hi => by omega⟩, HT8.out, HU8.out⟩
              case round =>
                obtain ⟨k, l3, hk, rfl, HP3, HT3, HU3⟩ := hrel
                have hlen3 := HT3.out.len
                by_cases hlt3 : k < N
                · have hid : (1000000 : Int) + 7 * (k : Int) = idN 1000000 7 k := by unfold idN; omega
                  have hid1 : 1 ≤ idN 1000000 7 k := by omega
                  have hid2 : idN 1000000 7 k ≤ 1001785 := by omega
                  have hf := HP3.out.new (by omega) hid1
                  obtain ⟨e1, e2, e3⟩ := bind_new hid1 hf (HP3.out.1.idx (by omega))
                  have HBind := Lib.hid (c_BindTo t gi gh N l3 wr HT3.out (idN 1000000 7 k) (by omega) ((k : Int) + 1) 0 _ (by rw [e1]; rfl) e2 e3)
                  have HP4 := Lib.hid (HP3.out.next (by omega) hid1)
                  clear e1 e2 e3 hf
                  generalize idN 1000000 7 k = x at *
                  go_wp2_with fail
                  refine HBind.out.mono ?_
                  rintro e w9 ⟨rfl, T9, U9⟩
                  have HT9 := Lib.hid T9
                  have HU9 := Lib.hid (HU3.out.trans U9)
                  clear T9 U9
                  go_wp2
                  go_roundw
                  case rel => exact ⟨k + 1, _, by omega, by go_num, HP4.out, HT9.out, HU9.out⟩
                  case measure => simp [intOf]; omega
                · obtain rfl : N = k := by omega
                  have hi : Go.Proofs.Ytbmenldopeplcaa.idx l3 0 = none := idx_none (fun j hj => HP3.out.1.2.1 j (by omega))
                  have hf : find8 l3 3 = 0 := find8_no (fun hm => by
                    obtain ⟨j, hj, he⟩ := List.getElem_of_mem hm
                    have h1 : l3.getD j 0 = 3 := by rw [List.getD_eq_getElem?_getD, List.getElem?_eq_getElem hj]; exact he
                    rw [HP3.out.2 j (by omega)] at h1
                    unfold idN at h1
                    omega)
                  obtain ⟨e1, e2, e3⟩ := bind_full (by decide) hf hi
                  have HBind := Lib.hid (c_BindTo t gi gh N l3 wr HT3.out 3 (by omega) 0 3 l3 (by rw [e1]; rfl) e2 e3)
                  obtain ⟨wE, rfl⟩ : ∃ x, x = wr := ⟨_, rfl⟩
                  clear e1 e2 e3 hf hi
                  go_wp2_with fail
                  refine HBind.out.mono ?_
                  rintro e w9 ⟨rfl, T9, U9⟩
                  have HB9 := Lib.hid ((HU3.out.trans U9).below (Nat.le_refl _) HIN.out)
                  clear T9 U9
                  go_wp2_with (go_at_call 28; refine (c_known08 _).mono ?_; rintro e w' ⟨rfl, hbel⟩)
                  go_ret
                  exact ⟨rfl, bNext HB9.out hbel⟩
            · have hA1 : 0 < A := by omega
              have HTW1 := Lib.hid (HTW.out hA1)
              clear HTW
              go_wp2_with (go_at_call 30; refine HL7.out.mono ?_; rintro e w' ⟨rfl, rfl⟩)
              refine HTW1.out.mono ?_
              rintro e w' ⟨rfl, rfl⟩
              go_wp2_with fail
              refine HFA.out.mono ?_
              rintro e w8 ⟨rfl, T8, U8⟩
              have HU8 := Lib.hid (HU7.out.trans U8)
              have HT8 := Lib.hid T8
              have HL8 := Lib.hid (HL7F.out w8 T8)
              clear T8 U8
              go_wp2_with (go_at_call 30; refine HL8.out.mono ?_; rintro e w' ⟨rfl, rfl⟩)
              clear hA hA0 hA1 hA2 HTW1
              clear HFA HL7F HL7 HU7 HT7 HB6 HO6 HR6 HR5 HB5 HT5 HU5 HL8
              go_wp2_with fail
              go_loopw [17] (fun i wr => ∃ (k : Nat) (l : List Int), k ≤ N ∧ i = .int .i64 k ∧ Hid (ManyN 1000000 7 k l) ∧ Hid (Tab wr t gi gh N l) ∧ Hid (Upd [t, gi, gh] w wr)) (fun i _ => N - (intOf i).toNat)
              case atStart => exact ⟨0, _, Nat.zero_le _, rfl, ⟨Packed.zero _, fun i hi => by omega⟩, HT8.out, HU8.out⟩
              case round =>
                obtain ⟨k, l3, hk, rfl, HP3, HT3, HU3⟩ := hrel
                have hlen3 := HT3.out.len
                by_cases hlt3 : k < N
                · have hid : (1000000 : Int) + 7 * (k : Int) = idN 1000000 7 k := by unfold idN; omega
                  have hid1 : 1 ≤ idN 1000000 7 k := by omega
                  have hid2 : idN 1000000 7 k ≤ 1001785 := by omega
                  have hf := HP3.out.new (by omega) hid1
                  obtain ⟨e1, e2, e3⟩ := bind_new hid1 hf (HP3.out.1.idx (by omega))
                  have HBind := Lib.hid (c_BindTo t gi gh N l3 wr HT3.out (idN 1000000 7 k) (by omega) ((k : Int) + 1) 0 _ (by rw [e1]; rfl) e2 e3)
                  have HP4 := Lib.hid (HP3.out.next (by omega) hid1)
                  clear e1 e2 e3 hf
                  generalize idN 1000000 7 k = x at *
                  go_wp2_with fail
                  refine HBind.out.mono ?_
                  rintro e w9 ⟨rfl, T9, U9⟩
                  have HT9 := Lib.hid T9
                  have HU9 := Lib.hid (HU3.out.trans U9)
                  clear T9 U9
                  go_wp2
                  go_roundw
                  case rel => exact ⟨k + 1, _, by omega, by go_num, HP4.out, HT9.out, HU9.out⟩
                  case measure => simp [intOf]; omega
                · obtain rfl : N = k := by omega
                  have hi : Go.Proofs.Ytbmenldopeplcaa.idx l3 0 = none := idx_none (fun j hj => HP3.out.1.2.1 j (by omega))
                  have hf : find8 l3 3 = 0 := find8_no (fun hm => by
                    obtain ⟨j, hj, he⟩ := List.getElem_of_mem hm
                    have h1 : l3.getD j 0 = 3 := by rw [List.getD_eq_getElem?_getD, List.getElem?_eq_getElem hj]; exact he
                    rw [HP3.out.2 j (by omega)] at h1
                    unfold idN at h1
                    omega)
                  obtain ⟨e1, e2, e3⟩ := bind_full (by decide) hf hi
                  have HBind := Lib.hid (c_BindTo t gi gh N l3 wr HT3.out 3 (by omega) 0 3 l3 (by rw [e1]; rfl) e2 e3)
                  obtain ⟨wE, rfl⟩ : ∃ x, x = wr := ⟨_, rfl⟩
                  clear e1 e2 e3 hf hi
                  go_wp2_with fail
                  refine HBind.out.mono ?_
                  rintro e w9 ⟨rfl, T9, U9⟩
                  have HB9 := Lib.hid ((HU3.out.trans U9).below (Nat.le_refl _) HIN.out)
                  clear T9 U9
                  go_wp2_with (go_at_call 28; refine (c_known08 _).mono ?_; rintro e w' ⟨rfl, hbel⟩)
                  go_ret
                  exact ⟨rfl, bNext HB9.out hbel⟩

end Go.Proofs.Ytbmenldopeplcaa
