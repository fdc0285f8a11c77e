/-
  Contracts of package names: Free.
-/
import Derived.Test.YtbmenldopeplcaaNames4
namespace Go.Proofs.Ytbmenldopeplcaa
open Go.RowKit
set_option linter.unusedVariables false
set_option maxHeartbeats 1000000

/-- All of a list are slots that are not free, and none is told twice. -/
def FreeOk (l ls : List Int) : Prop := (∀ s ∈ ls, has8 l s = true) ∧ ls.Nodup
def freeL (l ls : List Int) : List Int := ls.foldl (fun l s => l.set (s - 1).toNat 0) l

theorem freeL_len : ∀ (ls l : List Int), (freeL l ls).length = l.length
  | [], l => rfl
  | s :: ls, l => by
    show (freeL (l.set (s - 1).toNat 0) ls).length = _
    rw [freeL_len ls, List.length_set]

theorem freeL_snoc {l ls : List Int} {k : Nat} {x : Int} (h : ls[k]? = some x) : freeL l (ls.take (k + 1)) = (freeL l (ls.take k)).set (x - 1).toNat 0 := by
  rw [List.take_add_one, h]
  simp [freeL]

theorem freeL_other : ∀ (ls l : List Int) (i : Nat), (∀ s ∈ ls, 1 ≤ s) → ((i + 1 : Nat) : Int) ∉ ls → (freeL l ls).getD i 0 = l.getD i 0
  | [], l, i, _, _ => rfl
  | s :: ls, l, i, h, hn => by
    show (freeL (l.set (s - 1).toNat 0) ls).getD i 0 = _
    have hs := h s (by simp)
    rw [freeL_other ls _ i (fun x hx => h x (by simp [hx])) (fun hx => hn (List.mem_cons_of_mem _ hx))]
    refine getD_set_other (fun he => hn ?_) 0
    have : s = ((i + 1 : Nat) : Int) := by omega
    rw [this]; simp

theorem has8_is {l : List Int} {s : Int} (h : has8 l s = true) : ∃ k : Nat, s = ((k + 1 : Nat) : Int) ∧ k < l.length ∧ l.getD k 0 ≠ 0 := by
  unfold has8 at h
  simp only [Bool.and_eq_true, decide_eq_true_eq, bne_iff_ne, ne_eq] at h
  obtain ⟨⟨h1, h2⟩, h3⟩ := h
  exact ⟨(s - 1).toNat, by omega, by omega, h3⟩

theorem has8_of {l : List Int} {k : Nat} (hk : k < l.length) (h : l.getD k 0 ≠ 0) : has8 l ((k + 1 : Nat) : Int) = true := by
  unfold has8
  have hv : (((k + 1 : Nat) : Int) - 1).toNat = k := by omega
  rw [hv]
  simp only [Bool.and_eq_true, decide_eq_true_eq, bne_iff_ne, ne_eq]
  exact ⟨⟨by omega, by omega⟩, h⟩

theorem getD_at {ls : List Int} {k : Nat} (h : k < ls.length) : ls[k]? = some (ls.getD k 0) := by
  rw [List.getD_eq_getElem?_getD, List.getElem?_eq_getElem h]; rfl

theorem nodup_at {ls : List Int} (h : ls.Nodup) {k : Nat} (hk : k < ls.length) : ls.getD k 0 ∉ ls.take k := by
  intro hm
  obtain ⟨j, hj, he⟩ := List.getElem_of_mem hm
  have hjk : j < k := by simp at hj; omega
  have hjl : j < ls.length := by omega
  rw [List.getElem_take, List.getD_eq_getElem?_getD, List.getElem?_eq_getElem hk] at he
  have := (List.getElem_inj h (i := j) (j := k)).1 he
  omega

/-- Behind k of them the next one still is a slot that is not free. -/
theorem free_still {l ls : List Int} (h : FreeOk l ls) {k : Nat} (hk : k < ls.length) : ∃ s : Nat, ls.getD k 0 = ((s + 1 : Nat) : Int) ∧ s < l.length ∧ (freeL l (ls.take k)).getD s 0 ≠ 0 ∧ (freeL l (ls.take k)).getD s 0 = l.getD s 0 := by
  obtain ⟨s, hs, hsl, hs0⟩ := has8_is (h.1 _ (getD_mem hk))
  have hn := nodup_at h.2 hk
  rw [hs] at hn
  have := freeL_other (ls.take k) l s (fun x hx => by obtain ⟨j, rfl, _⟩ := has8_is (h.1 x (List.mem_of_mem_take hx)); omega) hn
  exact ⟨s, hs, hsl, by rw [this]; exact hs0, this⟩

/-- What has been looked at is right so far. -/
theorem ok_snoc {l ls : List Int} {k : Nat} (hk : k < ls.length) (h : FreeOk l (ls.take k)) (h1 : has8 l (ls.getD k 0) = true) (h2 : ls.getD k 0 ∉ ls.take k) : FreeOk l (ls.take (k + 1)) := by
  rw [List.take_add_one, getD_at hk]
  refine ⟨fun s hs => ?_, ?_⟩
  · simp only [Option.toList, List.mem_append, List.mem_singleton] at hs
    rcases hs with hs | rfl
    · exact h.1 s hs
    · exact h1
  · simp only [Option.toList]
    rw [List.nodup_append]
    refine ⟨h.2, by simp, fun a ha b hb => ?_⟩
    simp only [List.mem_singleton] at hb
    subst hb
    intro he
    exact h2 (he ▸ ha)

theorem not_ok1 {l ls : List Int} {k : Nat} (hk : k < ls.length) (h1 : has8 l (ls.getD k 0) = false) : ¬ FreeOk l ls := fun h => by
  have := h.1 _ (getD_mem hk)
  rw [h1] at this; cases this
theorem not_ok2 {l ls : List Int} {k : Nat} (hk : k < ls.length) (h2 : ls.getD k 0 ∈ ls.take k) : ¬ FreeOk l ls := fun h => nodup_at h.2 hk h2

theorem c_FreeNil (a : Option Addr) (n c : Nat) (w : World) : Calls Try.prog 33 #[.pointer none, .slice a n c] w fun e w' => e = .returned (.int .i64 1) ∧ w = w' := by
  go_enter Try.func33, Try.ntmps33
  go_wp2
  go_ret
  exact ⟨rfl, rfl⟩

def FreePost (t gi gh N : Nat) (l ls : List Int) (w : World) (e : Ending) (w' : World) : Prop :=
  (FreeOk l ls ∧ e = .returned (.int .i64 0) ∧ Tab w' t gi gh N (freeL l ls) ∧ Upd [t, gi, gh] w w') ∨ (¬ FreeOk l ls ∧ e = .returned (.int .i64 4) ∧ w = w')

theorem c_Free (t gi gh N : Nat) (l : List Int) (w : World) (h : Tab w t gi gh N l) (a : Option Addr) (m c : Nat) (ls : List Int) (e0 : m = ls.length) (hr : Reads w a c (ls.map (Value.int .i64))) (ha : ∀ x, a = some x → x.block ≠ t ∧ x.block ≠ gi ∧ x.block ≠ gh) (hI : I64 ls) (hm : m ≤ 1000000000) (hmc : m ≤ c) :
    Calls Try.prog 33 #[.pointer (some ⟨t, 0, none⟩), .slice a m c] w (FreePost t gi gh N l ls w) := by
  subst e0
  have HH := Lib.hid h
  have HR := Lib.hid hr
  have HA := Lib.hid ha
  have HI := Lib.hid hI
  clear h hr ha hI
  go_enter Try.func33, Try.ntmps33
  go_wp2
  go_loop [17] (fun i => ∃ k : Nat, k ≤ ls.length ∧ i = .int .i64 k ∧ Hid (FreeOk l (ls.take k))) (fun i => ls.length - (intOf i).toNat)
  case atStart => exact ⟨0, Nat.zero_le _, rfl, by simp [FreeOk, Hid]⟩
  case round =>
    obtain ⟨k, hk, rfl, hok⟩ := hrel
    by_cases hlt : k < ls.length
    · obtain ⟨b, off, rfl, hblt, hc⟩ := HR.out.at (by simp; omega)
      have hcell := hc k _ (getD_map8 hlt)
      have hx := HI.out _ (getD_mem hlt)
      have HC := Lib.hid (c_ID t gi gh N l w HH.out (ls.getD k 0) hx.1 hx.2)
      have HN := Lib.hid (c_ContainsI (some ⟨b, off, none⟩) k c (ls.take k) (ls.getD k 0) w (by simp; omega) (by rw [List.map_take]; exact reads_pre HR.out k) (by omega))
      have H1 := Lib.hid (fun h => not_ok1 (l := l) hlt h)
      have H2 := Lib.hid (fun h => not_ok2 (l := l) hlt h)
      have H3 := Lib.hid (fun h1 h2 => ok_snoc hlt hok.out h1 h2)
      have hkc : k ≤ c := by omega
      clear hc hok hx
      generalize ls.getD k 0 = x at *
      generalize (if has8 l x = true then l.getD (x - 1).toNat 0 else 0) = y at *
      cases hh : has8 l x with
      | false =>
        rw [hh] at HC
        have HF := Lib.hid (H1.out hh)
        clear H1 H2 H3 hh HN
        go_wp2_with (go_at_call 34; refine HC.out.mono ?_; rintro e w' ⟨rfl, rfl⟩)
        go_ret
        exact .inr ⟨HF.out, rfl, rfl⟩
      | true =>
        rw [hh] at HC
        by_cases hm2 : x ∈ ls.take k
        · rw [decide_eq_true hm2] at HN
          have HF := Lib.hid (H2.out hm2)
          clear H1 H2 H3 hh hm2
          go_wp2_with (first | (go_at_call 34; refine HC.out.mono ?_; rintro e w' ⟨rfl, rfl⟩) | (go_at_call 48; refine HN.out.mono ?_; rintro e w' ⟨rfl, rfl⟩))
          go_ret
          exact .inr ⟨HF.out, rfl, rfl⟩
        · rw [decide_eq_false hm2] at HN
          have HF := Lib.hid (H3.out hh hm2)
          clear H1 H2 H3 hh hm2
          go_wp2_with (first | (go_at_call 34; refine HC.out.mono ?_; rintro e w' ⟨rfl, rfl⟩) | (go_at_call 48; refine HN.out.mono ?_; rintro e w' ⟨rfl, rfl⟩))
          go_round
          case rel => exact ⟨k + 1, by omega, by go_num, HF.out⟩
          case measure => simp [intOf]; omega
    · obtain rfl : k = ls.length := by omega
      have HF : Hid (FreeOk l ls) := by have := hok.out; rwa [List.take_length] at this
      clear hok hlt hk
      go_wp2
      go_loopw [40] (fun i wr => ∃ k : Nat, k ≤ ls.length ∧ i = .int .i64 k ∧ Hid (Tab wr t gi gh N (freeL l (ls.take k))) ∧ Hid (Upd [t, gi, gh] w wr)) (fun i _ => ls.length - (intOf i).toNat)
      case atStart => exact ⟨0, Nat.zero_le _, rfl, HH.out, Upd.refl _ _⟩
      case round =>
        obtain ⟨k, hk, rfl, HT, HU⟩ := hrel
        by_cases hlt : k < ls.length
        · obtain ⟨b, off, rfl, hblt, hc⟩ := HR.out.at (by simp; omega)
          have hcell := (World.cell?_of_block (w := w) (HU.out.block b hblt (by have := HA.out _ rfl; simpa using this))).trans (hc k _ (getD_map8 hlt))
          obtain ⟨s, hs, hsl, hs0, -⟩ := free_still HF.out hlt
          have HS := Lib.hid (freeL_snoc (l := l) (getD_at hlt))
          rw [hs, show (((s + 1 : Nat) : Int) - 1).toNat = s from by omega] at HS
          rw [hs] at hcell
          have hll := freeL_len (ls.take k) l
          generalize freeL l (ls.take k) = l' at *
          obtain ⟨hash, ht⟩ := HT.out
          have hlN : l'.length = N := by have := ht.good.li; simp at this; exact this
          have hsN : s < N := by omega
          have hpos := ht.good.pos (s + 1)
          rw [List.getD_cons_succ] at hpos
          have hF8 := find8_of ht.good (id := l'.getD s 0) (s := s + 1) (by omega) (by omega) (by rw [List.getD_cons_succ])
          have HC := Lib.hid (c_findYes t gi gh N l' hash _ ht (l'.getD s 0) (by omega) (by omega) (s + 1) hF8 (by omega))
          have kc := ht.ri.cell (getD_map8 (k := .i64) (show s + 1 < (0 :: l').length from by simp; omega))
          rw [List.getD_cons_succ] at kc
          have hsm := ht.small
          obtain ⟨H, hH⟩ : ∃ H, H = 2 * N + 1 := ⟨_, rfl⟩
          have HHH := Lib.hid hH
          have hd : Row wr t 84 [.slice (some ⟨gi, 0, none⟩) (N + 1) (N + 1), .slice (some ⟨gh, 0, none⟩) H H, .int .i64 (live l')] := by rw [hH]; exact ht.head
          have k0 := hd.cell (i := 0) rfl
          have k1 := hd.cell (i := 1) rfl
          have hk3 : (0 : Int) ≤ (s : Int) + 1 := by omega
          have hset := live_set l' s 0 (by omega)
          rw [if_neg hs0, if_pos rfl] at hset
          have hlv : live l' ≤ 16383 := by have := live_le l'; omega
          have hlv1 : 1 ≤ live l' := by omega
          have HLV := Lib.hid hset
          have HTT := Lib.hid ht
          have kf0 := ht.ri.free (s + 1)
          have n1 := ht.n1
          have n2 := ht.n2
          have n3 := ht.n3
          rw [← hH] at HC
          clear hc ht hH hset hF8 hll hs0 hs hlN hsl
          generalize hyx : l'.getD s 0 = y at *
          have HYX := Lib.hid hyx
          clear hyx
          go_wp2_with fail
          refine HC.out.mono ?_
          rintro e w' ⟨p, rfl, hp, hf, rfl⟩
          have hpl : p < hash.length := by rw [HTT.out.good.lh, ← HHH.out]; exact hp
          have kc1 := HTT.out.ra.cell (getD_map8 (k := .i64) hpl)
          have kf1 := HTT.out.ra.free p
          have HPF := Lib.hid hf
          clear hf
          go_wp2_with fail
          refine wp_region_planH (fun x => x.cell? ⟨t, 0, none⟩ = some (.slice (some ⟨gi, 0, none⟩) (N + 1) (N + 1)) ∧ x.cell? ⟨t, 1, none⟩ = some (.slice (some ⟨gh, 0, none⟩) H H)) [(0, true), (1, true), (2, true), (3, true), (4, true), (5, true), (6, true), (7, true), (8, true), (9, true), (10, true), (11, false), (12, true), (13, false)] (by kernel_rfl) (by kernel_rfl) (fun _ _ _ _ _ h => h) ⟨k0, k1⟩ ?_
          (repeat (refine wpPlanH_free rfl (fun K hK => ?_); go_simp; (try go_bits); refine hK _ ?_; clear hK K))
          refine wpPlanH_load (.slice (some ⟨gh, 0, none⟩) H H) rfl rfl (fun x hS => by obtain ⟨s0, s1⟩ := hS; go_simp) (fun K hK => ?_)
          refine hK _ ?_
          clear hK K
          (repeat (refine wpPlanH_free rfl (fun K hK => ?_); go_simp; (try go_bits); refine hK _ ?_; clear hK K))
          refine wpPlanH_load (.slice (some ⟨gi, 0, none⟩) (N + 1) (N + 1)) rfl rfl (fun x hS => by obtain ⟨s0, s1⟩ := hS; go_simp) (fun K hK => ?_)
          refine hK _ ?_
          clear hK K
          (repeat (refine wpPlanH_free rfl (fun K hK => ?_); go_simp; (try go_bits); refine hK _ ?_; clear hK K))
          refine wpPlanH_sole rfl ?_
          go_wp2
          obtain ⟨w1, hw1⟩ : ∃ x, x = (wr.setCell ⟨gh, p, none⟩ (.int .i64 (-1))).drew := ⟨_, rfl⟩
          rw [← hw1]
          have R1 : Row w1 t 84 [.slice (some ⟨gi, 0, none⟩) (N + 1) (N + 1), .slice (some ⟨gh, 0, none⟩) H H, .int .i64 (live l')] := by rw [hw1]; exact (hd.setOther (Ne.symm n2) _).drew
          have I1 : Row w1 gi 3 ((0 :: l').map (Value.int .i64)) := by rw [hw1]; exact (HTT.out.ri.setOther (Ne.symm n3) _).drew
          have A1 : Row w1 gh 3 ((hash.map (Value.int .i64)).set p (.int .i64 (-1))) := by rw [hw1]; exact (HTT.out.ra.set _ _).drew
          have U1 : Upd [t, gi, gh] w w1 := by rw [hw1]; exact (HU.out.setCell (by simp) _).drew
          refine ⟨⟨R1.cell rfl, R1.cell rfl⟩, ?_⟩
          have hsl2 : s + 1 < (0 :: l').length := by rw [HTT.out.good.li]; omega
          have kc2 := I1.cell (getD_map8 (k := .i64) hsl2)
          have kf2 := I1.free (s + 1)
          have hR1 := Lib.hid R1
          have hI1 := Lib.hid I1
          have hA1 := Lib.hid A1
          have hU1 := Lib.hid U1
          clear hw1 kc kc1 kf0 kf1 R1 I1 A1 U1 k0 k1 hd hpl hsl2 hcell
          (repeat (refine wpPlanH_free rfl (fun K hK => ?_); go_simp; (try go_bits); refine hK _ ?_; clear hK K))
          refine wpPlanH_sole rfl ?_
          go_wp2
          obtain ⟨w2, hw2⟩ : ∃ x, x = w1.setCell ⟨gi, s + 1, none⟩ (.int .i64 0) := ⟨_, rfl⟩
          rw [← hw2]
          have R2 : Row w2 t 84 [.slice (some ⟨gi, 0, none⟩) (N + 1) (N + 1), .slice (some ⟨gh, 0, none⟩) H H, .int .i64 (live l')] := by rw [hw2]; exact hR1.out.setOther (Ne.symm n1) _
          have I2 : Row w2 gi 3 (((0 :: l').map (Value.int .i64)).set (s + 1) (.int .i64 0)) := by rw [hw2]; exact hI1.out.set _ _
          have A2 : Row w2 gh 3 ((hash.map (Value.int .i64)).set p (.int .i64 (-1))) := by rw [hw2]; exact hA1.out.setOther n3 _
          have U2 : Upd [t, gi, gh] w w2 := by rw [hw2]; exact hU1.out.setCell (by simp) _
          refine ⟨⟨R2.cell rfl, R2.cell rfl⟩, wpPlanH_nil ?_⟩
          have kc3 := R2.cell (i := 2) rfl
          have kf3 := R2.free 2
          have hR2 := Lib.hid R2
          have hI2 := Lib.hid I2
          have hA2 := Lib.hid A2
          have hU2 := Lib.hid U2
          obtain ⟨v, hv⟩ : ∃ v, v + 1 = live l' := ⟨live l' - 1, by omega⟩
          rw [← hv] at kc3 hlv
          have hvv : (((v + 1 : Nat) : Int) - 1) = (v : Int) := by omega
          have HM := Lib.hid hv
          clear hw2 kc2 kf2 R2 I2 A2 U2 hv hlv1
          go_wp2
          have hl2 : live (l'.set s 0) = v := by have := HLV.out; have := HM.out; omega
          have HZ : Hid (Tab (w2.setCell ⟨t, 2, none⟩ (.int .i64 (v : Int))) t gi gh N (freeL l (ls.take (k + 1)))) := by
            refine ⟨hash.set p (-1), ?_, ?_, ?_, ?_, hsm, n1, n2, n3⟩
            · rw [HS.out, hl2, ← HHH.out]
              exact hR2.out.set 2 _
            · rw [HS.out, ← List.set_cons_succ, List.map_set]
              exact hI2.out.setOther n1 _
            · rw [List.map_set]
              exact hA2.out.setOther n2 _
            · rw [HS.out, ← List.set_cons_succ]
              exact HTT.out.good.freed HPF.out (by omega)
          go_roundw
          case rel => exact ⟨k + 1, by omega, by go_num, HZ.out, hU2.out.setCell (by simp) _⟩
          case measure => simp [intOf]; omega
        · obtain rfl : k = ls.length := by omega
          go_wp2
          go_ret
          refine .inl ⟨HF.out, rfl, ?_, HU.out⟩
          have := HT.out
          rwa [List.take_length] at this

end Go.Proofs.Ytbmenldopeplcaa
