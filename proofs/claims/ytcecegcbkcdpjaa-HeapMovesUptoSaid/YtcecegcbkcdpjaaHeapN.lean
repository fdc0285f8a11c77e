/-
  Contracts of package heap: Alloc.
-/
import Derived.Test.YtcecegcbkcdpjaaHeapM
import Derived.WalkMore
namespace Go.Proofs.Ytcecegcbkcdpjaa
open Go.RowKit
set_option linter.unusedVariables false
set_option maxHeartbeats 4000000

theorem c_AllocNeg (n : Int) (hn : n < 0) (h : Nat) (w : World) : Calls Try.prog 26 #[.pointer (some ⟨h, 0, none⟩), .int .i64 n] w fun e w' => e = .returned (.tuple #[.int .i64 0, .int .i64 2]) ∧ w = w' := by
  go_enter Try.func26, Try.ntmps26
  go_wp2
  go_step3
  go_wp2
  rw [Exit.noGoto_ret]
  go_ret2
  exact ⟨rfl, rfl⟩

/-- Where a block of n words will be, or -1. -/
def placeI (gs : List (Nat × Nat)) (n : Nat) : Int := if n = 0 then 0 else match gs.find? (fun g => decide (n ≤ g.2)) with | some g => (g.1 : Int) | none => -1
theorem find_take {α : Type} (p : α → Bool) (gs : List α) (j : Nat) (g : α) (h : (gs.take j).find? p = some g) : gs.find? p = some g := by
  rw [← List.take_append_drop j gs, List.find?_append, h]
  rfl
theorem placeI_done {gs : List (Nat × Nat)} {n j : Nat} (h : 0 ≤ placeI (gs.take j) n) : placeI gs n = placeI (gs.take j) n := by
  unfold placeI at h ⊢
  by_cases h0 : n = 0
  · rw [if_pos h0, if_pos h0]
  · rw [if_neg h0] at h ⊢
    rw [if_neg h0]
    cases hf : (gs.take j).find? (fun g => decide (n ≤ g.2)) with
    | none => rw [hf] at h; simp at h
    | some g => rw [find_take _ _ _ _ hf]
theorem placeI_next {gs : List (Nat × Nat)} {n j : Nat} (hj : j < gs.length) (h : placeI (gs.take j) n < 0) : placeI (gs.take (j + 1)) n = if n ≤ gs[j].2 then (gs[j].1 : Int) else -1 := by
  unfold placeI at h ⊢
  by_cases h0 : n = 0
  · rw [if_pos h0] at h; omega
  · rw [if_neg h0] at h ⊢
    rw [List.take_add_one, List.getElem?_eq_getElem hj, Option.toList_some, List.find?_append]
    cases hf : (gs.take j).find? (fun g => decide (n ≤ g.2)) with
    | some g => rw [hf] at h; simp only at h; omega
    | none =>
      simp only [Option.none_or, List.find?_cons, List.find?_nil]
      by_cases hn : n ≤ gs[j].2
      · simp [hn]
      · simp [hn]
theorem placeI_fits {gs : List (Nat × Nat)} {n N : Nat} (h : 0 ≤ placeI gs n) (hg : ∀ g ∈ gs, g.1 + g.2 ≤ N) : ∃ p : Nat, placeI gs n = p ∧ p + n ≤ N := by
  unfold placeI at h ⊢
  by_cases h0 : n = 0
  · rw [if_pos h0]; exact ⟨0, rfl, by omega⟩
  · rw [if_neg h0] at h ⊢
    cases hf : gs.find? (fun g => decide (n ≤ g.2)) with
    | none => rw [hf] at h; simp at h
    | some g =>
      have h1 := List.find?_some hf
      have h2 := hg g (List.mem_of_find?_eq_some hf)
      simp only [decide_eq_true_eq] at h1
      exact ⟨g.1, rfl, by omega⟩

theorem placeI_nil (n : Nat) : placeI [] n = if n = 0 then 0 else -1 := rfl
theorem placeI_neg {gs : List (Nat × Nat)} {n : Nat} (h : placeI gs n < 0) : placeI gs n = -1 := by
  unfold placeI at h ⊢
  split
  · simp_all
  · split
    · simp_all; omega
    · rfl
/-- A heap with a block more. -/
def allocS (S : HpS) (p n : Nat) : HpS :=
  { S with ws := splice S.ws p (List.replicate n 0), bl := if freeIx S < S.bl.length then S.bl.set (freeIx S) ⟨p, n, true⟩ else S.bl ++ [⟨p, n, true⟩] }
theorem zero_u16 : ∀ w, (zeroValue 56).run Try.prog w = .ok (.int .u16 0) w := fun _ => by kernel_rfl
def zBlk : Value := .agg #[.int .i64 0, .int .i64 0, .bool false]
theorem inf_blk : (Try.prog.info? 78).map (fun i => (i.zero, i.size, i.bytes)) = some (some zBlk, 3, 24) := by kernel_rfl
theorem owns_row {w : World} {base : Nat} {e : TypeId} {size : Nat} {v : Value} {n : Nat} {xs : List Value} (h : w.ownsRow base e size v n xs) : ∀ k, v.ownBlock = some k → base ≤ k ∧ ∃ ys, Row w k e ys := by
  intro k hk
  rcases h.2 with ⟨rfl, _⟩ | ⟨g, cap, cur, rfl, hb, hg, _⟩
  · cases hk
  · cases hk
    exact ⟨hb, cur.toList, by unfold Row; simpa using hg⟩
theorem Row.has {w : World} {g : Nat} {t : TypeId} {xs : List Value} (h : Row w g t xs) {i : Nat} (hi : i < xs.length) : ∃ v, w.cell? ⟨g, i, none⟩ = some v := ⟨xs[i], h.cell (by simp)⟩
theorem flatB_more (bl : List Blk) (x : Blk) : flatB (bl ++ [x]) = (((flatB bl ++ ([.int .i64 0, .int .i64 0, .bool false] : List Value)).set (bl.length * 3) (.int .i64 x.at_)).set (bl.length * 3 + 1) (.int .i64 x.n)).set (bl.length * 3 + 2) (.bool x.used) := by
  have h := flatB_set (bl ++ [⟨0, 0, false⟩]) bl.length x
  rw [if_pos (by simp)] at h
  rw [show (bl ++ [(⟨0, 0, false⟩ : Blk)]).set bl.length x = bl ++ [x] by simp] at h
  rw [h, flatB_app]
  rfl
theorem HUpd.grown {B : Nat} {a w w' : World} {row : Option Nat} (h : HUpd B a w) (hg : w.grownBy w' row) (hr : ∀ k, row = some k → B ≤ k ∧ ∃ t ys, Row w k t ys ∧ Mine t) : HUpd B a w' :=
  h.trans (.of_upd (l := row.toList) ⟨hg.os, hg.tape, hg.output, hg.size, fun k hk hn => hg.block k hk (fun e => hn (by rw [← e]; simp))⟩ (fun k hk => hr k (by simpa using hk)))

theorem c_HAlloc {w : World} {B h g : Nat} {vb : Value} {S : HpS} (H : HpAt w B h g vb S) {Q : List Nat → Prop} (hQ : OrdOk Q S) (hO : Ords Q w h) (n : Nat) (hn : n ≤ 9223372036854775807) (hfew : S.bl.length < 1000000) :
    Calls Try.prog 26 #[.pointer (some ⟨h, 0, none⟩), .int .i64 n] w fun e w' => ∃ L, Q L ∧ HUpd B w w' ∧
      ((∃ p : Nat, ∃ vb', placeI (gapsOf S L) n = p ∧ e = .returned (.tuple #[.int .i64 (freeIx S : Nat), .int .i64 0]) ∧ HpAt w' B h g vb' (allocS S p n)) ∨
       (placeI (gapsOf S L) n = -1 ∧ e = .returned (.tuple #[.int .i64 0, .int .i64 3]) ∧ HpAt w' B h g vb S)) := by
  have HG := Lib.hid (c_HGaps H hQ hO)
  have HF := Lib.hid hQ
  have HH := Lib.hid H
  have hsm := H.small
  clear H hO hQ
  go_enter Try.func26, Try.ntmps26
  go_wp2_with fail
  go_step3
  by_cases hn0 : n = 0
  · subst hn0
    go_wp2_with fail
    go_step3
    go_wp2_with fail
    refine HG.out.mono ?_
    clear HG
    rintro e w1 ⟨v, L, hq, rfl, ho, hb⟩
    have HB1 := Lib.hid hb
    have hle := gapsOf_le (HF.out.fit L hq)
    have hfw := HF.out.few L hq
    have hgl := gapsOf_len S L
    have HQL := Lib.hid hq
    obtain ⟨va, vc, rfl, -, -, -⟩ := owns_reads ho
    have HO := Lib.hid ho
    have HPF := Lib.hid (fun h0 => placeI_fits (n := 0) h0 hle)
    have HLE := Lib.hid hle
    clear ho hb hq HF hle
    generalize hgs : gapsOf S L = gs at *
    have HGS := Lib.hid hgs
    clear hgs
    go_wp2
    rename_i KT hKT
    by_cases hP : 0 ≤ placeI gs 0
    · obtain ⟨p, hp, hpn⟩ := HPF.out hP
      have HP := Lib.hid hp
      have HPN := Lib.hid hpn
      clear HPF hP hp
      have hp0 : p = 0 := by have := HP.out; unfold placeI at this; simp at this; omega
      subst hp0

      have tail : ∀ (x2 x3 x4 x5 x7 x8 x9 x10 x11 x12 x13 x14 x15 x16 x17 x18 x19 x20 x21 x22 x23 x24 x25 x26 x27 x28 x29 x30 x31 x32 x33 x34 x35 x36 x37 x38 x39 x40 x41 x42 x43 x44 x45 x46 x47 x48 x49 x50 x51 x52 x53 x54 x55 x56 x57 x58 x59 x60 x61 x62 x63 x64 x65 x66 x67 x68 x69 x70 x71 x72 x73 x74 x75 x76 : Value) (wr : World), Hid (Below w1.heap.size w1 wr) → KT ⟨#[.pointer (some ⟨h, 0, none⟩), .int .i64 0, x2, x3, x4, x5, .int .i64 0, x7, x8, x9, x10, x11, x12, x13, x14, x15, x16, x17, x18, x19, x20, x21, x22, x23, x24, x25, x26, x27, x28, x29, x30, x31, x32, x33, x34, x35, x36, x37, x38, x39, x40, x41, x42, x43, x44, x45, x46, x47, x48, x49, x50, x51, x52, x53, x54, x55, x56, x57, x58, x59, x60, x61, x62, x63, x64, x65, x66, x67, x68, x69, x70, x71, x72, x73, x74, x75, x76], []⟩ wr := by
        intro x2 x3 x4 x5 x7 x8 x9 x10 x11 x12 x13 x14 x15 x16 x17 x18 x19 x20 x21 x22 x23 x24 x25 x26 x27 x28 x29 x30 x31 x32 x33 x34 x35 x36 x37 x38 x39 x40 x41 x42 x43 x44 x45 x46 x47 x48 x49 x50 x51 x52 x53 x54 x55 x56 x57 x58 x59 x60 x61 x62 x63 x64 x65 x66 x67 x68 x69 x70 x71 x72 x73 x74 x75 x76 wr HB
        refine hKT _ _ ?_
        clear hKT HO
        have hbw := bNext HB1.out HB.out
        have HW := Lib.hid (HH.out.below hbw)
        have HU0 := Lib.hid (show HUpd B w wr from .of_below hbw)
        have HBS := Lib.hid hbw.size
        have k0 := HW.out.head.cell (i := 0) rfl
        have HD := Lib.hid HW.out.data
        have HLN := Lib.hid HW.out.len
        have nhg : h ≠ g := typ_ne HW.out.head HW.out.data (by decide)
        clear hbw
        rcases Nat.eq_zero_or_pos S.N with hN0 | hN0
        all_goals
          go_wp2_with (with_reducible refine wpList_clr rfl (.tmp 44) 55 rfl 56 (.int .u16 0) Try.underlying55 zero_u16 rfl rfl _ _ _ rfl g 0 _ 56 HD.out (fun h => absurd h (by decide)) (by rw [List.length_map, HLN.out]; have := HPN.out; omega) ?_)
          intro w2 hD2 hU2
          have hD3 : Row w2 g 56 ((splice S.ws 0 (List.replicate 0 0)).map (Value.int .u16)) := by
            rw [← splice_map, List.map_replicate]; exact hD2
          have HW2 := Lib.hid (show HpAt w2 B h g vb (wsS S 0 (List.replicate 0 0)) from ⟨HW.out.head.keep hU2 (by simp; exact nhg), hD3, hU2.owns HW.out.own (fun k hk => by
              obtain ⟨_, ys, hy⟩ := owns_row HW.out.own k hk
              have := typ_ne hy HW.out.data (by decide)
              simp; exact this), (splice_len _ _ _ (by rw [List.length_replicate, HLN.out]; exact HPN.out)).trans HLN.out, hsm, HW.out.few, HW.out.lo, splice_mem HW.out.word (fun x hx => by rw [List.eq_of_mem_replicate hx]; omega)⟩)
          have HU2 := Lib.hid (HU0.out.trans (.of_upd hU2 (fun k hk => by simp at hk; subst hk; exact ⟨HW.out.lo.2, _, _, HD.out, by decide⟩)))
          have k1 := HW2.out.head.cell (i := 1) rfl
          have HIX := Lib.hid (c_IndexFree HW2.out)
          clear hD2 hU2 hD3 k0 HU0 HBS HD HLN HW
          by_cases hf : freeIx S < S.bl.length
          · have hfv : freeV (wsS S 0 (List.replicate 0 0)) = (freeIx S : Nat) := by show freeV S = _; unfold freeV; rw [if_pos hf]
            rw [hfv] at HIX
            have HFI := Lib.hid (show allocS S 0 0 = { wsS S 0 (List.replicate 0 0) with bl := S.bl.set (freeIx S) ⟨0, 0, true⟩ } by unfold allocS; rw [if_pos hf]; rfl)
            obtain ⟨b, cb, cur, hv, hbB, hrow, htk, hnc, hcm, hcl⟩ := h_block HW2.out.own (by show 0 < S.bl.length; omega)
            subst hv
            have HTK := Lib.hid htk
            have HCL := Lib.hid hcl
            have HCM := Lib.hid hcm
            have hfS := Lib.hid (rfl : freeIx S = freeIx S)
            have HRW := Lib.hid hrow
            clear hfv htk hcl hcm hrow
            have hf3 : freeIx S * 3 + 2 < cur.length := by rw [HCL.out]; have := Nat.mul_le_mul_right 3 hnc; have h3 : (wsS S 0 (List.replicate 0 0)).bl.length = S.bl.length := rfl; omega
            have hfl : freeIx S ≤ 1000000 := by omega
            go_wp2_with (go_at_call 40; refine HIX.out.mono ?_; rintro e w3 ⟨rfl, hb3⟩; have HB3 := Lib.hid hb3; have k3 := cellKeep hb3 k1; have hr3 := HRW.out.keep (l := []) (.of_below hb3) (by simp); have q0 := hr3.cell (i := freeIx S * 3) (v := cur[freeIx S * 3]) (by simp); have q1 := hr3.cell (i := freeIx S * 3 + 1) (v := cur[freeIx S * 3 + 1]) (by simp); have q2 := hr3.cell (i := freeIx S * 3 + 2) (v := cur[freeIx S * 3 + 2]) (by simp); have f0 := hr3.free (freeIx S * 3); have f1 := hr3.free (freeIx S * 3 + 1); have f2 := hr3.free (freeIx S * 3 + 2); have HR3 := Lib.hid hr3; clear hb3 k1 hr3)
            rw [Exit.noGoto_ret]
            go_ret2
            have HW3 := HW2.out.below HB3.out
            have n1 : b ≠ h := typ_ne HR3.out HW3.head (by decide)
            have n2 : b ≠ g := typ_ne HR3.out HW3.data (by decide)
            refine ⟨L, HQL.out, ?_, .inl ⟨0, .slice (some ⟨b, 0, none⟩) S.bl.length cb, by rw [HGS.out]; exact HP.out, rfl, ?_⟩⟩
            · exact (HU2.out.trans (.of_below HB3.out)).trans (.of_upd (l := [b]) ((((Upd.refl _ _).setCell (by simp) _).setCell (by simp) _).setCell (by simp) _) (fun k hk => by simp at hk; subst hk; exact ⟨hbB, _, _, HR3.out, by decide⟩))
            · rw [HFI.out]
              refine ⟨((HW3.head.setOther n1 _).setOther n1 _).setOther n1 _, ((HW3.data.setOther n2 _).setOther n2 _).setOther n2 _, ?_, HW3.len, HW3.small, ?_, HW3.lo, HW3.word⟩
              · have e3 : flatB (S.bl.set (freeIx S) ⟨0, 0, true⟩) = (((flatB S.bl).set (freeIx S * 3) (.int .i64 (0 : Nat))).set (freeIx S * 3 + 1) (.int .i64 (0 : Nat))).set (freeIx S * 3 + 2) (.bool true) := by rw [flatB_set, if_pos hf]
                show World.ownsRow _ _ _ _ _ (S.bl.set (freeIx S) ⟨0, 0, true⟩).length (flatB (S.bl.set (freeIx S) ⟨0, 0, true⟩))
                rw [e3, List.length_set]
                exact block_h hbB (((HR3.out.set _ _).set _ _).set _ _) (by rw [List.take_set, List.take_set, List.take_set]; rw [show List.take (S.bl.length * 3) cur = flatB S.bl from HTK.out]; try rfl) hnc HCM.out (by simp only [List.length_set]; exact HCL.out)
              · show (S.bl.set _ _).length ≤ _
                rw [List.length_set]; omega
          · have hfv : freeV (wsS S 0 (List.replicate 0 0)) = -1 := by show freeV S = _; unfold freeV; rw [if_neg hf]
            rw [hfv] at HIX
            have HFI := Lib.hid (show allocS S 0 0 = { wsS S 0 (List.replicate 0 0) with bl := S.bl ++ [⟨0, 0, true⟩] } by unfold allocS; rw [if_neg hf]; rfl)
            have HFN := Lib.hid (show freeIx S = S.bl.length by have : freeIx S ≤ S.bl.length := List.findIdx_le_length; omega)
            obtain ⟨va2, vc2, hv2, -, -, -⟩ := owns_reads HW2.out.own
            have hv3 : vb = .slice va2 S.bl.length vc2 := hv2
            subst hv3
            have hone : ∀ u ∈ [(.int .i64 0 : Value), .int .i64 0, .bool false], u.oneCell' = true := by intro u hu; simp at hu; rcases hu with rfl | rfl <;> rfl
            have HONE := Lib.hid hone
            have HMX := Lib.hid (show S.bl.length + 1 ≤ maxLen by unfold maxLen; omega)
            have HBY := Lib.hid (show (S.bl.length + 1) * 24 ≤ 140737488355328 by omega)
            clear hfv hf hone hv2
            go_wp2_with (first | (go_at_call 40; refine HIX.out.mono ?_; rintro e w3 ⟨rfl, hb3⟩; have HB3 := Lib.hid hb3; have k3 := cellKeep hb3 k1; have HW3 := Lib.hid (HW2.out.below hb3); have HBB := Lib.hid (show B ≤ w3.heap.size by have := HW3.out.lo.1; have := HW3.out.head.lt; omega); clear hb3 k1) | (at_builtin; go_loud (refine wpList_app rfl _ _ 73 rfl B 78 zBlk 3 24 Try.underlying73 inf_blk rfl (by decide) (.slice va2 S.bl.length vc2) S.bl.length _ rfl (HW3.out.own.alloc _) _ 1 1 [.int .i64 0, .int .i64 0, .bool false] rfl rfl (Reads.madeAt (by simp)) HONE.out HMX.out HBY.out (Nat.le_trans HBB.out (by simp)) ?_)))
            intro v4 w4 own4 gr4
            have hh4 : Row w4 h 75 [.slice (some ⟨g, 0, none⟩) S.N S.N, .slice va2 S.bl.length vc2] := (gr4.block h (by have := HW3.out.head.lt; simp; omega) (fun e => by
              obtain ⟨_, ys, hy⟩ := owns_row HW3.out.own h e.symm
              exact typ_ne hy HW3.out.head (by decide) rfl)).trans (HW3.out.head.alloc _)
            have hd4 : Row w4 g 56 ((splice S.ws 0 (List.replicate 0 0)).map (Value.int .u16)) := (gr4.block g (by have := HW3.out.data.lt; simp; omega) (fun e => by
              obtain ⟨_, ys, hy⟩ := owns_row HW3.out.own g e.symm
              exact typ_ne hy HW3.out.data (by decide) rfl)).trans (HW3.out.data.alloc _)
            have HU4 := Lib.hid ((HU2.out.trans ((HUpd.of_below HB3.out).trans (.of_below ((Below.refl _ _).alloc (Nat.le_refl _) _)))).grown gr4 (fun k hk => by
              obtain ⟨h1, ys, hy⟩ := owns_row HW3.out.own k hk
              exact ⟨h1, _, ys, hy.alloc _, by decide⟩))
            obtain ⟨b, cb, cur, hv4, hbB, hrow, htk, hnc, hcm, hcl⟩ := h_block own4 (by omega)
            subst hv4
            have k4 := hh4.cell (i := 1) rfl
            have kf4 := hh4.free 1
            have nbh : ¬ b = h := typ_ne hrow hh4 (by decide)
            have nbg : b ≠ g := typ_ne hrow hd4 (by decide)
            have hf3 : S.bl.length * 3 + 2 < cur.length := by rw [hcl]; have := Nat.mul_le_mul_right 3 hnc; omega
            obtain ⟨o0, q0⟩ := hrow.has (i := S.bl.length * 3) (by omega)
            obtain ⟨o1, q1⟩ := hrow.has (i := S.bl.length * 3 + 1) (by omega)
            obtain ⟨o2, q2⟩ := hrow.has (i := S.bl.length * 3 + 2) (by omega)
            have f0 := hrow.free (S.bl.length * 3)
            have f1 := hrow.free (S.bl.length * 3 + 1)
            have f2 := hrow.free (S.bl.length * 3 + 2)
            have HH4 := Lib.hid hh4
            have HD4 := Lib.hid hd4
            have HR4 := Lib.hid hrow
            have HTK := Lib.hid htk
            have HCL := Lib.hid hcl
            have HCM := Lib.hid hcm
            clear own4 gr4 hh4 hd4 hrow htk hcl hcm k3 hf3
            go_wp2
            rw [Exit.noGoto_ret]
            go_ret2
            refine ⟨L, HQL.out, ?_, .inl ⟨0, .slice (some ⟨b, 0, none⟩) (S.bl.length + 1) cb, by rw [HGS.out]; exact HP.out, by rw [HFN.out]; rfl, ?_⟩⟩
            · exact HU4.out.trans (.of_upd (l := [h, b]) (((((Upd.refl _ _).setCell (by simp) _).setCell (by simp) _).setCell (by simp) _).setCell (by simp) _) (fun k hk => by
                simp at hk
                rcases hk with rfl | rfl
                · exact ⟨HW3.out.lo.1, _, _, HH4.out, by decide⟩
                · exact ⟨hbB, _, _, HR4.out, by decide⟩))
            · rw [HFI.out]
              refine ⟨(((HH4.out.set 1 _).setOther nbh _).setOther nbh _).setOther nbh _, (((HD4.out.setOther nhg _).setOther nbg _).setOther nbg _).setOther nbg _, ?_, HW3.out.len, HW3.out.small, ?_, HW3.out.lo, HW3.out.word⟩
              · show World.ownsRow _ _ _ _ _ (S.bl ++ [(⟨0, 0, true⟩ : Blk)]).length (flatB (S.bl ++ [⟨0, 0, true⟩]))
                rw [flatB_more, List.length_append]
                exact block_h hbB ((((HR4.out.setOther (fun e => nbh e.symm) _).set _ _).set _ _).set _ _) (by rw [List.take_set, List.take_set, List.take_set]; rw [show List.take ((S.bl.length + 1) * 3) cur = flatB S.bl ++ ([.int .i64 0, .int .i64 0, .bool false] : List Value) from HTK.out]; try rfl) hnc HCM.out (by simp only [List.length_set]; exact HCL.out)
              · show (S.bl ++ [_]).length ≤ _
                rw [List.length_append]; simp; omega
      have HT := Lib.hid tail
      clear tail hKT hpn
      go_loopw [6, 21] (fun x i wr => ∃ j : Nat, j ≤ gs.length ∧ i = .int .i64 j ∧ x = .int .i64 (placeI (gs.take j) 0) ∧ Hid (Below w1.heap.size w1 wr)) (fun _ i _ => gs.length - (intOf i).toNat)
      case atStart => exact ⟨0, Nat.zero_le _, rfl, by rw [List.take_zero, placeI_nil]; rfl, Below.refl _ _⟩
      case round =>
        obtain ⟨j, hj, rfl, rfl, HB⟩ := hrel
        have hbs := HB.out.size
        by_cases hlt : j < gs.length
        · obtain ⟨b, c, hv, c0, c1⟩ := gap_cells ((Upd.of_below (l := []) HB.out).ownsAbove HO.out (by simp)) hlt
          cases hv
          have HNX := Lib.hid (placeI_next (n := 0) hlt)
          have HDN := Lib.hid (fun h => placeI_done (gs := gs) (n := 0) (j := j) h)
          have HNG := Lib.hid (fun h => placeI_neg (gs := gs.take j) (n := 0) h)
          have hgl2 := HLE.out _ (List.getElem_mem hlt)
          generalize placeI (gs.take j) 0 = x at *
          generalize gs[j].1 = s at *
          generalize gs[j].2 = m at *
          by_cases hx : 0 ≤ x
          · have hxp := HDN.out hx
            rw [HP.out] at hxp
            subst hxp
            clear HNX HDN HNG
            go_wp2
            apply HT.out
            exact HB.out.alloc hbs _
          · have hx1 := HNG.out (by omega)
            subst hx1
            have HN := Lib.hid (HNX.out (by omega))
            clear HNX HDN HNG hx
            by_cases hm : 0 ≤ m
            · rw [if_pos hm] at HN
              have hm2 : (0 : Int) ≤ (m : Int) := by omega
              go_wp2
              go_roundw
              case rel => exact ⟨j + 1, by omega, by go_num, by rw [HN.out], HB.out.alloc hbs _⟩
              case measure => simp [intOf]; omega
            · exact absurd (Nat.zero_le _) hm
        · obtain rfl : j = gs.length := by omega
          rw [List.take_length]
          rw [HP.out]
          go_wp2
          apply HT.out
          exact HB.out
    · have HP := Lib.hid (placeI_neg (gs := gs) (n := 0) (by omega))
      have HKT := Lib.hid hKT
      clear hKT HPF
      go_loopw [6, 21] (fun x i wr => ∃ j : Nat, j ≤ gs.length ∧ i = .int .i64 j ∧ x = .int .i64 (placeI (gs.take j) 0) ∧ Hid (Below w1.heap.size w1 wr)) (fun _ i _ => gs.length - (intOf i).toNat)
      case atStart => exact ⟨0, Nat.zero_le _, rfl, by rw [List.take_zero, placeI_nil]; rfl, Below.refl _ _⟩
      case round =>
        obtain ⟨j, hj, rfl, rfl, HB⟩ := hrel
        have hbs := HB.out.size
        by_cases hlt : j < gs.length
        · obtain ⟨b, c, hv, c0, c1⟩ := gap_cells ((Upd.of_below (l := []) HB.out).ownsAbove HO.out (by simp)) hlt
          cases hv
          have HNX := Lib.hid (placeI_next (n := 0) hlt)
          have HDN := Lib.hid (fun h => placeI_done (gs := gs) (n := 0) (j := j) h)
          have HNG := Lib.hid (fun h => placeI_neg (gs := gs.take j) (n := 0) h)
          have hgl2 := HLE.out _ (List.getElem_mem hlt)
          generalize placeI (gs.take j) 0 = x at *
          generalize gs[j].1 = s at *
          generalize gs[j].2 = m at *
          by_cases hx : 0 ≤ x
          · exact absurd (by rw [HDN.out hx]; exact hx) hP
          · have hx1 := HNG.out (by omega)
            subst hx1
            have HN := Lib.hid (HNX.out (by omega))
            clear HNX HDN HNG hx
            by_cases hm : 0 ≤ m
            · rw [if_pos hm] at HN
              have hm2 : (0 : Int) ≤ (m : Int) := by omega
              go_wp2
              go_roundw
              case rel => exact ⟨j + 1, by omega, by go_num, by rw [HN.out], HB.out.alloc hbs _⟩
              case measure => simp [intOf]; omega
            · exact absurd (Nat.zero_le _) hm
        · obtain rfl : j = gs.length := by omega
          rw [List.take_length]
          rw [HP.out]
          clear hP
          go_wp2
          refine HKT.out _ _ ?_
          clear HKT
          go_wp2
          rw [Exit.noGoto_ret]
          go_ret2
          exact ⟨L, HQL.out, .of_below (bNext HB1.out HB.out), .inr ⟨by rw [HGS.out]; exact HP.out, rfl, HH.out.below (bNext HB1.out HB.out)⟩⟩
  · have hn1 : ¬ ((n : Int) = 0) := by omega
    go_wp2_with fail
    go_step3
    go_wp2_with fail
    refine HG.out.mono ?_
    clear HG
    rintro e w1 ⟨v, L, hq, rfl, ho, hb⟩
    have HB1 := Lib.hid hb
    have hle := gapsOf_le (HF.out.fit L hq)
    have hfw := HF.out.few L hq
    have hgl := gapsOf_len S L
    have HQL := Lib.hid hq
    obtain ⟨va, vc, rfl, -, -, -⟩ := owns_reads ho
    have HO := Lib.hid ho
    have HPF := Lib.hid (fun h0 => placeI_fits (n := n) h0 hle)
    have HLE := Lib.hid hle
    clear ho hb hq HF hle
    generalize hgs : gapsOf S L = gs at *
    have HGS := Lib.hid hgs
    clear hgs
    go_wp2
    rename_i KT hKT
    by_cases hP : 0 ≤ placeI gs n
    · obtain ⟨p, hp, hpn⟩ := HPF.out hP
      have HP := Lib.hid hp
      have HPN := Lib.hid hpn
      clear HPF hP hp

      have tail : ∀ (x2 x3 x4 x5 x7 x8 x9 x10 x11 x12 x13 x14 x15 x16 x17 x18 x19 x20 x21 x22 x23 x24 x25 x26 x27 x28 x29 x30 x31 x32 x33 x34 x35 x36 x37 x38 x39 x40 x41 x42 x43 x44 x45 x46 x47 x48 x49 x50 x51 x52 x53 x54 x55 x56 x57 x58 x59 x60 x61 x62 x63 x64 x65 x66 x67 x68 x69 x70 x71 x72 x73 x74 x75 x76 : Value) (wr : World), Hid (Below w1.heap.size w1 wr) → KT ⟨#[.pointer (some ⟨h, 0, none⟩), .int .i64 n, x2, x3, x4, x5, .int .i64 p, x7, x8, x9, x10, x11, x12, x13, x14, x15, x16, x17, x18, x19, x20, x21, x22, x23, x24, x25, x26, x27, x28, x29, x30, x31, x32, x33, x34, x35, x36, x37, x38, x39, x40, x41, x42, x43, x44, x45, x46, x47, x48, x49, x50, x51, x52, x53, x54, x55, x56, x57, x58, x59, x60, x61, x62, x63, x64, x65, x66, x67, x68, x69, x70, x71, x72, x73, x74, x75, x76], []⟩ wr := by
        intro x2 x3 x4 x5 x7 x8 x9 x10 x11 x12 x13 x14 x15 x16 x17 x18 x19 x20 x21 x22 x23 x24 x25 x26 x27 x28 x29 x30 x31 x32 x33 x34 x35 x36 x37 x38 x39 x40 x41 x42 x43 x44 x45 x46 x47 x48 x49 x50 x51 x52 x53 x54 x55 x56 x57 x58 x59 x60 x61 x62 x63 x64 x65 x66 x67 x68 x69 x70 x71 x72 x73 x74 x75 x76 wr HB
        refine hKT _ _ ?_
        clear hKT HO
        have hbw := bNext HB1.out HB.out
        have HW := Lib.hid (HH.out.below hbw)
        have HU0 := Lib.hid (show HUpd B w wr from .of_below hbw)
        have HBS := Lib.hid hbw.size
        have k0 := HW.out.head.cell (i := 0) rfl
        have HD := Lib.hid HW.out.data
        have HLN := Lib.hid HW.out.len
        have nhg : h ≠ g := typ_ne HW.out.head HW.out.data (by decide)
        clear hbw
        have hN0 : p < S.N := by omega
        go_wp2_with (with_reducible refine wpList_clr rfl (.tmp 44) 55 rfl 56 (.int .u16 0) Try.underlying55 zero_u16 rfl rfl _ _ _ rfl g p _ 56 HD.out (fun _ => rfl) (by rw [List.length_map, HLN.out]; have := HPN.out; omega) ?_)
        intro w2 hD2 hU2
        have hD3 : Row w2 g 56 ((splice S.ws p (List.replicate n 0)).map (Value.int .u16)) := by
          rw [← splice_map, List.map_replicate]; exact hD2
        have HW2 := Lib.hid (show HpAt w2 B h g vb (wsS S p (List.replicate n 0)) from ⟨HW.out.head.keep hU2 (by simp; exact nhg), hD3, hU2.owns HW.out.own (fun k hk => by
            obtain ⟨_, ys, hy⟩ := owns_row HW.out.own k hk
            have := typ_ne hy HW.out.data (by decide)
            simp; exact this), (splice_len _ _ _ (by rw [List.length_replicate, HLN.out]; exact HPN.out)).trans HLN.out, hsm, HW.out.few, HW.out.lo, splice_mem HW.out.word (fun x hx => by rw [List.eq_of_mem_replicate hx]; omega)⟩)
        have HU2 := Lib.hid (HU0.out.trans (.of_upd hU2 (fun k hk => by simp at hk; subst hk; exact ⟨HW.out.lo.2, _, _, HD.out, by decide⟩)))
        have k1 := HW2.out.head.cell (i := 1) rfl
        have HIX := Lib.hid (c_IndexFree HW2.out)
        clear hD2 hU2 hD3 k0 HU0 HBS HD HLN HW
        by_cases hf : freeIx S < S.bl.length
        · have hfv : freeV (wsS S p (List.replicate n 0)) = (freeIx S : Nat) := by show freeV S = _; unfold freeV; rw [if_pos hf]
          rw [hfv] at HIX
          have HFI := Lib.hid (show allocS S p n = { wsS S p (List.replicate n 0) with bl := S.bl.set (freeIx S) ⟨p, n, true⟩ } by unfold allocS; rw [if_pos hf]; rfl)
          obtain ⟨b, cb, cur, hv, hbB, hrow, htk, hnc, hcm, hcl⟩ := h_block HW2.out.own (by show 0 < S.bl.length; omega)
          subst hv
          have HTK := Lib.hid htk
          have HCL := Lib.hid hcl
          have HCM := Lib.hid hcm
          have hfS := Lib.hid (rfl : freeIx S = freeIx S)
          have HRW := Lib.hid hrow
          clear hfv htk hcl hcm hrow
          have hf3 : freeIx S * 3 + 2 < cur.length := by rw [HCL.out]; have := Nat.mul_le_mul_right 3 hnc; have h3 : (wsS S p (List.replicate n 0)).bl.length = S.bl.length := rfl; omega
          have hfl : freeIx S ≤ 1000000 := by omega
          go_wp2_with (go_at_call 40; refine HIX.out.mono ?_; rintro e w3 ⟨rfl, hb3⟩; have HB3 := Lib.hid hb3; have k3 := cellKeep hb3 k1; have hr3 := HRW.out.keep (l := []) (.of_below hb3) (by simp); have q0 := hr3.cell (i := freeIx S * 3) (v := cur[freeIx S * 3]) (by simp); have q1 := hr3.cell (i := freeIx S * 3 + 1) (v := cur[freeIx S * 3 + 1]) (by simp); have q2 := hr3.cell (i := freeIx S * 3 + 2) (v := cur[freeIx S * 3 + 2]) (by simp); have f0 := hr3.free (freeIx S * 3); have f1 := hr3.free (freeIx S * 3 + 1); have f2 := hr3.free (freeIx S * 3 + 2); have HR3 := Lib.hid hr3; clear hb3 k1 hr3)
          rw [Exit.noGoto_ret]
          go_ret2
          have HW3 := HW2.out.below HB3.out
          have n1 : b ≠ h := typ_ne HR3.out HW3.head (by decide)
          have n2 : b ≠ g := typ_ne HR3.out HW3.data (by decide)
          refine ⟨L, HQL.out, ?_, .inl ⟨p, .slice (some ⟨b, 0, none⟩) S.bl.length cb, by rw [HGS.out]; exact HP.out, rfl, ?_⟩⟩
          · exact (HU2.out.trans (.of_below HB3.out)).trans (.of_upd (l := [b]) ((((Upd.refl _ _).setCell (by simp) _).setCell (by simp) _).setCell (by simp) _) (fun k hk => by simp at hk; subst hk; exact ⟨hbB, _, _, HR3.out, by decide⟩))
          · rw [HFI.out]
            refine ⟨((HW3.head.setOther n1 _).setOther n1 _).setOther n1 _, ((HW3.data.setOther n2 _).setOther n2 _).setOther n2 _, ?_, HW3.len, HW3.small, ?_, HW3.lo, HW3.word⟩
            · have e3 : flatB (S.bl.set (freeIx S) ⟨p, n, true⟩) = (((flatB S.bl).set (freeIx S * 3) (.int .i64 (p : Nat))).set (freeIx S * 3 + 1) (.int .i64 (n : Nat))).set (freeIx S * 3 + 2) (.bool true) := by rw [flatB_set, if_pos hf]
              show World.ownsRow _ _ _ _ _ (S.bl.set (freeIx S) ⟨p, n, true⟩).length (flatB (S.bl.set (freeIx S) ⟨p, n, true⟩))
              rw [e3, List.length_set]
              exact block_h hbB (((HR3.out.set _ _).set _ _).set _ _) (by rw [List.take_set, List.take_set, List.take_set]; rw [show List.take (S.bl.length * 3) cur = flatB S.bl from HTK.out]; try rfl) hnc HCM.out (by simp only [List.length_set]; exact HCL.out)
            · show (S.bl.set _ _).length ≤ _
              rw [List.length_set]; omega
        · have hfv : freeV (wsS S p (List.replicate n 0)) = -1 := by show freeV S = _; unfold freeV; rw [if_neg hf]
          rw [hfv] at HIX
          have HFI := Lib.hid (show allocS S p n = { wsS S p (List.replicate n 0) with bl := S.bl ++ [⟨p, n, true⟩] } by unfold allocS; rw [if_neg hf]; rfl)
          have HFN := Lib.hid (show freeIx S = S.bl.length by have : freeIx S ≤ S.bl.length := List.findIdx_le_length; omega)
          obtain ⟨va2, vc2, hv2, -, -, -⟩ := owns_reads HW2.out.own
          have hv3 : vb = .slice va2 S.bl.length vc2 := hv2
          subst hv3
          have hone : ∀ u ∈ [(.int .i64 0 : Value), .int .i64 0, .bool false], u.oneCell' = true := by intro u hu; simp at hu; rcases hu with rfl | rfl <;> rfl
          have HONE := Lib.hid hone
          have HMX := Lib.hid (show S.bl.length + 1 ≤ maxLen by unfold maxLen; omega)
          have HBY := Lib.hid (show (S.bl.length + 1) * 24 ≤ 140737488355328 by omega)
          clear hfv hf hone hv2
          go_wp2_with (first | (go_at_call 40; refine HIX.out.mono ?_; rintro e w3 ⟨rfl, hb3⟩; have HB3 := Lib.hid hb3; have k3 := cellKeep hb3 k1; have HW3 := Lib.hid (HW2.out.below hb3); have HBB := Lib.hid (show B ≤ w3.heap.size by have := HW3.out.lo.1; have := HW3.out.head.lt; omega); clear hb3 k1) | (at_builtin; go_loud (refine wpList_app rfl _ _ 73 rfl B 78 zBlk 3 24 Try.underlying73 inf_blk rfl (by decide) (.slice va2 S.bl.length vc2) S.bl.length _ rfl (HW3.out.own.alloc _) _ 1 1 [.int .i64 0, .int .i64 0, .bool false] rfl rfl (Reads.madeAt (by simp)) HONE.out HMX.out HBY.out (Nat.le_trans HBB.out (by simp)) ?_)))
          intro v4 w4 own4 gr4
          have hh4 : Row w4 h 75 [.slice (some ⟨g, 0, none⟩) S.N S.N, .slice va2 S.bl.length vc2] := (gr4.block h (by have := HW3.out.head.lt; simp; omega) (fun e => by
            obtain ⟨_, ys, hy⟩ := owns_row HW3.out.own h e.symm
            exact typ_ne hy HW3.out.head (by decide) rfl)).trans (HW3.out.head.alloc _)
          have hd4 : Row w4 g 56 ((splice S.ws p (List.replicate n 0)).map (Value.int .u16)) := (gr4.block g (by have := HW3.out.data.lt; simp; omega) (fun e => by
            obtain ⟨_, ys, hy⟩ := owns_row HW3.out.own g e.symm
            exact typ_ne hy HW3.out.data (by decide) rfl)).trans (HW3.out.data.alloc _)
          have HU4 := Lib.hid ((HU2.out.trans ((HUpd.of_below HB3.out).trans (.of_below ((Below.refl _ _).alloc (Nat.le_refl _) _)))).grown gr4 (fun k hk => by
            obtain ⟨h1, ys, hy⟩ := owns_row HW3.out.own k hk
            exact ⟨h1, _, ys, hy.alloc _, by decide⟩))
          obtain ⟨b, cb, cur, hv4, hbB, hrow, htk, hnc, hcm, hcl⟩ := h_block own4 (by omega)
          subst hv4
          have k4 := hh4.cell (i := 1) rfl
          have kf4 := hh4.free 1
          have nbh : ¬ b = h := typ_ne hrow hh4 (by decide)
          have nbg : b ≠ g := typ_ne hrow hd4 (by decide)
          have hf3 : S.bl.length * 3 + 2 < cur.length := by rw [hcl]; have := Nat.mul_le_mul_right 3 hnc; omega
          obtain ⟨o0, q0⟩ := hrow.has (i := S.bl.length * 3) (by omega)
          obtain ⟨o1, q1⟩ := hrow.has (i := S.bl.length * 3 + 1) (by omega)
          obtain ⟨o2, q2⟩ := hrow.has (i := S.bl.length * 3 + 2) (by omega)
          have f0 := hrow.free (S.bl.length * 3)
          have f1 := hrow.free (S.bl.length * 3 + 1)
          have f2 := hrow.free (S.bl.length * 3 + 2)
          have HH4 := Lib.hid hh4
          have HD4 := Lib.hid hd4
          have HR4 := Lib.hid hrow
          have HTK := Lib.hid htk
          have HCL := Lib.hid hcl
          have HCM := Lib.hid hcm
          clear own4 gr4 hh4 hd4 hrow htk hcl hcm k3 hf3
          go_wp2
          rw [Exit.noGoto_ret]
          go_ret2
          refine ⟨L, HQL.out, ?_, .inl ⟨p, .slice (some ⟨b, 0, none⟩) (S.bl.length + 1) cb, by rw [HGS.out]; exact HP.out, by rw [HFN.out]; rfl, ?_⟩⟩
          · exact HU4.out.trans (.of_upd (l := [h, b]) (((((Upd.refl _ _).setCell (by simp) _).setCell (by simp) _).setCell (by simp) _).setCell (by simp) _) (fun k hk => by
              simp at hk
              rcases hk with rfl | rfl
              · exact ⟨HW3.out.lo.1, _, _, HH4.out, by decide⟩
              · exact ⟨hbB, _, _, HR4.out, by decide⟩))
          · rw [HFI.out]
            refine ⟨(((HH4.out.set 1 _).setOther nbh _).setOther nbh _).setOther nbh _, (((HD4.out.setOther nhg _).setOther nbg _).setOther nbg _).setOther nbg _, ?_, HW3.out.len, HW3.out.small, ?_, HW3.out.lo, HW3.out.word⟩
            · show World.ownsRow _ _ _ _ _ (S.bl ++ [(⟨p, n, true⟩ : Blk)]).length (flatB (S.bl ++ [⟨p, n, true⟩]))
              rw [flatB_more, List.length_append]
              exact block_h hbB ((((HR4.out.setOther (fun e => nbh e.symm) _).set _ _).set _ _).set _ _) (by rw [List.take_set, List.take_set, List.take_set]; rw [show List.take ((S.bl.length + 1) * 3) cur = flatB S.bl ++ ([.int .i64 0, .int .i64 0, .bool false] : List Value) from HTK.out]; try rfl) hnc HCM.out (by simp only [List.length_set]; exact HCL.out)
            · show (S.bl ++ [_]).length ≤ _
              rw [List.length_append]; simp; omega
      have HT := Lib.hid tail
      clear tail hKT hpn
      go_loopw [6, 21] (fun x i wr => ∃ j : Nat, j ≤ gs.length ∧ i = .int .i64 j ∧ x = .int .i64 (placeI (gs.take j) n) ∧ Hid (Below w1.heap.size w1 wr)) (fun _ i _ => gs.length - (intOf i).toNat)
      case atStart => exact ⟨0, Nat.zero_le _, rfl, by rw [List.take_zero, placeI_nil]; rw [if_neg hn0], Below.refl _ _⟩
      case round =>
        obtain ⟨j, hj, rfl, rfl, HB⟩ := hrel
        have hbs := HB.out.size
        by_cases hlt : j < gs.length
        · obtain ⟨b, c, hv, c0, c1⟩ := gap_cells ((Upd.of_below (l := []) HB.out).ownsAbove HO.out (by simp)) hlt
          cases hv
          have HNX := Lib.hid (placeI_next (n := n) hlt)
          have HDN := Lib.hid (fun h => placeI_done (gs := gs) (n := n) (j := j) h)
          have HNG := Lib.hid (fun h => placeI_neg (gs := gs.take j) (n := n) h)
          have hgl2 := HLE.out _ (List.getElem_mem hlt)
          generalize placeI (gs.take j) n = x at *
          generalize gs[j].1 = s at *
          generalize gs[j].2 = m at *
          by_cases hx : 0 ≤ x
          · have hxp := HDN.out hx
            rw [HP.out] at hxp
            subst hxp
            clear HNX HDN HNG
            go_wp2
            apply HT.out
            exact HB.out.alloc hbs _
          · have hx1 := HNG.out (by omega)
            subst hx1
            have HN := Lib.hid (HNX.out (by omega))
            clear HNX HDN HNG hx
            by_cases hm : n ≤ m
            · rw [if_pos hm] at HN
              have hm2 : (n : Int) ≤ (m : Int) := by omega
              go_wp2
              go_roundw
              case rel => exact ⟨j + 1, by omega, by go_num, by rw [HN.out], HB.out.alloc hbs _⟩
              case measure => simp [intOf]; omega
            · have hm3 := hm
              rw [if_neg hm] at HN
              have hm2 : ¬ (n : Int) ≤ (m : Int) := by omega
              go_wp2
              go_roundw
              case rel => exact ⟨j + 1, by omega, by go_num, by rw [HN.out], HB.out.alloc hbs _⟩
              case measure => simp [intOf]; omega
        · obtain rfl : j = gs.length := by omega
          rw [List.take_length]
          rw [HP.out]
          go_wp2
          apply HT.out
          exact HB.out
    · have HP := Lib.hid (placeI_neg (gs := gs) (n := n) (by omega))
      have HKT := Lib.hid hKT
      clear hKT HPF
      go_loopw [6, 21] (fun x i wr => ∃ j : Nat, j ≤ gs.length ∧ i = .int .i64 j ∧ x = .int .i64 (placeI (gs.take j) n) ∧ Hid (Below w1.heap.size w1 wr)) (fun _ i _ => gs.length - (intOf i).toNat)
      case atStart => exact ⟨0, Nat.zero_le _, rfl, by rw [List.take_zero, placeI_nil]; rw [if_neg hn0], Below.refl _ _⟩
      case round =>
        obtain ⟨j, hj, rfl, rfl, HB⟩ := hrel
        have hbs := HB.out.size
        by_cases hlt : j < gs.length
        · obtain ⟨b, c, hv, c0, c1⟩ := gap_cells ((Upd.of_below (l := []) HB.out).ownsAbove HO.out (by simp)) hlt
          cases hv
          have HNX := Lib.hid (placeI_next (n := n) hlt)
          have HDN := Lib.hid (fun h => placeI_done (gs := gs) (n := n) (j := j) h)
          have HNG := Lib.hid (fun h => placeI_neg (gs := gs.take j) (n := n) h)
          have hgl2 := HLE.out _ (List.getElem_mem hlt)
          generalize placeI (gs.take j) n = x at *
          generalize gs[j].1 = s at *
          generalize gs[j].2 = m at *
          by_cases hx : 0 ≤ x
          · exact absurd (by rw [HDN.out hx]; exact hx) hP
          · have hx1 := HNG.out (by omega)
            subst hx1
            have HN := Lib.hid (HNX.out (by omega))
            clear HNX HDN HNG hx
            by_cases hm : n ≤ m
            · rw [if_pos hm] at HN
              have hm2 : (n : Int) ≤ (m : Int) := by omega
              go_wp2
              go_roundw
              case rel => exact ⟨j + 1, by omega, by go_num, by rw [HN.out], HB.out.alloc hbs _⟩
              case measure => simp [intOf]; omega
            · have hm3 := hm
              rw [if_neg hm] at HN
              have hm2 : ¬ (n : Int) ≤ (m : Int) := by omega
              go_wp2
              go_roundw
              case rel => exact ⟨j + 1, by omega, by go_num, by rw [HN.out], HB.out.alloc hbs _⟩
              case measure => simp [intOf]; omega
        · obtain rfl : j = gs.length := by omega
          rw [List.take_length]
          rw [HP.out]
          clear hP
          go_wp2
          refine HKT.out _ _ ?_
          clear HKT
          go_wp2
          rw [Exit.noGoto_ret]
          go_ret2
          exact ⟨L, HQL.out, .of_below (bNext HB1.out HB.out), .inr ⟨by rw [HGS.out]; exact HP.out, rfl, HH.out.below (bNext HB1.out HB.out)⟩⟩

end Go.Proofs.Ytcecegcbkcdpjaa
