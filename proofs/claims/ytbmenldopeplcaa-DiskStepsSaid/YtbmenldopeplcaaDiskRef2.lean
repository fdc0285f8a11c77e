/-
  What the document's answer of chapter 03 does with one thing that is done.
-/
import Derived.Test.YtbmenldopeplcaaDiskRef
namespace Go.Proofs.Ytbmenldopeplcaa
open Go.RowKit Go.ChangeShapes Go.ChangeAt
set_option linter.unusedVariables false

set_option maxHeartbeats 1000000

def part (l : List Int) (k : Nat) : List Int := l.take k ++ List.replicate (64 - k) 0
theorem part_len {l : List Int} {k : Nat} (h : k ≤ l.length) (h2 : k ≤ 64) : (part l k).length = 64 := by simp [part]; omega
theorem part_zero (l : List Int) : part l 0 = List.replicate 64 0 := by simp [part]
theorem part_all {l : List Int} {m : Nat} (h : m = l.length) : part l m = filled l := by subst h; simp [part, filled]
theorem part_set {l : List Int} {k : Nat} (h : k < l.length) (h2 : k < 64) : (part l k).set k (l.getD k 0) = part l (k + 1) := by
  apply List.ext_getElem?
  intro i
  have e0 : (l.take k).length = k := by simp; omega
  have e1 : (l.take (k + 1)).length = k + 1 := by simp; omega
  unfold part
  rw [List.getElem?_set]
  by_cases h3 : k = i
  · subst h3
    rw [if_pos rfl, if_pos (by simp; omega), List.getElem?_append_left (by omega), List.getElem?_take, if_pos (by omega), List.getD_eq_getElem?_getD, List.getElem?_eq_getElem h]
    rfl
  · rw [if_neg h3]
    by_cases h4 : i < k
    · rw [List.getElem?_append_left (by omega), List.getElem?_append_left (by omega), List.getElem?_take, List.getElem?_take, if_pos h4, if_pos (by omega)]
    · rw [List.getElem?_append_right (by omega), List.getElem?_append_right (by omega), e0, e1, List.getElem?_replicate, List.getElem?_replicate]
      by_cases h5 : i < 64
      · rw [if_pos (by omega), if_pos (by omega)]
      · rw [if_neg (by omega), if_neg (by omega)]
theorem part_byt {l : List Int} (h : Byt l) (k : Nat) : Byt (part l k) := (h.take _).append (fun x hx => by rw [List.eq_of_mem_replicate hx]; omega)

def RefStepPost (base n : Nat) (vs : List Value) (bs : List Int) (d : Do3) (w : World) (e : Ending) (w' : World) : Prop :=
  ∃ y vs' c, e = .returned (.tuple #[y, c, .int .i64 (step3 n 0 0 bs d).err]) ∧ RefAt w' base y n vs' (step3 n 0 0 bs d).bs ∧ (∀ v ∈ vs', v ∈ vs ∨ ∀ k, v.ownBlock = some k → w.heap.size ≤ k) ∧
    w'.ownsRow w.heap.size 5 1 c (step3 n 0 0 bs d).out.length ((step3 n 0 0 bs d).out.map (Value.int .u8)) ∧ Below w.heap.size w w'

theorem RefAt.below {w w' : World} {base : Nat} {v : Value} {n : Nat} {vs : List Value} {bs : List Int} (h : RefAt w base v n vs bs) (hb : Below w.heap.size w w') : RefAt w' base v n vs bs :=
  ⟨(Upd.of_below (l := []) hb).owns h.row (by simp), h.secs.keep (Upd.of_below (l := []) hb) (by simp), h.len, h.byt⟩

theorem Sectors.set {w w' : World} {base n i : Nat} {vs : List Value} {bs f : List Int} {new : Value} (h : Sectors w base vs bs) (hb : Below w.heap.size w w') (hl : bs.length = 64 * n) (hi : i < n) (hf : f.length = 64)
    (hn : w'.ownsRow base 5 1 new 64 (f.map (Value.int .u8))) : Sectors w' base (vs.set i new) (splice bs (64 * i) f) := by
  intro j v hv
  rw [List.getElem?_set] at hv
  by_cases hij : i = j
  · subst hij
    rw [if_pos rfl] at hv
    rw [sector_splice hl hi hf]
    split at hv
    · cases hv; exact hn
    · cases hv
  · rw [if_neg hij] at hv
    rw [sector_other hl hi hf (Ne.symm hij)]
    exact (Upd.of_below (l := []) hb).owns (h j v hv) (by simp)

theorem c_RefStep (base n : Nat) (v : Value) (vs : List Value) (bs : List Int) (w : World) (h : RefAt w base v n vs bs) (hb : base ≤ w.heap.size) (hn : n ≤ 100000) (x : Do3) (hx : x.ok w) :
    Calls Try.prog 26 #[v, .agg #[.int .i64 x.kind, .int .i64 x.num, .slice x.a x.n x.c]] w (RefStepPost base n vs bs x w) := by
  obtain ⟨⟨hk0, hk1⟩, ⟨hi0, hi1⟩, hl, hlc, hcm, hrd, hwf⟩ := hx
  have hby : Byt x.l := fun y hy => bounds_u8 (hwf y hy)
  obtain ⟨kind, num, a, m, c, l⟩ := x
  dsimp only at *
  have HH := Lib.hid h
  have HB := Lib.hid hby
  have HR := Lib.hid hrd
  have HL := Lib.hid hl
  have hv64 := h.byt
  obtain ⟨av, cv, rfl, _, _, _⟩ := owns_reads h.row
  have HW := Lib.hid ((Below.refl w.heap.size w).alloc (Nat.le_refl _) (.cells #[.int .i64 kind, .int .i64 num, .slice a m c] 41))
  clear hby hrd hwf hl h
  by_cases ho : num < 0 ∨ (n : Int) ≤ num
  · have HS : Hid (step3 n 0 0 bs ⟨kind, num, a, m, c, l⟩ = ⟨0, 0, bs, [], 4⟩) := by unfold step3; rw [if_pos ho]; rfl
    by_cases h0 : num < 0
    · clear ho
      go_enter Try.func26, Try.ntmps26
      go_wp2
      go_ret3
      unfold RefStepPost
      rw [HS.out]
      exact ⟨_, vs, _, rfl, HH.out.below HW.out, fun v hv => .inl hv, World.ownsRow_nil _ _ _ _, HW.out⟩
    · have h1 : (n : Int) ≤ num := by omega
      clear ho
      go_enter Try.func26, Try.ntmps26
      go_wp2
      go_ret3
      unfold RefStepPost
      rw [HS.out]
      exact ⟨_, vs, _, rfl, HH.out.below HW.out, fun v hv => .inl hv, World.ownsRow_nil _ _ _ _, HW.out⟩
  · obtain ⟨i, rfl⟩ := Int.eq_ofNat_of_zero_le (show 0 ≤ num from by omega)
    have hin : i < n := by omega
    obtain ⟨gx, cx0, hvx, hgx, hgl, hcx, hcell⟩ := owns_at HH.out.row (by omega)
    cases hvx
    have hvl : vs.length = n := by have := HH.out.row.1; omega
    have hck := hcell i _ (List.getElem?_eq_getElem (by omega))
    have hok := HH.out.secs i _ (List.getElem?_eq_getElem (by omega))
    by_cases h1 : kind = 1
    · subst h1
      have HS : Hid (step3 n 0 0 bs ⟨1, i, a, m, c, l⟩ = ⟨0 + 1, 0, bs, sector bs i, 0⟩) := by unfold step3; rw [if_neg ho, if_pos rfl]; rfl
      generalize vs[i] = s at *
      obtain ⟨gk, ck, rfl, hgk, _, hck2, _⟩ := owns_at hok (by omega)
      have hcw : (w.alloc (.cells #[.int .i64 1, .int .i64 i, .slice a m c] 41)).cell? ⟨gx, i, none⟩ = some (.slice (some ⟨gk, 0, none⟩) 64 ck) := (HW.out.cell (p := ⟨gx, i, none⟩) hgl).trans hck
      have HK := Lib.hid (row_reads (hok.alloc (.cells #[.int .i64 1, .int .i64 i, .slice a m c] 41)))
      have hsl := sector_len HH.out.len hin
      clear ho hck hok hcell
      go_enter Try.func26, Try.ntmps26
      go_wp2_with fail
      refine (c_Copy _ 64 ck (sector bs i) _ hsl.symm HK.out (by omega)).mono ?_
      rintro e w2 ⟨vc, rfl, own, bel⟩
      have HO := Lib.hid own
      have HB2 := Lib.hid (bNext HW.out bel)
      clear own bel
      go_wp2
      go_ret3
      unfold RefStepPost
      rw [HS.out]
      exact ⟨_, vs, _, rfl, HH.out.below HB2.out, fun v hv => .inl hv, owns_mono HO.out (by simp), HB2.out⟩
    · have q1 : (kind == 1) = false := by simp [h1]
      by_cases h64 : 64 < m ∧ kind = 2
      · obtain ⟨h64, rfl⟩ := h64
        have HS : Hid (step3 n 0 0 bs ⟨2, i, a, m, c, l⟩ = ⟨0, 0, bs, [], 2⟩) := by unfold step3; rw [if_neg ho, if_neg (show ¬ ((2 : Int) = 1) from by decide), if_pos rfl, if_pos h64]; rfl
        clear ho h1 hck hok hcell
        go_enter Try.func26, Try.ntmps26
        go_wp2
        go_ret3
        unfold RefStepPost
        rw [HS.out]
        exact ⟨_, vs, _, rfl, HH.out.below HW.out, fun v hv => .inl hv, World.ownsRow_nil _ _ _ _, HW.out⟩
      · have hm : kind = 2 → m ≤ 64 := fun h => by
          rcases Nat.lt_or_ge 64 m with h2 | h2
          · exact absurd ⟨h2, h⟩ h64
          · exact h2
        have HM := Lib.hid hm
        have HVX := Lib.hid (show Reads w (some ⟨gx, 0, none⟩) cv vs from row_reads HH.out.row)
        have H1C := Lib.hid (show ∀ x ∈ vs, x.oneCell' = true from fun x hx => by
          obtain ⟨j, hj, rfl⟩ := List.getElem_of_mem hx
          exact owns_oneCell (HH.out.secs j _ (List.getElem?_eq_getElem hj)))
        clear hck hok hcell h1
        obtain ⟨bx, hbx⟩ : ∃ x, x = w.heap.size := ⟨_, rfl⟩
        by_cases h2 : kind = 2
        · subst h2
          have h64m := HM.out rfl
          have HS : Hid (step3 n 0 0 bs ⟨2, i, a, m, c, l⟩ = ⟨0, 0 + 1, splice bs (64 * i) (filled l), [], 0⟩) := by unfold step3; rw [if_neg ho, if_neg (show ¬ ((2 : Int) = 1) from by decide), if_pos rfl, if_neg (show ¬ 64 < m from by omega)]; rfl
          have RB : Row (w.alloc (.cells #[.int .i64 2, .int .i64 i, .slice a m c] 41)) bx 41 [.int .i64 2, .int .i64 i, .slice a m c] := by rw [hbx]; exact Row.made w [.int .i64 2, .int .i64 i, .slice a m c] 41
          have HRB := Lib.hid RB
          have HBX := Lib.hid hbx
          have hbl := RB.lt
          clear ho h64 RB
          clear hbx
          go_enter Try.func26, Try.ntmps26
          go_wp2_with (at_make; refine wpList_mk rfl _ _ 22 rfl 5 (.int .u8 0) 1 Try.underlying22 inf_u8 rfl .i64 .i64 _ _ 64 rfl rfl rfl rfl (by omega) (by unfold maxLen; omega) ?_)
          intro w2 row2 U2
          obtain ⟨u, hu⟩ : ∃ u, u = w.heap.size + 1 := ⟨_, rfl⟩
          rw [← hu] at row2
          have huw : w.heap.size < u := by omega
          have hub : bx < u := by rw [HBX.out]; exact huw
          have HUU := Lib.hid hu
          have HROW := Lib.hid row2
          have HU2 := Lib.hid U2
          rw [← hu, ← HBX.out]
          clear row2 U2 hu
          go_wp2_with fail
          go_loopw [8] (fun i wr => ∃ k : Nat, k ≤ m ∧ i = .int .i64 k ∧ Hid (Row wr u 5 ((part l k).map (Value.int .u8))) ∧ Hid (Upd [u] w2 wr)) (fun i _ => m - (intOf i).toNat)
          case atStart => exact ⟨0, Nat.zero_le _, rfl, by rw [part_zero, List.map_replicate]; exact HROW.out, Upd.refl _ _⟩
          case round =>
            obtain ⟨k, hk, rfl, HRow, HUr⟩ := hrel
            have HRBr := Lib.hid ((HRB.out.keep HU2.out (by simp)).keep HUr.out (by simp; omega))
            have hb0 := HRBr.out.cell (i := 0) rfl
            have hb1 := HRBr.out.cell (i := 1) rfl
            have hb2 := HRBr.out.cell (i := 2) rfl
            have HBr := Lib.hid ((HW.out.trans (HU2.out.below HW.out.size (by simp))).trans (HUr.out.below (by have := HU2.out.size; have := HW.out.size; omega) (fun k hk => by simp at hk; subst hk; omega)))
            have hbxl := HRBr.out.lt
            have FLEN := part_len (l := l) (k := k) (by have := HL.out; omega) (by omega)
            by_cases hlt : k < m
            · obtain ⟨b, off, rfl, hblt, hc⟩ := HR.out.at (by have := HL.out; simp; omega)
              have hcell := (HBr.out.cell (p := ⟨b, off + k, none⟩) hblt).trans (hc k _ (getD_map8 (by have := HL.out; omega)))
              have hcu := HRow.out.cell (i := k) (v := .int .u8 ((part l k).getD k 0)) (getD_map8 (by omega))
              have hfu := HRow.out.free k
              have HPS := Lib.hid (part_set (l := l) (k := k) (by have := HL.out; omega) (by omega))
              clear hc FLEN
              generalize l.getD k 0 = x at *
              generalize (part l k).getD k 0 = x0 at *
              go_wp2
              go_roundw
              case rel => exact ⟨k + 1, by omega, by go_num, (by have := HRow.out.set k (Value.int .u8 x); rw [← List.map_set, HPS.out] at this; exact this), HUr.out.setCell (p := ⟨u, k, none⟩) (by simp) _⟩
              case measure => simp [intOf]; omega
            · obtain rfl : m = k := by omega
              rw [part_all HL.out] at HRow FLEN
              have FBYT := Lib.hid (filled_byt HB.out)
              have HRX := Lib.hid (HVX.out.below HBr.out)
              go_wp2_with (at_builtin; refine wpList_app rfl _ _ 42 rfl wr.heap.size 22 (.slice none 0 0) 1 24 Try.underlying42 inf_bytes rfl (by decide) _ _ [] rfl (World.ownsRow_nil _ _ _ _) (some ⟨gx, 0, none⟩) n cv vs rfl (by omega) HRX.out H1C.out (by unfold maxLen; omega) (by omega) (Nat.le_refl _) ?_)
              intro y w5 own5 gr5
              obtain ⟨gy, cy, rfl, hgy, hgyl, hcy, _⟩ := owns_at own5 (by omega)
              have hf := own5.frozenAt i
              have hc := own5.cellAt i (by omega)
              rw [List.getElem?_eq_getElem (by omega)] at hc
              have HST := Lib.hid (own5.stored i (.slice (some ⟨u, 0, none⟩) 64 64))
              have HB5 := Lib.hid (HBr.out.grown gr5 HBr.out.size (by simp [Value.ownBlock]))
              have HBT := Lib.hid (show ∀ v, Below w.heap.size w (w5.setCell ⟨gy, i, none⟩ v) from fun v => HB5.out.trans (((Upd.refl [gy] w5).setCell (p := ⟨gy, i, none⟩) (by simp) v).below HB5.out.size (fun k hk => by simp at hk; subst hk; have := HBr.out.size; omega)))
              have hb5 : w5.cell? ⟨bx, 1, none⟩ = some (.int .i64 i) := (World.cell?_of_block (gr5.block bx hbxl (by simp [Value.ownBlock]))).trans hb1
              have HU5 := Lib.hid ((((Row.keep (l := []) HRow.out (Upd.grown (Upd.refl _ _) (World.ownsRow_nil wr wr.heap.size 22 1) (Nat.le_refl _) gr5) (by simp)).setOther (p := ⟨gy, i, none⟩) (show gy ≠ u by have := HRow.out.lt; omega) (.slice (some ⟨u, 0, none⟩) 64 64))))
              clear own5 gr5
              go_wp2
              go_ret3
              unfold RefStepPost
              rw [HS.out]
              refine ⟨_, vs.set i (.slice (some ⟨u, 0, none⟩) 64 64), _, rfl, ⟨owns_mono HST.out.1 (by have := HBr.out.size; omega), Sectors.set HH.out.secs (HBT.out _) HH.out.len hin FLEN ?_, ?_, ?_⟩, ?_, World.ownsRow_nil _ _ _ _, HBT.out _⟩
              · have hu5 := HU5.out.owns (base := base) (n := 64) (c := 64) (by have := HBr.out.size; omega) (by rw [List.length_map, FLEN]) (by omega) (by unfold maxLen; omega)
                rwa [List.take_of_length_le (by rw [List.length_map, FLEN]; omega)] at hu5
              · rw [length_splice _ _ _ (by rw [FLEN, HH.out.len]; omega)]; exact HH.out.len
              · exact splice_byt hv64 FBYT.out _
              · intro v hv
                rcases List.mem_or_eq_of_mem_set hv with h | rfl
                · exact .inl h
                · refine .inr (fun k hk => ?_)
                  simp [Value.ownBlock] at hk
                  omega
        · have q2 : (kind == 2) = false := by simp [h2]
          have HS : Hid (step3 n 0 0 bs ⟨kind, i, a, m, c, l⟩ = ⟨0, 0, splice bs (64 * i) (List.replicate 64 0), [], 0⟩) := by
            unfold step3
            rw [if_neg ho, if_neg (show ¬ kind = 1 from by simpa using q1), if_neg h2]; rfl
          have RB : Row (w.alloc (.cells #[.int .i64 kind, .int .i64 i, .slice a m c] 41)) bx 41 [.int .i64 kind, .int .i64 i, .slice a m c] := by rw [hbx]; exact Row.made w [.int .i64 kind, .int .i64 i, .slice a m c] 41
          have HRB := Lib.hid RB
          have HBX := Lib.hid hbx
          have hbl := RB.lt
          clear ho h64 RB hbx h2
          go_enter Try.func26, Try.ntmps26
          go_wp2_with (at_make; refine wpList_mk rfl _ _ 22 rfl 5 (.int .u8 0) 1 Try.underlying22 inf_u8 rfl .i64 .i64 _ _ 64 rfl rfl rfl rfl (by omega) (by unfold maxLen; omega) ?_)
          all_goals
          intro w2 row2 U2
          obtain ⟨u, hu⟩ : ∃ u, u = w.heap.size + 1 := ⟨_, rfl⟩
          rw [← hu] at row2
          have huw : w.heap.size < u := by omega
          have hub : bx < u := by rw [HBX.out]; exact huw
          have HUU := Lib.hid hu
          have HROW : Hid (Row w2 u 5 ((List.replicate 64 (0 : Int)).map (Value.int .u8))) := row2
          have HU2 := Lib.hid U2
          rw [← hu, ← HBX.out]
          clear row2 U2 hu
          go_wp2_with fail
          go_loopw [8] (fun i wr => i = .int .i64 0 ∧ Hid (Row wr u 5 ((List.replicate 64 (0 : Int)).map (Value.int .u8))) ∧ Hid (Upd [u] w2 wr)) (fun i _ => 0)
          case atStart => exact ⟨rfl, HROW.out, Upd.refl _ _⟩
          case round =>
            obtain ⟨rfl, HRow, HUr⟩ := hrel
            have HRBr := Lib.hid ((HRB.out.keep HU2.out (by simp)).keep HUr.out (by simp; omega))
            have hb0 := HRBr.out.cell (i := 0) rfl
            have hb1 := HRBr.out.cell (i := 1) rfl
            have hb2 := HRBr.out.cell (i := 2) rfl
            have HBr := Lib.hid ((HW.out.trans (HU2.out.below HW.out.size (by simp))).trans (HUr.out.below (by have := HU2.out.size; have := HW.out.size; omega) (fun k hk => by simp at hk; subst hk; omega)))
            have hbxl := HRBr.out.lt
            have FLEN : (List.replicate 64 (0 : Int)).length = 64 := by simp
            have FBYT := Lib.hid (zeros_byt 64)
            have HRX := Lib.hid (HVX.out.below HBr.out)
            by_cases hm0 : m = 0
            · have hm1 : ((0 : Int) < (m : Int)) = False := by simp; omega
              clear hm0
              go_wp2_with (at_builtin; refine wpList_app rfl _ _ 42 rfl wr.heap.size 22 (.slice none 0 0) 1 24 Try.underlying42 inf_bytes rfl (by decide) _ _ [] rfl (World.ownsRow_nil _ _ _ _) (some ⟨gx, 0, none⟩) n cv vs rfl (by omega) HRX.out H1C.out (by unfold maxLen; omega) (by omega) (Nat.le_refl _) ?_)
              all_goals
                intro y w5 own5 gr5
                obtain ⟨gy, cy, rfl, hgy, hgyl, hcy, _⟩ := owns_at own5 (by omega)
                have hf := own5.frozenAt i
                have hc := own5.cellAt i (by omega)
                rw [List.getElem?_eq_getElem (by omega)] at hc
                have HST := Lib.hid (own5.stored i (.slice (some ⟨u, 0, none⟩) 64 64))
                have HB5 := Lib.hid (HBr.out.grown gr5 HBr.out.size (by simp [Value.ownBlock]))
                have HBT := Lib.hid (show ∀ v, Below w.heap.size w (w5.setCell ⟨gy, i, none⟩ v) from fun v => HB5.out.trans (((Upd.refl [gy] w5).setCell (p := ⟨gy, i, none⟩) (by simp) v).below HB5.out.size (fun k hk => by simp at hk; subst hk; have := HBr.out.size; omega)))
                have hb5 : w5.cell? ⟨bx, 1, none⟩ = some (.int .i64 i) := (World.cell?_of_block (gr5.block bx hbxl (by simp [Value.ownBlock]))).trans hb1
                have HU5 := Lib.hid ((((Row.keep (l := []) HRow.out (Upd.grown (Upd.refl _ _) (World.ownsRow_nil wr wr.heap.size 22 1) (Nat.le_refl _) gr5) (by simp)).setOther (p := ⟨gy, i, none⟩) (show gy ≠ u by have := HRow.out.lt; omega) (.slice (some ⟨u, 0, none⟩) 64 64))))
                clear own5 gr5
                go_wp2
                go_ret3
                unfold RefStepPost
                rw [HS.out]
                refine ⟨_, vs.set i (.slice (some ⟨u, 0, none⟩) 64 64), _, rfl, ⟨owns_mono HST.out.1 (by have := HBr.out.size; omega), Sectors.set HH.out.secs (HBT.out _) HH.out.len hin FLEN ?_, ?_, ?_⟩, ?_, World.ownsRow_nil _ _ _ _, HBT.out _⟩
                · have hu5 := HU5.out.owns (base := base) (n := 64) (c := 64) (by have := HBr.out.size; omega) (by rw [List.length_map, FLEN]) (by omega) (by unfold maxLen; omega)
                  rwa [List.take_of_length_le (by rw [List.length_map, FLEN]; omega)] at hu5
                · rw [length_splice _ _ _ (by rw [FLEN, HH.out.len]; omega)]; exact HH.out.len
                · exact splice_byt hv64 FBYT.out _
                · intro v hv
                  rcases List.mem_or_eq_of_mem_set hv with h | rfl
                  · exact .inl h
                  · refine .inr (fun k hk => ?_)
                    simp [Value.ownBlock] at hk
                    omega
            · have hm1 : ((0 : Int) < (m : Int)) = True := by simp; omega
              go_wp2_with (at_builtin; refine wpList_app rfl _ _ 42 rfl wr.heap.size 22 (.slice none 0 0) 1 24 Try.underlying42 inf_bytes rfl (by decide) _ _ [] rfl (World.ownsRow_nil _ _ _ _) (some ⟨gx, 0, none⟩) n cv vs rfl (by omega) HRX.out H1C.out (by unfold maxLen; omega) (by omega) (Nat.le_refl _) ?_)
              intro y w5 own5 gr5
              obtain ⟨gy, cy, rfl, hgy, hgyl, hcy, _⟩ := owns_at own5 (by omega)
              have hf := own5.frozenAt i
              have hc := own5.cellAt i (by omega)
              rw [List.getElem?_eq_getElem (by omega)] at hc
              have HST := Lib.hid (own5.stored i (.slice (some ⟨u, 0, none⟩) 64 64))
              have HB5 := Lib.hid (HBr.out.grown gr5 HBr.out.size (by simp [Value.ownBlock]))
              have HBT := Lib.hid (show ∀ v, Below w.heap.size w (w5.setCell ⟨gy, i, none⟩ v) from fun v => HB5.out.trans (((Upd.refl [gy] w5).setCell (p := ⟨gy, i, none⟩) (by simp) v).below HB5.out.size (fun k hk => by simp at hk; subst hk; have := HBr.out.size; omega)))
              have hb5 : w5.cell? ⟨bx, 1, none⟩ = some (.int .i64 i) := (World.cell?_of_block (gr5.block bx hbxl (by simp [Value.ownBlock]))).trans hb1
              have HU5 := Lib.hid ((((Row.keep (l := []) HRow.out (Upd.grown (Upd.refl _ _) (World.ownsRow_nil wr wr.heap.size 22 1) (Nat.le_refl _) gr5) (by simp)).setOther (p := ⟨gy, i, none⟩) (show gy ≠ u by have := HRow.out.lt; omega) (.slice (some ⟨u, 0, none⟩) 64 64))))
              clear own5 gr5
              go_wp2
              go_ret3
              unfold RefStepPost
              rw [HS.out]
              refine ⟨_, vs.set i (.slice (some ⟨u, 0, none⟩) 64 64), _, rfl, ⟨owns_mono HST.out.1 (by have := HBr.out.size; omega), Sectors.set HH.out.secs (HBT.out _) HH.out.len hin FLEN ?_, ?_, ?_⟩, ?_, World.ownsRow_nil _ _ _ _, HBT.out _⟩
              · have hu5 := HU5.out.owns (base := base) (n := 64) (c := 64) (by have := HBr.out.size; omega) (by rw [List.length_map, FLEN]) (by omega) (by unfold maxLen; omega)
                rwa [List.take_of_length_le (by rw [List.length_map, FLEN]; omega)] at hu5
              · rw [length_splice _ _ _ (by rw [FLEN, HH.out.len]; omega)]; exact HH.out.len
              · exact splice_byt hv64 FBYT.out _
              · intro v hv
                rcases List.mem_or_eq_of_mem_set hv with h | rfl
                · exact .inl h
                · refine .inr (fun k hk => ?_)
                  simp [Value.ownBlock] at hk
                  omega

end Go.Proofs.Ytbmenldopeplcaa
