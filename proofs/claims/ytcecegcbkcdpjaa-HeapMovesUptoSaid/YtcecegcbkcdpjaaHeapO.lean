/-
  Contracts of package heap: Compact.
-/
import Derived.Test.YtcecegcbkcdpjaaHeapN
namespace Go.Proofs.Ytcecegcbkcdpjaa
open Go.RowKit
set_option linter.unusedVariables false
set_option maxHeartbeats 4000000

def setAt (S : HpS) (k p : Nat) : HpS := if hk : k < S.bl.length then { S with bl := S.bl.set k { S.bl[k] with at_ := p } } else S
/-- One block is moved: the heap, how many were moved, where it ends. -/
def compS (a : HpS × Nat × Nat) (k : Nat) : HpS × Nat × Nat :=
  if nOf a.1 k = 0 then a
  else if atOf a.1 k = a.2.2 then (a.1, a.2.1, a.2.2 + nOf a.1 k)
  else (setAt (wsS a.1 a.2.2 ((a.1.ws.drop (atOf a.1 k)).take (nOf a.1 k))) k a.2.2, a.2.1 + 1, a.2.2 + nOf a.1 k)
def compTo (S : HpS) (L : List Nat) : HpS × Nat × Nat := L.foldl compS (S, 0, 0)
theorem compTo_step (S : HpS) {l : List Nat} {j : Nat} (h : j < l.length) : compTo S (l.take (j + 1)) = compS (compTo S (l.take j)) l[j] := by
  unfold compTo
  rw [List.take_add_one, List.getElem?_eq_getElem h, Option.toList_some, List.foldl_append]
  rfl
theorem setAt_len (S : HpS) (k p : Nat) : (setAt S k p).bl.length = S.bl.length ∧ (setAt S k p).N = S.N := by
  unfold setAt; split <;> simp
theorem compS_len (a : HpS × Nat × Nat) (k : Nat) : (compS a k).1.bl.length = a.1.bl.length ∧ (compS a k).1.N = a.1.N ∧ (compS a k).2.1 ≤ a.2.1 + 1 := by
  unfold compS
  split
  · exact ⟨rfl, rfl, by omega⟩
  · split
    · exact ⟨rfl, rfl, by simp⟩
    · exact ⟨(setAt_len _ _ _).1, (setAt_len _ _ _).2, by simp⟩
theorem compTo_len (S : HpS) (l : List Nat) : ∀ j, j ≤ l.length → (compTo S (l.take j)).1.bl.length = S.bl.length ∧ (compTo S (l.take j)).1.N = S.N ∧ (compTo S (l.take j)).2.1 ≤ j
  | 0, _ => by simp [compTo]
  | j + 1, h => by
    rw [compTo_step S (by omega)]
    have h1 := compTo_len S l j (by omega)
    have h2 := compS_len (compTo S (l.take j)) (l[j]'(by omega))
    omega

/-- Each block, when its turn comes, may be moved. -/
def CompOk (S : HpS) (L : List Nat) : Prop := ∀ j (hj : j < L.length), L[j] < S.bl.length ∧ atOf (compTo S (L.take j)).1 L[j] + nOf (compTo S (L.take j)).1 L[j] ≤ S.N ∧
  (0 < nOf (compTo S (L.take j)).1 L[j] → (compTo S (L.take j)).2.2 ≤ atOf (compTo S (L.take j)).1 L[j]) ∧ (compTo S (L.take j)).2.2 ≤ S.N

theorem c_Compact {w : World} {B h g : Nat} {vb : Value} {S : HpS} (H : HpAt w B h g vb S) {Q : List Nat → Prop} (hQ : ∀ L, Q L → L.length ≤ 1000 ∧ CompOk S L) (hO : Ords Q w h) :
    Calls Try.prog 30 #[.pointer (some ⟨h, 0, none⟩)] w fun e w' => ∃ L, Q L ∧ e = .returned (.int .i64 ((compTo S L).2.1 : Nat)) ∧ HpAt w' B h g vb (compTo S L).1 ∧ HUpd B w w' := by
  have HO := Lib.hid hO
  have HH := Lib.hid H
  have HF := Lib.hid hQ
  have hsm := H.small
  clear H hO hQ
  go_enter Try.func30, Try.ntmps30
  go_wp2_with fail
  refine HO.out.mono ?_
  clear HO
  rintro e w1 ⟨v, L, hq, rfl, ho, hb⟩
  have HB1 := Lib.hid hb
  obtain ⟨hfw, hck⟩ := HF.out L hq
  have HCK := Lib.hid hck
  have HQL := Lib.hid hq
  obtain ⟨va, vc, rfl, -, -, -⟩ := owns_reads ho
  have HOL := Lib.hid ho
  have HH1 := Lib.hid (HH.out.below hb)
  clear ho hb hq HF hck HH
  go_wp2
  go_loopw [3, 4, 14] (fun x y i wr => ∃ j : Nat, j ≤ L.length ∧ i = .int .i64 j ∧ x = .int .i64 ((compTo S (L.take j)).2.1 : Nat) ∧ y = .int .i64 ((compTo S (L.take j)).2.2 : Nat) ∧ Hid (HpAt wr B h g vb (compTo S (L.take j)).1) ∧ Hid (HUpd B w1 wr)) (fun _ _ i _ => L.length - (intOf i).toNat)
  case atStart => exact ⟨0, Nat.zero_le _, rfl, rfl, rfl, HH1.out, HUpd.refl _ _⟩
  case round =>
    obtain ⟨j, hj, rfl, rfl, rfl, HA, HB⟩ := hrel
    obtain ⟨hl1, hl2, hl3⟩ := compTo_len S L j hj
    by_cases hlt : j < L.length
    · have HST := Lib.hid (compTo_step S hlt)
      obtain ⟨hk, hfit, hend, hen⟩ := HCK.out j hlt
      obtain ⟨la, lc, hv, hr, -, -⟩ := owns_reads (HB.out.owns HOL.out (by decide))
      cases hv
      obtain ⟨rb, ro, rfl, hrb, hc⟩ := hr.at (by simp; omega)
      have kc := hc j (.int .i64 (L[j] : Nat)) (by simp [hlt])
      have k0 := HA.out.head.cell (i := 0) rfl
      have k1 := HA.out.head.cell (i := 1) rfl
      rw [← hl1] at hk
      obtain ⟨b, cb, hv, c0, c1, c2⟩ := blk_cells HA.out.own hk
      rw [(blk_of hk).1] at c0
      rw [(blk_of hk).2] at c1
      rw [hv] at k1
      generalize hkk : L[j] = k at *
      clear hc hr hrb hkk
      generalize hA : compTo S (L.take j) = A at *
      obtain ⟨A, mv, en⟩ := A
      simp only at hfit hend hen hl1 hl2 hl3 hk k0 k1 HA c0 c1 c2 hv
      unfold compS at HST
      simp only at HST
      rw [hl2] at k0
      clear hA
      by_cases hn0 : nOf A k = 0
      · rw [if_pos hn0] at HST
        rw [hn0] at c1 hfit hend
        generalize atOf A k = p at *
        go_wp2
        exact ⟨⟨j + 1, by omega, by go_num, by rw [HST.out], by rw [HST.out], by rw [HST.out]; exact HA.out, HB.out⟩, by simp [intOf]; omega⟩
      · rw [if_neg hn0] at HST
        have hle := hend (by omega)
        clear hend
        have hd := HA.out.data
        have hln := HA.out.len
        have hwd := HA.out.word
        have HWP := Lib.hid (show Row wr g 56 (A.ws.map (Value.int .u16)) from hd)
        have HLN := Lib.hid (hln.trans hl2)
        obtain ⟨b', cb', cur, hv', hbB, hrow, htk, hnc, hcm, hcl⟩ := h_block HA.out.own (by omega)
        rw [hv] at hv'
        cases hv'
        have hblk := (blk_of hk).1
        have hatl := flatB_at hk en
        generalize hp : atOf A k = p at *
        generalize hq : nOf A k = q at *
        have hq0 : ¬ ((q : Int) = 0) := by omega
        clear hd hln
        by_cases hpe : p = en
        · subst hpe
          rw [if_pos rfl] at HST
          clear hwd hrow htk hcm hcl hatl hblk hp hq
          go_wp2
          exact ⟨⟨j + 1, by omega, by go_num, by rw [HST.out], by rw [HST.out]; exact congrArg (Value.int .i64) (show (p : Int) + (q : Int) = ((p + q : Nat) : Int) by omega), by rw [HST.out]; exact HA.out, HB.out⟩, by simp [intOf]; omega⟩
        · rw [if_neg hpe] at HST
          have hpe2 : ¬ ((p : Int) = (en : Int)) := by omega
          have hnb1 : ¬ b = g := typ_ne hrow HWP.out (by decide)
          have hnb2 : ¬ b = h := typ_ne hrow HA.out.head (by decide)
          have hnb3 : ¬ h = g := typ_ne HA.out.head HWP.out (by decide)
          have HRW := Lib.hid hrow
          have HTK := Lib.hid htk
          have HCL := Lib.hid hcl
          have HCM := Lib.hid hcm
          have HAT := Lib.hid hatl
          clear hrow htk hcm hcl hatl hblk hp hq hwd
          have hsl1 : ¬ S.N = en := by omega
          have hsl2 : ¬ S.N = p := by omega
          have HSS := Lib.hid (show ((A.ws.drop p).take q).length = q by rw [List.length_take, List.length_drop, HLN.out]; omega)
          go_wp2_with fail
          refine wp_region_planH (fun z => z.cell? ⟨h, 0, none⟩ = some (.slice (some ⟨g, 0, none⟩) S.N S.N) ∧ z.cell? ⟨b, k * 3, none⟩ = some (.int .i64 p) ∧ z.cell? ⟨b, k * 3 + 1, none⟩ = some (.int .i64 q)) [(0, true), (1, true), (2, true), (3, true), (4, true), (5, true), (6, true), (7, true), (8, true), (9, true), (10, true), (11, true), (12, true), (13, true), (14, true), (15, true), (16, true), (17, true), (18, true), (19, true), (20, true), (21, true), (22, true), (23, true), (24, false)] (by kernel_rfl) (by kernel_rfl) (fun _ _ _ _ _ h => h) ⟨k0, c0, c1⟩ ?_
          (repeat (refine wpPlanH_free rfl (fun K hK => ?_); go_simp; (try go_bits); refine hK _ ?_; clear hK K))
          refine wpPlanH_load (.slice (some ⟨g, 0, none⟩) S.N S.N) rfl rfl (fun x hS => by obtain ⟨s0, s1, s2⟩ := hS; go_simp) (fun K hK => ?_)
          refine hK _ ?_
          clear hK K
          (repeat (refine wpPlanH_free rfl (fun K hK => ?_); go_simp; (try go_bits); refine hK _ ?_; clear hK K))
          refine wpPlanH_load (.slice (some ⟨g, 0, none⟩) S.N S.N) rfl rfl (fun x hS => by obtain ⟨s0, s1, s2⟩ := hS; go_simp) (fun K hK => ?_)
          refine hK _ ?_
          clear hK K
          (repeat (refine wpPlanH_free rfl (fun K hK => ?_); go_simp; (try go_bits); refine hK _ ?_; clear hK K))
          refine wpPlanH_load (.int .i64 p) rfl rfl (fun x hS => by obtain ⟨s0, s1, s2⟩ := hS; go_simp) (fun K hK => ?_)
          refine hK _ ?_
          clear hK K
          (repeat (refine wpPlanH_free rfl (fun K hK => ?_); go_simp; (try go_bits); refine hK _ ?_; clear hK K))
          refine wpPlanH_load (.int .i64 p) rfl rfl (fun x hS => by obtain ⟨s0, s1, s2⟩ := hS; go_simp) (fun K hK => ?_)
          refine hK _ ?_
          clear hK K
          (repeat (refine wpPlanH_free rfl (fun K hK => ?_); go_simp; (try go_bits); refine hK _ ?_; clear hK K))
          refine wpPlanH_load (.int .i64 q) rfl rfl (fun x hS => by obtain ⟨s0, s1, s2⟩ := hS; go_simp) (fun K hK => ?_)
          refine hK _ ?_
          clear hK K
          (repeat (refine wpPlanH_free rfl (fun K hK => ?_); go_simp; (try go_bits); refine hK _ ?_; clear hK K))
          have hsl3 : (p : Int) + (q : Int) ≤ (S.N : Int) := by omega
          have hsl4 : ((p : Int) + (q : Int)).toNat = p + q := by omega
          have hsl5 : (0 : Int) ≤ (p : Int) + (q : Int) := by omega
          (repeat (refine wpPlanH_free rfl (fun K hK => ?_); go_simp; (try go_bits); refine hK _ ?_; clear hK K))
          refine wpPlanH_sole rfl ?_
          have HD2 := HWP.out.drew
          refine wpList_cpy rfl (.tmp 45) (.tmp 63) 55 55 rfl 56 Try.underlying55 (by kernel_rfl) _ _ _ _ _ _ rfl rfl g en _ 56 HD2 (((A.ws.drop p).take q).map (Value.int .u16)) ?hr ?hl (fun _ => rfl) ?hf (ints_one _ _) q ?hk ?_
          case hr =>
            refine HD2.reads (fun i u hu => ?_)
            rw [List.getElem?_map] at hu ⊢
            rw [List.getElem?_take] at hu
            split at hu
            · rw [List.getElem?_drop] at hu; exact hu
            · cases hu
          case hl => rw [List.length_map]; have := HSS.out; omega
          case hf => rw [List.length_map, HLN.out]; omega
          case hk => rw [List.length_take, List.length_map, HSS.out]; omega
          intro w2 hr2 hu2
          have hr3 : Row w2 g 56 ((splice A.ws en ((A.ws.drop p).take q)).map (Value.int .u16)) := by
            rw [← splice_map, ← List.take_of_length_le (l := ((A.ws.drop p).take q).map (Value.int .u16)) (i := S.N - en) (by rw [List.length_map, HSS.out]; omega)]
            exact hr2
          have HR3 := Lib.hid hr3
          have HU3 := Lib.hid ((Upd.refl [g] wr).drew.trans hu2)
          have d0 := HU3.out.cell k0 (by simp; exact hnb3)
          have d1 := HU3.out.cell c0 (by simp; exact hnb1)
          have d2 := HU3.out.cell c1 (by simp; exact hnb1)
          have HRW3 := Lib.hid (HRW.out.keep HU3.out (by simp; exact hnb1))
          have df := HRW3.out.free (k * 3)
          clear hr2 hu2 hr3 HD2 k0 k1 c0 c1 c2 kc
          go_wp2
          refine ⟨⟨d0, d1, d2⟩, ?_⟩
          refine wpPlanH_nil ?_
          go_wp2
          refine ⟨⟨j + 1, by omega, by go_num, by rw [HST.out]; exact congrArg (Value.int .i64) (show (mv : Int) + 1 = ((mv + 1 : Nat) : Int) by omega), by rw [HST.out]; exact congrArg (Value.int .i64) (show (en : Int) + (q : Int) = ((en + q : Nat) : Int) by omega), ?_, ?_⟩, by simp [intOf]; omega⟩
          · show HpAt _ _ _ _ _ _
            rw [HST.out]
            have hke : setAt (wsS A en ((A.ws.drop p).take q)) k en = { wsS A en ((A.ws.drop p).take q) with bl := A.bl.set k { A.bl[k] with at_ := en } } := by
              unfold setAt; rw [dif_pos (show k < (wsS A en ((A.ws.drop p).take q)).bl.length from hk)]; rfl
            show HpAt _ _ _ _ _ (setAt _ _ _)
            rw [hke]
            refine ⟨(HA.out.head.keep HU3.out (by simp; exact hnb3)).setOther hnb2 _, HR3.out.setOther hnb1 _, ?_, ?_, HA.out.small, by show (A.bl.set _ _).length ≤ _; rw [List.length_set]; exact HA.out.few, HA.out.lo, ?_⟩
            · show World.ownsRow _ _ _ _ _ (A.bl.set k { A.bl[k] with at_ := en }).length (flatB (A.bl.set k { A.bl[k] with at_ := en }))
              rw [HAT.out, List.length_set, hv]
              exact block_h hbB (HRW3.out.set _ _) (by rw [List.take_set, HTK.out]) hnc HCM.out (by rw [List.length_set]; exact HCL.out)
            · show (splice A.ws en _).length = A.N
              rw [splice_len _ _ _ (by rw [HSS.out, HLN.out]; omega), HLN.out, hl2]
            · exact splice_mem HA.out.word (fun x hx => HA.out.word x (List.mem_of_mem_drop (List.mem_of_mem_take hx)))
          · refine HB.out.trans (.of_upd (l := [g, b]) ((HU3.out.mono (by simp)).setCell (by simp) _) (fun m hm => ?_))
            simp at hm
            rcases hm with rfl | rfl
            · exact ⟨HA.out.lo.2, _, _, HWP.out, by decide⟩
            · exact ⟨hbB, _, _, HRW.out, by decide⟩
    · obtain rfl : j = L.length := by omega
      rw [List.take_length] at HA hl3 ⊢
      go_wp2
      go_ret
      exact ⟨L, HQL.out, rfl, HA.out, (HUpd.of_below HB1.out).trans HB.out⟩

end Go.Proofs.Ytcecegcbkcdpjaa
