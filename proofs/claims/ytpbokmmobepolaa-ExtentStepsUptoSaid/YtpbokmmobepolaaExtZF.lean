/-
  The reference: Set. (Written by rsetgen.py.)
-/
import Derived.Test.YtpbokmmobepolaaExtZE
namespace Go.Proofs.Ytpbokmmobepolaa
open Go.RowKit Go.Maps
set_option linter.unusedVariables false
set_option maxHeartbeats 8000000
set_option maxRecDepth 20000

theorem lof_erase : ∀ (rs : List RwB) (k : Nat), Lof (rs.eraseIdx k) = (Lof rs).eraseIdx k
  | [], k => by simp [Lof]
  | r :: rs, 0 => rfl
  | r :: rs, k + 1 => by
    have := lof_erase rs k
    unfold Lof at this ⊢
    simp [this]

/-- What the reference's Set hands back. -/
def RSet (w : World) (N : Nat) (a : Option Addr) (n c : Nat) (rs : List RwB) (x : Ext) (d : List Int) (e : Ending) (w' : World) : Prop :=
  Below w.heap.size w w' ∧
  ((findE (Lof rs) x = -1 ∧ e = .returned (.tuple #[.slice a n c, exA 0 0 0, .int .i64 4])) ∨
   ∃ (k : Nat) (y : RwB), rs[k]? = some y ∧ x = rE y.x ∧ findE (Lof rs) x = (k : Int) ∧
    ((secs d.length ≠ rN y.x ∧ FirstL ((Lof rs).eraseIdx k) N (secs d.length) none ∧ e = .returned (.tuple #[.slice a n c, exA 0 0 0, .int .i64 3])) ∨
     ∃ (F : Nat) (v : Value) (r : RwB), ((secs d.length = rN y.x ∧ F = y.x.1) ∨ (secs d.length ≠ rN y.x ∧ FirstL ((Lof rs).eraseIdx k) N (secs d.length) (some F))) ∧ r.x = (F, d) ∧ e = .returned (.tuple #[v, exA F (secs d.length) d.length, .int .i64 0]) ∧
       w'.ownsRow w.heap.size 54 4 v (rs.eraseIdx k ++ [r]).length (flatW (rs.eraseIdx k ++ [r])) ∧ r.ok w' w.heap.size))

theorem r_Set {w : World} {B : Nat} {a : Option Addr} {n c : Nat} {rs : List RwB} (h : RowsAt w B a n c rs) (hBw : B ≤ w.heap.size) (hm : n ≤ 300) (N : Nat) (hN : N ≤ 300) (hfit : ∀ x ∈ Lof rs, x.1 + rN x ≤ 300) (x : Ext)
    (d : List Int) (da : Option Addr) (dn dc : Nat) (e0 : dn = d.length) (hdn : dn ≤ 100000) (hb : Byt d) (hr : Reads w da dc (d.map (Value.int .u8))) (hcap : dn ≤ dc) :
    Calls Try.prog 21 #[.slice a n c, .int .i64 N, exV x, .slice da dn dc] w (RSet w N a n c rs x d) := by
  subst e0
  obtain ⟨p, q, s⟩ := x
  unfold exV
  have hsl := secs_le d.length
  have hsp := secs_pos d.length
  obtain ⟨Y, hY⟩ : ∃ Y, Y = w.heap.size := ⟨_, rfl⟩
  obtain ⟨X, hX⟩ : ∃ X, X = w.heap.size + 1 := ⟨_, rfl⟩
  obtain ⟨W, hW⟩ : ∃ W, W = (w.alloc (.cells #[.int .i64 p, .int .i64 q, .int .i64 s] 34)).alloc (.cells #[.int .i64 0, .int .i64 0, .int .i64 0] 34) := ⟨_, rfl⟩
  have bW : Below w.heap.size w W := by rw [hW]; exact ((Below.refl _ _).alloc (Nat.le_refl _) _).alloc (by simp) _
  have rY : Row W Y 34 [.int .i64 p, .int .i64 q, .int .i64 s] := by rw [hW, hY]; exact (Row.made w _ _).alloc _
  have rX : Row W X 34 [.int .i64 0, .int .i64 0, .int .i64 0] := by
    rw [hW, hX]
    have := Row.made (w.alloc (.cells #[.int .i64 p, .int .i64 q, .int .i64 s] 34)) [.int .i64 0, .int .i64 0, .int .i64 0] 34
    simpa using this
  have HFI := Lib.hid (r_Find (h.below bW) (by omega) (p, q, s))
  unfold exV at HFI
  have HFIT := Lib.hid hfit
  have HR := Lib.hid h
  have HN := Lib.hid h.len
  have HRD := Lib.hid hr
  have HBY := Lib.hid hb
  have HBW := Lib.hid bW
  have HRY := Lib.hid rY
  have HRX := Lib.hid rX
  have HW := Lib.hid hW
  have HYY := Lib.hid hY
  have HXX := Lib.hid hX
  have y0 := rY.cell (i := 0) rfl
  have y1 := rY.cell (i := 1) rfl
  have y2 := rY.cell (i := 2) rfl
  rw [hW] at y0 y1 y2
  rw [hY] at y0 y1 y2
  clear h hr hb hX hY hW bW rX rY hfit
  go_enter Try.func21, Try.ntmps21
  go_wp2_with fail
  rw [← HW.out, ← HXX.out, ← HYY.out]
  refine HFI.out.mono ?_
  clear HFI HW y0 y1 y2
  rintro e w1 ⟨rfl, hb1⟩
  have HB1 := Lib.hid (bNext HBW.out hb1)
  have HRX := Lib.hid (HRX.out.keep (l := []) (.of_below hb1) (by simp))
  have HRY := Lib.hid (HRY.out.keep (l := []) (.of_below hb1) (by simp))
  clear hb1
  by_cases hf : findE (Lof rs) (p, q, s) = -1
  · have HF := Lib.hid hf
    rw [hf]
    clear hf
    have x0 := HRX.out.free 0
    have x1 := HRX.out.free 1
    have x2 := HRX.out.free 2
    have y0 := HRX.out.cell (i := 0) rfl
    have y1 := HRX.out.cell (i := 1) rfl
    have y2 := HRX.out.cell (i := 2) rfl
    go_wp2_with fail
    obtain ⟨v3, hv3⟩ : ∃ v3, v3 = ((w1.setCell ⟨X, 0, none⟩ (.int .i64 0)).setCell ⟨X, 1, none⟩ (.int .i64 0)).setCell ⟨X, 2, none⟩ (.int .i64 0) := ⟨_, rfl⟩
    have hR3 : Row v3 X 34 [.int .i64 0, .int .i64 0, .int .i64 0] := by rw [hv3]; exact ((HRX.out.set 0 _).set 1 _).set 2 _
    have u3 : Upd [X] w1 v3 := by rw [hv3]; exact (((Upd.refl [X] w1).setCell (by simp) _).setCell (by simp) _).setCell (by simp) _
    rw [← hv3]
    have HU3 := Lib.hid u3
    clear hv3 u3 y0 y1 y2 x0 x1 x2
    have z0 := hR3.cell (i := 0) rfl
    have z1 := hR3.cell (i := 1) rfl
    have z2 := hR3.cell (i := 2) rfl
    clear hR3
    (try simp only [Exit.inBlock, Exit.then])
    refine bodyPost_ret (by rw [results_tct rfl]; go_simp; rfl) rfl ?_
    refine ⟨HB1.out.trans (HU3.out.below HB1.out.size (fun k hk => by have := HXX.out; simp at hk; omega)), .inl ⟨HF.out, rfl⟩⟩
  · obtain ⟨k, hk, hf2, hxe⟩ := findE_some hf
    have hk2 : k < rs.length := by simpa [Lof] using hk
    have HF := Lib.hid hf2
    obtain ⟨y, hy⟩ : ∃ y, y = rs[k] := ⟨_, rfl⟩
    have hyk : rs[k]? = some y := by rw [hy]; exact List.getElem?_eq_getElem hk2
    have hxy : ((p, q, s) : Ext) = rE y.x := by rw [hxe, hy]; simp [Lof]
    have HYK := Lib.hid hyk
    have HXY := Lib.hid hxy
    have hxy2 := hxy
    simp only [rE, Prod.mk.injEq] at hxy2
    obtain ⟨rfl, rfl, rfl⟩ := hxy2
    have hyfit := HFIT.out y.x (by rw [hy]; exact List.mem_map.2 ⟨_, List.getElem_mem hk2, rfl⟩)
    rw [hf2]
    have hn := HN.out
    have hnr : rs.length ≤ 300 := by omega
    have HWO := Lib.hid (r_Without (HR.out.below HB1.out) (by omega) k (by omega))
    clear hf hf2 hxe hk hyk hxy hn hy
    go_wp2_with fail
    refine HWO.out.mono ?_
    clear HWO
    rintro e w2 ⟨vm, rfl, ho, hb2⟩
    obtain ⟨nm, hnm⟩ : ∃ z, z = (rs.eraseIdx k).length := ⟨_, rfl⟩
    have hnl : nm ≤ 300 := by rw [hnm]; exact Nat.le_trans (List.length_eraseIdx_le _ _) (by omega)
    rw [← hnm] at ho
    have HNM := Lib.hid hnm
    have HO1 := Lib.hid (own_base ho HB1.out.size)
    have HB2 := Lib.hid (bNext HB1.out hb2)
    have HRX := Lib.hid (HRX.out.keep (l := []) (.of_below hb2) (by simp))
    have HRY := Lib.hid (HRY.out.keep (l := []) (.of_below hb2) (by simp))
    obtain ⟨va, vc, rfl, hv1, hv2, hv3, -, hv4, hv5⟩ := owns_rows HO1.out
    have HV2 := Lib.hid hv2
    have HV3 := Lib.hid (And.intro hv3 (And.intro hv4 hv5))
    clear ho hb2 hnm hk2 hv1 hv2 hv3 hv4 hv5
    generalize hF : y.x.1 = F at *
    generalize hNN : rN y.x = nn at *
    generalize hSZ : y.x.2.length = sz at *
    have HFF := Lib.hid hF
    have HNY := Lib.hid hNN
    clear hF hNN hSZ
    have x0 := HRY.out.cell (i := 0) rfl
    have x1 := HRY.out.cell (i := 1) rfl
    have x2 := HRY.out.cell (i := 2) rfl
    go_wp2_with fail
    refine wp_region_planH (fun z : World => z.cell? ⟨Y, 0, none⟩ = some (.int .i64 F) ∧ z.cell? ⟨Y, 1, none⟩ = some (.int .i64 nn) ∧ z.cell? ⟨Y, 2, none⟩ = some (.int .i64 sz)) [(0, true), (1, true), (3, true), (4, true), (2, false), (5, true)] (by kernel_rfl) (by kernel_rfl) (fun _ _ _ _ _ h => h) ⟨x0, x1, x2⟩ ?_
    clear x0 x1 x2
    have HBD := Lib.hid (bDrew (Below.refl _ w2))
    have HO1 := Lib.hid ((Upd.of_below (l := []) HBD.out).ownsAbove HO1.out (by simp))
    have HV2 := Lib.hid (HV2.out.below HBD.out)
    have HB3 := Lib.hid (HB2.out.trans (HBD.out.mono HB2.out.size))
    have HRX := Lib.hid (HRX.out.keep (l := []) (.of_below HBD.out) (by simp))
    have HRY := Lib.hid (HRY.out.keep (l := []) (.of_below HBD.out) (by simp))
    generalize w2.drew = w3 at *
    clear HBD HB2
    (repeat (refine wpPlanH_free rfl (fun K hK => ?_); go_simp; (try go_bits); refine hK _ ?_; clear hK K))
    refine wpPlanH_load (.int .i64 nn) rfl rfl (fun x hS => by obtain ⟨s0, s1, s2⟩ := hS; go_simp) (fun K hK => ?_)
    refine hK _ ?_
    clear hK K
    refine wpPlanH_sole rfl ?_
    go_wp2_with fail
    refine (c_RSectors d.length _ (by omega)).mono ?_
    rintro e w' ⟨rfl, rfl⟩
    go_wp2
    refine ⟨⟨HRY.out.cell (i := 0) rfl, HRY.out.cell (i := 1) rfl, HRY.out.cell (i := 2) rfl⟩, ?_⟩
    by_cases hs : secs d.length = nn
    · subst hs
      (repeat (refine wpPlanH_free rfl (fun K hK => ?_); go_simp; (try go_bits); refine hK _ ?_; clear hK K))
      refine wpPlanH_nil ?_
      have x0 := HRY.out.cell (i := 0) rfl
      have x1 := HRY.out.cell (i := 1) rfl
      have x2 := HRY.out.cell (i := 2) rfl
      obtain ⟨X2, hX2⟩ : ∃ z, z = w3.heap.size := ⟨_, rfl⟩
      obtain ⟨W2, hW2⟩ : ∃ z, z = w3.alloc (.cells #[.int .i64 F, .int .i64 (secs d.length : Nat), .int .i64 (d.length : Nat)] 34) := ⟨_, rfl⟩
      have bW2 : Below w3.heap.size w3 W2 := by rw [hW2]; exact (Below.refl _ _).alloc (Nat.le_refl _) _
      have HNE : Hid (X2 ∉ [X]) := fun hm => by have := HRX.out.lt; simp at hm; omega
      have HRX2 : Hid (Row W2 X2 34 [.int .i64 F, .int .i64 (secs d.length : Nat), .int .i64 (d.length : Nat)]) := by unfold Hid; rw [hW2, hX2]; exact Row.made w3 _ _
      have HO1 := Lib.hid ((Upd.of_below (l := []) bW2).ownsAbove HO1.out (by simp))
      have HRX := Lib.hid (HRX.out.keep (l := []) (.of_below bW2) (by simp))
      have HB4 := Lib.hid (HB3.out.trans (bW2.mono HB3.out.size))
      have HW2 := Lib.hid hW2
      have HXX2 := Lib.hid hX2
      clear hW2 hX2 bW2 HB3 HV2 HRY
      go_wp2_with fail
      rw [← HW2.out, ← HXX2.out]
      clear HW2 HXX2 x0 x1 x2
      have x0 := HRX2.out.cell (i := 0) rfl
      have x1 := HRX2.out.cell (i := 1) rfl
      have x2 := HRX2.out.cell (i := 2) rfl
      refine wp_region_planH (fun z : World => z.cell? ⟨X2, 0, none⟩ = some (.int .i64 F) ∧ z.cell? ⟨X2, 1, none⟩ = some (.int .i64 (secs d.length : Nat)) ∧ z.cell? ⟨X2, 2, none⟩ = some (.int .i64 (d.length : Nat))) [(0, true), (1, true), (2, true), (3, false), (4, true), (5, false), (6, false), (7, true)] (by kernel_rfl) (by kernel_rfl) (fun _ _ _ _ _ h => h) ⟨x0, x1, x2⟩ ?_
      clear x0 x1 x2
      have HBD := Lib.hid (bDrew (Below.refl _ W2))
      have HO1 := Lib.hid ((Upd.of_below (l := []) HBD.out).ownsAbove HO1.out (by simp))
      have HB5 := Lib.hid (HB4.out.trans (HBD.out.mono HB4.out.size))
      have HRX := Lib.hid (HRX.out.keep (l := []) (.of_below HBD.out) (by simp))
      have HRX2 := Lib.hid (HRX2.out.keep (l := []) (.of_below HBD.out) (by simp))
      generalize W2.drew = w4 at *
      (repeat (refine wpPlanH_free rfl (fun K hK => ?_); go_simp; (try go_bits); refine hK _ ?_; clear hK K))
      refine wpPlanH_load (.agg #[.int .i64 F, .int .i64 (secs d.length : Nat), .int .i64 (d.length : Nat)]) rfl rfl (fun x hS => by obtain ⟨s0, s1, s2⟩ := hS; go_simp) (fun K hK => ?_)
      refine hK _ ?_
      clear hK K
      (repeat (refine wpPlanH_free rfl (fun K hK => ?_); go_simp; (try go_bits); refine hK _ ?_; clear hK K))
      refine wpPlanH_sole rfl ?_
      have HC := Lib.hid (c_Copy da d.length dc d w4 rfl (HRD.out.below HB5.out) (by omega))
      go_wp2_with fail
      refine HC.out.mono ?_
      rintro e w5 ⟨vb, rfl, ownb, hb5⟩
      have HOB := Lib.hid ownb
      have HO1 := Lib.hid ((Upd.of_below (l := []) hb5).ownsAbove HO1.out (by simp))
      have HB6 := Lib.hid (HB5.out.trans (hb5.mono HB5.out.size))
      have HRX := Lib.hid (HRX.out.keep (l := []) (.of_below hb5) (by simp))
      have HRX2 := Lib.hid (HRX2.out.keep (l := []) (.of_below hb5) (by simp))
      have HSZ : Hid (w.heap.size ≤ w4.heap.size) := HB5.out.size
      obtain ⟨ba, bc, rfl, hrb, hbc, hbb⟩ := owns_reads HOB.out
      have HRB := Lib.hid hrb
      have HBC := Lib.hid hbc
      have HBB := Lib.hid hbb
      clear ownb hb5 HC HBD hrb hbb hbc HB4
      go_wp2
      refine ⟨⟨HRX2.out.cell (i := 0) rfl, HRX2.out.cell (i := 1) rfl, HRX2.out.cell (i := 2) rfl⟩, ?_⟩
      (repeat (refine wpPlanH_free rfl (fun K hK => ?_); go_simp; (try go_bits); refine hK _ ?_; clear hK K))
      refine wpPlanH_sole rfl ?_
      go_wp2
      obtain ⟨W6, hW6⟩ : ∃ z, z = w5.alloc (.cells #[.int .i64 F, .int .i64 (secs d.length : Nat), .int .i64 (d.length : Nat), .slice ba d.length bc] 54) := ⟨_, rfl⟩
      have bW6 : Below w5.heap.size w5 W6 := by rw [hW6]; exact (Below.refl _ _).alloc (Nat.le_refl _) _
      have HRD6 : Hid (Reads W6 (some ⟨w5.heap.size, 0, none⟩) 1 [.int .i64 F, .int .i64 (secs d.length : Nat), .int .i64 (d.length : Nat), .slice ba d.length bc]) := by unfold Hid; rw [hW6]; exact Reads.madeAt rfl
      have HO1 := Lib.hid ((Upd.of_below (l := []) bW6).ownsAbove HO1.out (by simp))
      have HOB := Lib.hid ((Upd.of_below (l := []) bW6).ownsAbove HOB.out (by simp))
      have HB7 := Lib.hid (HB6.out.trans (bW6.mono HB6.out.size))
      have HRX := Lib.hid (HRX.out.keep (l := []) (.of_below bW6) (by simp))
      have HRX2 := Lib.hid (HRX2.out.keep (l := []) (.of_below bW6) (by simp))
      rw [← hW6]
      clear hW6 bW6 HB6
      refine ⟨⟨HRX2.out.cell (i := 0) rfl, HRX2.out.cell (i := 1) rfl, HRX2.out.cell (i := 2) rfl⟩, ?_⟩
      refine wpPlanH_sole rfl ?_
      have hmx : nm + 1 ≤ maxLen := by unfold maxLen; omega
      have hby : (nm + 1) * 48 ≤ 140737488355328 := by omega
      have hone : ∀ u ∈ [(.int .i64 (F : Int) : Value), .int .i64 (secs d.length : Nat), .int .i64 (d.length : Nat), .slice ba d.length bc], u.oneCell' = true := by intro u hu; simp at hu; rcases hu with rfl | rfl | rfl | rfl <;> rfl
      refine wpList_app rfl _ _ 47 rfl w.heap.size 54 zRow 4 48 Try.underlying47 inf_row rfl (by decide) (.slice va nm vc) nm _ rfl HO1.out _ 1 1 [.int .i64 F, .int .i64 (secs d.length : Nat), .int .i64 (d.length : Nat), .slice ba d.length bc] rfl rfl HRD6.out hone hmx hby HB7.out.size ?_
      intro v2 w7 own2 gr2
      have u2 := upd_own gr2
      have n1 : X ∉ (Value.slice va nm vc).ownBlock.toList := fun hm => own_ne_row HO1.out HRX.out (by decide) (by simpa using hm)
      have n2 : X2 ∉ (Value.slice va nm vc).ownBlock.toList := fun hm => own_ne_row HO1.out HRX2.out (by decide) (by simpa using hm)
      have n3 : ∀ k, (Value.slice ba d.length bc).ownBlock = some k → k ∉ (Value.slice va nm vc).ownBlock.toList := fun k hk hm => owns_ne' HOB.out HO1.out (by decide) hk (by simpa using hm)
      have HOB := Lib.hid (u2.owns HOB.out n3)
      have HB8 := Lib.hid (HB7.out.trans (u2.below HB7.out.size (fun k hk => (HO1.out.lt k (by simpa using hk)).1)))
      have HRX := Lib.hid (HRX.out.keep u2 n1)
      have HRX2 := Lib.hid (HRX2.out.keep u2 n2)
      have HO2 := Lib.hid own2
      clear own2 gr2 u2 n1 n2 n3 HO1 hone hmx hby HRD6 HRB HB7
      obtain ⟨v2a, v2c, hv2, -⟩ := owns_reads HO2.out
      subst hv2
      go_wp2
      refine ⟨⟨HRX2.out.cell (i := 0) rfl, HRX2.out.cell (i := 1) rfl, HRX2.out.cell (i := 2) rfl⟩, ?_⟩
      (repeat (refine wpPlanH_free rfl (fun K hK => ?_); go_simp; (try go_bits); refine hK _ ?_; clear hK K))
      refine wpPlanH_nil ?_
      have x0 := HRX2.out.cell (i := 0) rfl
      have x1 := HRX2.out.cell (i := 1) rfl
      have x2 := HRX2.out.cell (i := 2) rfl
      have f0 := HRX.out.free 0
      have f1 := HRX.out.free 1
      have f2 := HRX.out.free 2
      go_wp2_with fail
      refine wp_region_planH (fun z : World => z.cell? ⟨X2, 0, none⟩ = some (.int .i64 F) ∧ z.cell? ⟨X2, 1, none⟩ = some (.int .i64 (secs d.length : Nat)) ∧ z.cell? ⟨X2, 2, none⟩ = some (.int .i64 (d.length : Nat))) [(0, true), (1, true), (2, true), (3, false), (4, true)] (by kernel_rfl) (by kernel_rfl) (fun _ _ _ _ _ h => h) ⟨x0, x1, x2⟩ ?_
      clear x0 x1 x2 f0 f1 f2
      have HBD := Lib.hid (bDrew (Below.refl _ w7))
      have HO2 := Lib.hid ((Upd.of_below (l := []) HBD.out).ownsAbove HO2.out (by simp))
      have HOB := Lib.hid ((Upd.of_below (l := []) HBD.out).ownsAbove HOB.out (by simp))
      have HB9 := Lib.hid (HB8.out.trans (HBD.out.mono HB8.out.size))
      have HRX := Lib.hid (HRX.out.keep (l := []) (.of_below HBD.out) (by simp))
      have HRX2 := Lib.hid (HRX2.out.keep (l := []) (.of_below HBD.out) (by simp))
      generalize w7.drew = w8 at *
      (repeat (refine wpPlanH_free rfl (fun K hK => ?_); go_simp; (try go_bits); refine hK _ ?_; clear hK K))
      refine wpPlanH_load (.agg #[.int .i64 F, .int .i64 (secs d.length : Nat), .int .i64 (d.length : Nat)]) rfl rfl (fun x hS => by obtain ⟨s0, s1, s2⟩ := hS; go_simp) (fun K hK => ?_)
      refine hK _ ?_
      clear hK K
      (repeat (refine wpPlanH_free rfl (fun K hK => ?_); go_simp; (try go_bits); refine hK _ ?_; clear hK K))
      refine wpPlanH_sole rfl ?_
      have f0 := HRX.out.free 0
      have f1 := HRX.out.free 1
      have f2 := HRX.out.free 2
      have y0 := HRX.out.cell (i := 0) rfl
      have y1 := HRX.out.cell (i := 1) rfl
      have y2 := HRX.out.cell (i := 2) rfl
      go_wp2
      obtain ⟨v9, hv9⟩ : ∃ z, z = ((w8.setCell ⟨X, 0, none⟩ (.int .i64 F)).setCell ⟨X, 1, none⟩ (.int .i64 (secs d.length : Nat))).setCell ⟨X, 2, none⟩ (.int .i64 (d.length : Nat)) := ⟨_, rfl⟩
      have hR9 : Row v9 X 34 [.int .i64 F, .int .i64 (secs d.length : Nat), .int .i64 (d.length : Nat)] := by rw [hv9]; exact ((HRX.out.set 0 _).set 1 _).set 2 _
      have u9 : Upd [X] w8 v9 := by rw [hv9]; exact (((Upd.refl [X] w8).setCell (by simp) _).setCell (by simp) _).setCell (by simp) _
      rw [← hv9]
      clear hv9 f0 f1 f2 y0 y1 y2 HBD
      have HRX2 := Lib.hid (HRX2.out.keep u9 HNE.out)
      have HO3 := Lib.hid (u9.owns HO2.out (fun k hk hm => own_ne_row HO2.out HRX.out (by decide) (by simp at hm; rw [← hm]; exact hk)))
      have HOB := Lib.hid (u9.owns HOB.out (fun k hk hm => own_ne_row HOB.out HRX.out (by decide) (by simp at hm; rw [← hm]; exact hk)))
      have HB10 := Lib.hid (HB9.out.trans (u9.below HB9.out.size (fun k hk => by have := HXX.out; simp at hk; omega)))
      clear u9 HO2 HRX
      refine ⟨⟨HRX2.out.cell (i := 0) rfl, HRX2.out.cell (i := 1) rfl, HRX2.out.cell (i := 2) rfl⟩, ?_⟩
      (repeat (refine wpPlanH_free rfl (fun K hK => ?_); go_simp; (try go_bits); refine hK _ ?_; clear hK K))
      refine wpPlanH_nil ?_
      have z0 := hR9.cell (i := 0) rfl
      have z1 := hR9.cell (i := 1) rfl
      have z2 := hR9.cell (i := 2) rfl
      clear hR9 HRX2
      go_wp2_with fail
      (try simp only [Exit.inBlock, Exit.then])
      refine bodyPost_ret (by rw [results_tct rfl]; go_simp; rfl) rfl ?_
      obtain ⟨ba', bc', e1, hrb, -, -⟩ := owns_reads HOB.out
      cases e1
      refine ⟨HB10.out, .inr ⟨k, y, HYK.out, HXY.out, HF.out, .inr ⟨F, _, ⟨(F, d), ba, d.length, bc⟩, .inl ⟨HNY.out.symm, HFF.out.symm⟩, rfl, rfl, ?_, rfl, HBC.out, hrb, HBY.out, fun y hy => Nat.le_trans HSZ.out (HBB.out y hy).1⟩⟩⟩
      rw [flatW_app, List.length_append, ← HNM.out]
      exact HO3.out
    · have HXLT0 := Lib.hid HRX.out.lt
      have hs' : ¬ ((secs d.length : Nat) : Int) = (nn : Int) := by omega
      have hs2 : (((secs d.length : Nat) : Int) == (nn : Int)) = false := by simpa using hs'
      (repeat (refine wpPlanH_free rfl (fun K hK => ?_); go_simp; (try go_bits); refine hK _ ?_; clear hK K))
      refine wpPlanH_nil ?_
      have hrw : RowsAt w3 B va nm vc (rs.eraseIdx k) := ⟨HNM.out, HV3.out.1, HV2.out, fun y hy => Nat.le_trans hBw (HV3.out.2.1 y hy), fun r hr => ((HR.out.oks r (List.mem_of_mem_eraseIdx hr)).keep (l := []) (.of_below HB3.out) (by simp)), HV3.out.2.2⟩
      have HP := Lib.hid (r_Put hrw hnl N hN (fun x hx => HFIT.out x (by rw [lof_erase] at hx; exact List.mem_of_mem_eraseIdx hx)) d da d.length dc rfl hdn HBY.out (HRD.out.below HB3.out) hcap)
      have HS := Lib.hid hs
      clear hrw hs hs'
      go_wp2_with fail
      refine HP.out.mono ?_
      clear HP
      rintro e w4 ⟨hb4, ⟨ho, rfl⟩ | ⟨G, v, r, ho, hrx, rfl, hov, hok⟩⟩
      · have HO := Lib.hid ho
        have HB4 := Lib.hid (HB3.out.trans (hb4.mono HB3.out.size))
        have HRX := Lib.hid (HRX.out.keep (l := []) (.of_below hb4) (by simp))
        clear ho hb4
        unfold exA
        obtain ⟨W5, hW5⟩ : ∃ z, z = w4.alloc (.cells #[.int .i64 0, .int .i64 0, .int .i64 0] 34) := ⟨_, rfl⟩
        have bW5 : Below w4.heap.size w4 W5 := by rw [hW5]; exact (Below.refl _ _).alloc (Nat.le_refl _) _
        have HB5 := Lib.hid (HB4.out.trans (bW5.mono HB4.out.size))
        have HRX := Lib.hid (HRX.out.keep (l := []) (.of_below bW5) (by simp))
        have HW5 := Lib.hid hW5
        clear hW5 bW5
        rw [HW5.out] at HRX HB5
        have x0 := HRX.out.free 0
        have x1 := HRX.out.free 1
        have x2 := HRX.out.free 2
        have y0 := HRX.out.cell (i := 0) rfl
        have y1 := HRX.out.cell (i := 1) rfl
        have y2 := HRX.out.cell (i := 2) rfl
        go_wp2_with fail
        obtain ⟨v3, hv3⟩ : ∃ v3, v3 = (((w4.alloc (.cells #[.int .i64 0, .int .i64 0, .int .i64 0] 34)).setCell ⟨X, 0, none⟩ (.int .i64 0)).setCell ⟨X, 1, none⟩ (.int .i64 0)).setCell ⟨X, 2, none⟩ (.int .i64 0) := ⟨_, rfl⟩
        have hR3 : Row v3 X 34 [.int .i64 0, .int .i64 0, .int .i64 0] := by rw [hv3]; exact ((HRX.out.set 0 _).set 1 _).set 2 _
        have u3 : Upd [X] (w4.alloc (.cells #[.int .i64 0, .int .i64 0, .int .i64 0] 34)) v3 := by rw [hv3]; exact (((Upd.refl [X] (w4.alloc (.cells #[.int .i64 0, .int .i64 0, .int .i64 0] 34))).setCell (by simp) _).setCell (by simp) _).setCell (by simp) _
        rw [← hv3]
        have HU3 := Lib.hid u3
        clear hv3 u3 y0 y1 y2 x0 x1 x2
        have z0 := hR3.cell (i := 0) rfl
        have z1 := hR3.cell (i := 1) rfl
        have z2 := hR3.cell (i := 2) rfl
        clear hR3
        (try simp only [Exit.inBlock, Exit.then])
        refine bodyPost_ret (by rw [results_tct rfl]; go_simp; rfl) rfl ?_
        refine ⟨HB5.out.trans (HU3.out.below HB5.out.size (fun k hk => by have := HXX.out; simp at hk; omega)), .inr ⟨k, y, HYK.out, HXY.out, HF.out, .inl ⟨fun e => HS.out (e.trans HNY.out), by have := HO.out; rw [lof_erase] at this; exact this, rfl⟩⟩⟩
      · have HO := Lib.hid ho
        have HB4 := Lib.hid (HB3.out.trans (hb4.mono HB3.out.size))
        have HRX := Lib.hid (HRX.out.keep (l := []) (.of_below hb4) (by simp))
        have HOV := Lib.hid (own_base hov HB3.out.size)
        have HOK := Lib.hid hok
        have HRX0 := Lib.hid hrx
        have HB3S := Lib.hid HB3.out.size
        have HXLT : Hid (X < w3.heap.size) := HXLT0.out
        clear ho hb4 hov hok hrx HO1 HV2 HB3 HRY
        unfold exA
        obtain ⟨X2, hX2⟩ : ∃ z, z = w4.heap.size := ⟨_, rfl⟩
        obtain ⟨W5, hW5⟩ : ∃ z, z = w4.alloc (.cells #[.int .i64 G, .int .i64 (secs d.length : Nat), .int .i64 (d.length : Nat)] 34) := ⟨_, rfl⟩
        have bW5 : Below w4.heap.size w4 W5 := by rw [hW5]; exact (Below.refl _ _).alloc (Nat.le_refl _) _
        have HNE : Hid (X2 ∉ [X]) := fun hm => by have := HRX.out.lt; simp at hm; omega
        have HRX2 : Hid (Row W5 X2 34 [.int .i64 G, .int .i64 (secs d.length : Nat), .int .i64 (d.length : Nat)]) := by unfold Hid; rw [hW5, hX2]; exact Row.made w4 _ _
        have HB5 := Lib.hid (HB4.out.trans (bW5.mono HB4.out.size))
        have HRX := Lib.hid (HRX.out.keep (l := []) (.of_below bW5) (by simp))
        have HO2 := Lib.hid ((Upd.of_below (l := []) bW5).ownsAbove HOV.out (by simp))
        have HOK := Lib.hid (HOK.out.keep (l := []) (.of_below bW5) (by simp))
        obtain ⟨v2a, v2c, hv2, -⟩ := owns_reads HO2.out
        subst hv2
        have x0 := HRX2.out.cell (i := 0) rfl
        have x1 := HRX2.out.cell (i := 1) rfl
        have x2 := HRX2.out.cell (i := 2) rfl
        have HW5 := Lib.hid hW5
        have HXX2 := Lib.hid hX2
        clear hW5 hX2 bW5 HOV HB4
        rw [HW5.out, HXX2.out] at x0 x1 x2
        go_wp2_with fail
        rw [← HW5.out, ← HXX2.out]
        rw [← HW5.out, ← HXX2.out] at x0 x1 x2
        clear HW5 HXX2
        refine wp_region_planH (fun z : World => z.cell? ⟨X2, 0, none⟩ = some (.int .i64 G) ∧ z.cell? ⟨X2, 1, none⟩ = some (.int .i64 (secs d.length : Nat)) ∧ z.cell? ⟨X2, 2, none⟩ = some (.int .i64 (d.length : Nat))) [(0, true), (1, true), (2, true), (3, false), (4, true)] (by kernel_rfl) (by kernel_rfl) (fun _ _ _ _ _ h => h) ⟨x0, x1, x2⟩ ?_
        clear x0 x1 x2
        have HBD := Lib.hid (bDrew (Below.refl _ W5))
        have HO2 := Lib.hid ((Upd.of_below (l := []) HBD.out).ownsAbove HO2.out (by simp))
        have HOK := Lib.hid (HOK.out.keep (l := []) (.of_below HBD.out) (by simp))
        have HB9 := Lib.hid (HB5.out.trans (HBD.out.mono HB5.out.size))
        have HRX := Lib.hid (HRX.out.keep (l := []) (.of_below HBD.out) (by simp))
        have HRX2 := Lib.hid (HRX2.out.keep (l := []) (.of_below HBD.out) (by simp))
        generalize W5.drew = w8 at *
        (repeat (refine wpPlanH_free rfl (fun K hK => ?_); go_simp; (try go_bits); refine hK _ ?_; clear hK K))
        refine wpPlanH_load (.agg #[.int .i64 G, .int .i64 (secs d.length : Nat), .int .i64 (d.length : Nat)]) rfl rfl (fun x hS => by obtain ⟨s0, s1, s2⟩ := hS; go_simp) (fun K hK => ?_)
        refine hK _ ?_
        clear hK K
        (repeat (refine wpPlanH_free rfl (fun K hK => ?_); go_simp; (try go_bits); refine hK _ ?_; clear hK K))
        refine wpPlanH_sole rfl ?_
        have f0 := HRX.out.free 0
        have f1 := HRX.out.free 1
        have f2 := HRX.out.free 2
        have y0 := HRX.out.cell (i := 0) rfl
        have y1 := HRX.out.cell (i := 1) rfl
        have y2 := HRX.out.cell (i := 2) rfl
        go_wp2
        obtain ⟨v9, hv9⟩ : ∃ z, z = ((w8.setCell ⟨X, 0, none⟩ (.int .i64 G)).setCell ⟨X, 1, none⟩ (.int .i64 (secs d.length : Nat))).setCell ⟨X, 2, none⟩ (.int .i64 (d.length : Nat)) := ⟨_, rfl⟩
        have hR9 : Row v9 X 34 [.int .i64 G, .int .i64 (secs d.length : Nat), .int .i64 (d.length : Nat)] := by rw [hv9]; exact ((HRX.out.set 0 _).set 1 _).set 2 _
        have u9 : Upd [X] w8 v9 := by rw [hv9]; exact (((Upd.refl [X] w8).setCell (by simp) _).setCell (by simp) _).setCell (by simp) _
        rw [← hv9]
        clear hv9 f0 f1 f2 y0 y1 y2 HBD
        have HRX2 := Lib.hid (HRX2.out.keep u9 HNE.out)
        have HO3 := Lib.hid (u9.owns HO2.out (fun k hk hm => own_ne_row HO2.out HRX.out (by decide) (by simp at hm; rw [← hm]; exact hk)))
        have HOK := Lib.hid (HOK.out.keep u9 (fun k hk => by have h1 := HXX.out; have h2 := HB3S.out; have h3 := HXLT.out; simp at hk; omega))
        have HB10 := Lib.hid (HB9.out.trans (u9.below HB9.out.size (fun k hk => by have := HXX.out; simp at hk; omega)))
        clear u9 HO2 HRX
        refine ⟨⟨HRX2.out.cell (i := 0) rfl, HRX2.out.cell (i := 1) rfl, HRX2.out.cell (i := 2) rfl⟩, ?_⟩
        (repeat (refine wpPlanH_free rfl (fun K hK => ?_); go_simp; (try go_bits); refine hK _ ?_; clear hK K))
        refine wpPlanH_nil ?_
        have z0 := hR9.cell (i := 0) rfl
        have z1 := hR9.cell (i := 1) rfl
        have z2 := hR9.cell (i := 2) rfl
        clear hR9 HRX2
        go_wp2_with fail
        (try simp only [Exit.inBlock, Exit.then])
        refine bodyPost_ret (by rw [results_tct rfl]; go_simp; rfl) rfl ?_
        refine ⟨HB10.out, .inr ⟨k, y, HYK.out, HXY.out, HF.out, .inr ⟨G, _, r, .inr ⟨fun e => HS.out (e.trans HNY.out), by have := HO.out; rw [lof_erase] at this; exact this⟩, HRX0.out, rfl, by have h := HO3.out; rw [show (rs.eraseIdx k ++ [r]).length = (rs.eraseIdx k).length + 1 by simp] at h ⊢; exact h, HOK.out.1, HOK.out.2.1, HOK.out.2.2.1, HOK.out.2.2.2.1, fun y hy => Nat.le_trans HB3S.out (HOK.out.2.2.2.2 y hy)⟩⟩⟩

end Go.Proofs.Ytpbokmmobepolaa
