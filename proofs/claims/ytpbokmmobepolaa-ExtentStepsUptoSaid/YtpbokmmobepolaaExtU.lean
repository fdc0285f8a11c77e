/-
  Contracts of package extent: Free.
-/
import Derived.Test.YtpbokmmobepolaaExtT
namespace Go.Proofs.Ytpbokmmobepolaa
open Go.RowKit Go.Maps
set_option linter.unusedVariables false
set_option maxHeartbeats 4000000

theorem ap_ne {x y : Rw4} (h : Ap x y) : rE x ≠ rE y := fun e => by
  have h1 := rE_inj e
  have h2 := rN_pos x
  have h3 := rN_pos y
  unfold Ap at h
  omega
theorem erase_filter : ∀ {M : List Rw4} {i : Nat} {y : Rw4}, M.Pairwise Ap → M[i]? = some y → M.eraseIdx i = M.filter (fun z => !decide (rE z = rE y))
  | [], i, y, _, h => by simp at h
  | z :: M, 0, y, hp, h => by
    simp at h
    subst h
    rw [List.pairwise_cons] at hp
    rw [List.eraseIdx_cons_zero, List.filter_cons_of_neg (by simp)]
    exact (List.filter_eq_self.2 (fun u hu => by have := ap_ne (hp.1 u hu); simp; exact fun e => this e.symm)).symm
  | z :: M, i + 1, y, hp, h => by
    rw [List.pairwise_cons] at hp
    have hy : M[i]? = some y := by simpa using h
    have := ap_ne (hp.1 y (List.mem_of_getElem? hy))
    rw [List.eraseIdx_cons_succ, List.filter_cons_of_pos (by simpa using this), erase_filter hp.2 hy]

/-- What is left of rows when those with these extents are taken away. -/
def rest (L : List Rw4) (xs : List Ext) : List Rw4 := L.filter (fun y => !decide (rE y ∈ xs))
theorem rest_nil (L : List Rw4) : rest L [] = L := by unfold rest; exact List.filter_eq_self.2 (fun u _ => by simp)
theorem rest_step {L : List Rw4} (hp : L.Pairwise Ap) {xs : List Ext} {j i : Nat} {y : Rw4} (hj : xs[j]? = some (rE y)) (hi : (rest L (xs.take j))[i]? = some y) : (rest L (xs.take j)).eraseIdx i = rest L (xs.take (j + 1)) := by
  have hp2 : (rest L (xs.take j)).Pairwise Ap := hp.filter _
  rw [erase_filter hp2 hi]
  unfold rest
  rw [List.filter_filter]
  congr 1
  funext z
  rw [List.take_add_one, hj]
  simp only [Option.toList_some, List.mem_append, List.mem_singleton]
  by_cases h1 : rE z = rE y <;> by_cases h2 : rE z ∈ xs.take j <;> simp [h1, h2]
theorem rest_all (L : List Rw4) : rest L (L.map rE) = [] := by
  unfold rest
  rw [List.filter_eq_nil_iff]
  intro y hy
  simp
  exact ⟨y.1, y.2, hy, rfl⟩
theorem rest_one {L : List Rw4} (hp : L.Pairwise Ap) {i : Nat} {y : Rw4} (hi : L[i]? = some y) : rest L [rE y] = L.eraseIdx i := by
  rw [erase_filter hp hi]
  unfold rest
  congr 1
  funext z
  simp

def Fine (L : List Rw4) (xs : List Ext) : Prop := (∀ x ∈ xs, ∃ y ∈ L, x = rE y) ∧ xs.Nodup
def FreeG (I : SpI) (L : List Rw4) (N k : Nat) (xs : List Ext) (w : World) (e : Ending) (w' : World) : Prop :=
  Upd I.all w w' ∧ ((¬ Fine L xs ∧ e = .returned (.int .i64 4) ∧ SG w' I L N k) ∨ (Fine L xs ∧ e = .returned (.int .i64 0) ∧ SG w' I (rest L xs) N k))

theorem gFree {w : World} {I : SpI} {L : List Rw4} {N k : Nat} (h : SG w I L N k) (a : Option Addr) (n c : Nat) (xs : List Ext) (e0 : n = xs.length) (hm : n ≤ 100000) (hc : n ≤ c) (hr : ReadsBy w a 3 exC xs) (hok : ∀ x ∈ xs, exOk x) (hd : ∀ y, a = some y → y.block ∉ I.all) :
    Calls Try.prog 16 #[.pointer (some ⟨I.m, 0, none⟩), .slice a n c] w (FreeG I L N k xs w) := by
  subst e0
  obtain ⟨S, h1, h2, h3, h4, h5, h6⟩ := h
  have HSP := Lib.hid h1
  have HGD := Lib.hid h2
  have HNN := Lib.hid (And.intro h3 (And.intro h4 (And.intro h5 h6)))
  have HR := Lib.hid hr
  have HOK := Lib.hid hok
  have HD := Lib.hid hd
  have HLT := Lib.hid h1.lt
  clear h1 h2 h3 h4 h5 h6 hr hok hd
  go_enter Try.func16, Try.ntmps16
  go_wp2
  go_loopw [13] (fun i wr => ∃ k : Nat, k ≤ xs.length ∧ i = .int .i64 k ∧ Hid (∀ x ∈ xs.take k, S.f x = true) ∧ Hid (xs.take k).Nodup ∧ Hid (Below w.heap.size w wr)) (fun i _ => xs.length - (intOf i).toNat)
  case atStart => exact ⟨0, Nat.zero_le _, rfl, fun x hx => by simp at hx, by simp [Hid], Below.refl _ _⟩
  case round =>
    obtain ⟨j, hj, rfl, HF, HND, HB⟩ := hrel
    by_cases hlt : j < xs.length
    · obtain ⟨b, off, rfl, hb, c0, c1, c2⟩ := ex_cells (HR.out.below HB.out) hlt
      have hxo := HOK.out _ (exAt_mem hlt)
      obtain ⟨p, q, r, hex⟩ : ∃ p q r, exAt xs j = (p, q, r) := ⟨_, _, _, rfl⟩
      rw [hex] at c0 c1 c2 hxo
      have HXO := Lib.hid hxo
      have HEX := Lib.hid hex
      clear hex hb hxo
      obtain ⟨X, hX⟩ : ∃ X, X = wr.heap.size := ⟨_, rfl⟩
      obtain ⟨W, hW⟩ : ∃ W, W = wr.alloc (.cells #[.int .i64 p, .int .i64 q, .int .i64 r] 34) := ⟨_, rfl⟩
      have bW : Below wr.heap.size wr W := by rw [hW]; exact (Below.refl _ _).alloc (Nat.le_refl _) _
      have rX : Row W X 34 [.int .i64 p, .int .i64 q, .int .i64 r] := by rw [hW, hX]; exact Row.made wr _ _
      have HW := Lib.hid hW
      have HXX := Lib.hid hX
      have HB2 := Lib.hid (bNext HB.out bW)
      have x0 := rX.cell (i := 0) rfl
      have x1 := rX.cell (i := 1) rfl
      have x2 := rX.cell (i := 2) rfl
      have HRX := Lib.hid rX
      clear hW hX bW rX
      go_wp2_with fail
      rw [← HW.out, ← HXX.out]
      clear c0 c1 c2 HW
      have HSQ : Hid (SpAt W I S) := HSP.out.below HB2.out
      have k2 := HSQ.out.row.cell (i := 2) rfl
      refine wp_region_planH (fun z => z.cell? ⟨I.m, 2, none⟩ = some (.map (some I.mp)) ∧ z.cell? ⟨X, 0, none⟩ = some (.int .i64 p) ∧ z.cell? ⟨X, 1, none⟩ = some (.int .i64 q) ∧ z.cell? ⟨X, 2, none⟩ = some (.int .i64 r) ∧ LiveAt z I.mp S.c S.f) [(0, true), (1, true), (2, true), (3, true), (4, true), (5, true), (6, true), (7, true), (8, true), (9, true), (10, true), (11, true), (12, false), (13, true)] (by kernel_rfl) (by kernel_rfl) (fun _ _ _ _ _ h => h) ⟨k2, x0, x1, x2, HSQ.out.lv.keep (l := []) (Upd.refl _ _).drew (by simp)⟩ ?_
      have HS : Hid (W.drew.cell? ⟨I.m, 2, none⟩ = some (.map (some I.mp)) ∧ W.drew.cell? ⟨X, 0, none⟩ = some (.int .i64 p) ∧ W.drew.cell? ⟨X, 1, none⟩ = some (.int .i64 q) ∧ W.drew.cell? ⟨X, 2, none⟩ = some (.int .i64 r) ∧ LiveAt W.drew I.mp S.c S.f) := ⟨k2, x0, x1, x2, HSQ.out.lv.keep (l := []) (Upd.refl _ _).drew (by simp)⟩
      clear k2 x0 x1 x2
      (repeat (refine wpPlanH_free rfl (fun K hK => ?_); go_simp; (try go_bits); refine hK _ ?_; clear hK K))
      refine wpPlanH_load (.map (some I.mp)) rfl rfl (fun x hS => by obtain ⟨s0, s1, s2, s3, s4⟩ := hS; go_simp) (fun K hK => ?_)
      refine hK _ ?_
      clear hK K
      refine wpPlanH_load (.agg #[.int .i64 p, .int .i64 q, .int .i64 r]) rfl rfl (fun x hS => by obtain ⟨s0, s1, s2, s3, s4⟩ := hS; go_simp) (fun K hK => ?_)
      refine hK _ ?_
      clear hK K
      refine wpPlanH_load (.bool (S.f (p, q, r))) rfl rfl (fun x hS => by
        obtain ⟨s0, s1, s2, s3, s4⟩ := hS
        have h5 := s4.look HXO.out
        unfold exV at h5
        go_simp) (fun K hK => ?_)
      refine hK _ ?_
      clear hK K
      obtain ⟨vf, hvf⟩ : ∃ v, v = S.f (p, q, r) := ⟨_, rfl⟩
      rw [← hvf]
      have HVF := Lib.hid hvf
      clear hvf
      have HB3 := Lib.hid HB2.out.drew
      have HSD := Lib.hid (HSQ.out.below (bDrew (Below.refl _ W)))
      have HRD : Hid (ReadsBy W.drew (some ⟨b, off, none⟩) 3 exC (xs.take j)) := exs_take (HR.out.below HB3.out) j
      generalize W.drew = wd at *
      cases vf
      · (repeat (refine wpPlanH_free rfl (fun K hK => ?_); go_simp; (try go_bits); refine hK _ ?_; clear hK K))
        refine wpPlanH_sole rfl ?_
        go_wp2
        refine ⟨HS.out, ?_⟩
        (repeat (refine wpPlanH_free rfl (fun K hK => ?_); go_simp; (try go_bits); refine hK _ ?_; clear hK K))
        refine wpPlanH_nil ?_
        have hbad : ¬ Fine L xs := fun hf => by
          obtain ⟨y, hy, e⟩ := hf.1 _ (exAt_mem hlt)
          rw [HEX.out] at e
          have := (HGD.out.live (p, q, r)).2 ⟨y, hy, e⟩
          rw [← HVF.out] at this
          cases this
        go_wp2
        go_ret
        exact ⟨.of_below HB3.out, .inl ⟨hbad, rfl, ⟨S, HSD.out, HGD.out, HNN.out⟩⟩⟩
      · have hjc : j ≤ c := by omega
        (repeat (refine wpPlanH_free rfl (fun K hK => ?_); go_simp; (try go_bits); refine hK _ ?_; clear hK K))
        refine wpPlanH_load (.agg #[.int .i64 p, .int .i64 q, .int .i64 r]) rfl rfl (fun x hS => by obtain ⟨s0, s1, s2, s3, s4⟩ := hS; go_simp) (fun K hK => ?_)
        refine hK _ ?_
        clear hK K
        refine wpPlanH_sole rfl ?_
        have HCE := Lib.hid (c_ContainsE (some ⟨b, off, none⟩) j c (xs.take j) (p, q, r) wd (by simp; omega) HRD.out (by omega))
        unfold exV at HCE
        go_wp2_with fail
        refine HCE.out.mono ?_
        rintro e w' ⟨rfl, hb4⟩
        have HB4 := Lib.hid (bNext HB3.out hb4)
        have HSD := Lib.hid (HSD.out.below hb4)
        have HS2 : Hid (w'.cell? ⟨I.m, 2, none⟩ = some (.map (some I.mp)) ∧ w'.cell? ⟨X, 0, none⟩ = some (.int .i64 p) ∧ w'.cell? ⟨X, 1, none⟩ = some (.int .i64 q) ∧ w'.cell? ⟨X, 2, none⟩ = some (.int .i64 r) ∧ LiveAt w' I.mp S.c S.f) := ⟨cellKeep hb4 HS.out.1, cellKeep hb4 HS.out.2.1, cellKeep hb4 HS.out.2.2.1, cellKeep hb4 HS.out.2.2.2.1, HS.out.2.2.2.2.keep (l := []) (.of_below hb4) (by simp)⟩
        clear hb4 HCE HS
        have htk : xs.take (j + 1) = xs.take j ++ [(p, q, r)] := by
          rw [List.take_add_one, exAt_get hlt, HEX.out]; rfl
        by_cases hin : (p, q, r) ∈ xs.take j
        · have hbad : ¬ Fine L xs := fun hf => by
            have h1 := (List.take_sublist (j + 1) xs).nodup hf.2
            rw [htk, List.nodup_append] at h1
            exact h1.2.2 _ hin _ (by simp) rfl
          have HBAD := Lib.hid hbad
          rw [show decide ((p, q, r) ∈ xs.take j) = true from decide_eq_true hin]
          clear hbad hin htk
          go_wp2
          refine ⟨HS2.out, ?_⟩
          (repeat (refine wpPlanH_free rfl (fun K hK => ?_); go_simp; (try go_bits); refine hK _ ?_; clear hK K))
          refine wpPlanH_nil ?_
          go_wp2
          go_ret
          exact ⟨.of_below HB4.out, .inl ⟨HBAD.out, rfl, ⟨S, HSD.out, HGD.out, HNN.out⟩⟩⟩
        · have HF2 : Hid (∀ x ∈ xs.take (j + 1), S.f x = true) := fun x hx => by
            rw [htk] at hx
            rcases List.mem_append.1 hx with h1 | h1
            · exact HF.out x h1
            · rw [List.mem_singleton] at h1; subst h1; exact HVF.out.symm
          have HND2 : Hid (xs.take (j + 1)).Nodup := by
            unfold Hid
            rw [htk, List.nodup_append]
            exact ⟨HND.out, by simp, fun x hx y hy => by simp at hy; subst hy; exact fun e => hin (e ▸ hx)⟩
          rw [show decide ((p, q, r) ∈ xs.take j) = false from decide_eq_false hin]
          clear hin htk
          go_wp2
          refine ⟨HS2.out, ?_⟩
          (repeat (refine wpPlanH_free rfl (fun K hK => ?_); go_simp; (try go_bits); refine hK _ ?_; clear hK K))
          refine wpPlanH_nil ?_
          go_wp2
          go_roundw
          case rel => exact ⟨j + 1, by omega, by go_num, HF2.out, HND2.out, HB4.out⟩
          case measure => simp [intOf]; omega
    · obtain rfl : j = xs.length := by omega
      have hfine : Fine L xs := ⟨fun x hx => (HGD.out.live x).1 (HF.out x (by rw [List.take_length]; exact hx)), by have := HND.out; rwa [List.take_length] at this⟩
      have HFINE := Lib.hid hfine
      have HG0 : Hid (SG wr I L N k) := ⟨S, HSP.out.below HB.out, HGD.out, HNN.out⟩
      have HRW := Lib.hid (HR.out.below HB.out)
      have HAP := Lib.hid HG0.out.apart
      have HIW : Hid (∀ k ∈ I.all, k < wr.heap.size) := HG0.out.lt
      have HU0 : Hid (Upd I.all w wr) := .of_below HB.out
      clear hfine HF HND HB HSP HGD HNN HR HLT hlt
      go_wp2
      obtain ⟨w1, hw1⟩ : ∃ z, z = wr := ⟨_, rfl⟩
      rw [← hw1] at HG0 HRW HIW HU0 ⊢
      clear hw1
      go_loopw [35] (fun i wr => ∃ j : Nat, j ≤ xs.length ∧ i = .int .i64 j ∧ Hid (SG wr I (rest L (xs.take j)) N k) ∧ Hid (Upd I.all w1 wr)) (fun i _ => xs.length - (intOf i).toNat)
      case atStart => exact ⟨0, Nat.zero_le _, rfl, by unfold Hid; rw [List.take_zero, rest_nil]; exact HG0.out, Upd.refl _ _⟩
      case round =>
        obtain ⟨j, hj, rfl, HG, HU⟩ := hrel
        by_cases hlt : j < xs.length
        · have hxo := HOK.out _ (exAt_mem hlt)
          obtain ⟨y, hyL, hey⟩ := HFINE.out.1 _ (exAt_mem hlt)
          have hyR : y ∈ rest L (xs.take j) := by
            unfold rest
            rw [List.mem_filter]
            refine ⟨hyL, ?_⟩
            have h1 := (List.take_sublist (j + 1) xs).nodup HFINE.out.2
            rw [List.take_add_one, exAt_get hlt, hey, List.nodup_append] at h1
            have h2 : rE y ∉ xs.take j := fun hm => h1.2.2 _ hm _ (by simp) rfl
            simpa using h2
          obtain ⟨i, hi⟩ := List.getElem?_of_mem hyR
          have hstep := rest_step HAP.out (j := j) (by rw [exAt_get hlt, hey]) hi
          obtain ⟨b, off, rfl, hb, c0, c1, c2⟩ := ex_cells (exs_keep HRW.out HU.out HD.out) hlt
          obtain ⟨S2, hsp, hgd, hN2⟩ := HG.out
          have hfit := hgd.fit y hyR
          have hrun := hgd.run hyR
          have hpos := rN_pos y
          have hwi := hgd.wipe hi
          rw [hstep] at hwi
          rw [hey] at c0 c1 c2 hxo
          simp only [rE] at c0 c1 c2 hxo
          have hIw := HG.out.lt
          clear hey hyL hyR hi hstep hgd hb HG
          generalize y.1 = F at *
          generalize rN y = nn at *
          generalize y.2.length = sz at *
          have hsm := hsp.dk.small
          obtain ⟨X, hX⟩ : ∃ X, X = wr.heap.size := ⟨_, rfl⟩
          obtain ⟨W, hW⟩ : ∃ W, W = wr.alloc (.cells #[.int .i64 F, .int .i64 nn, .int .i64 sz] 34) := ⟨_, rfl⟩
          have bW : Below wr.heap.size wr W := by rw [hW]; exact (Below.refl _ _).alloc (Nat.le_refl _) _
          have rX : Row W X 34 [.int .i64 F, .int .i64 nn, .int .i64 sz] := by rw [hW, hX]; exact Row.made wr _ _
          have hnX : X ∉ I.all := fun hm => by have := hIw _ hm; omega
          have HNX := Lib.hid hnX
          have HW := Lib.hid hW
          have HXX := Lib.hid hX
          have HU1 := Lib.hid (HU.out.trans (.of_below bW))
          have HSP := Lib.hid (hsp.below bW)
          have HRUN := Lib.hid hrun
          have HWI := Lib.hid hwi
          have HN2 := Lib.hid hN2
          have HXO := Lib.hid hxo
          have x0 := rX.cell (i := 0) rfl
          have x1 := rX.cell (i := 1) rfl
          have x2 := rX.cell (i := 2) rfl
          have k1 := HSP.out.row.cell (i := 1) rfl
          have HRX := Lib.hid rX
          clear hX hW bW rX hsp hrun hwi hN2 hxo hIw hnX HU
          go_wp2_with fail
          rw [← HW.out, ← HXX.out]
          clear c0 c1 c2 HW
          have hok : okRun S2.N (F : Int) (nn : Int) := ⟨by omega, by omega, by omega⟩
          have hrun' : runIs S2.b (F : Int).toNat (nn : Int).toNat true := by rw [Int.toNat_natCast, Int.toNat_natCast]; exact HRUN.out
          have hE : chgE S2.b S2.N (F : Int) (nn : Int) true 4 = 0 := by unfold chgE; rw [if_pos hok, if_pos hrun']
          have hB2 : chgB S2.b S2.N (F : Int) (nn : Int) true = fill S2.b F nn false := by unfold chgB; rw [if_pos ⟨hok, hrun'⟩, Int.toNat_natCast, Int.toNat_natCast]; rfl
          have HE1 := Lib.hid hE
          have HB2 := Lib.hid hB2
          clear hok hrun' hE hB2
          refine wp_region_planH (fun z => z.cell? ⟨I.m, 1, none⟩ = some (.pointer (some ⟨I.bm, 0, none⟩)) ∧ z.cell? ⟨X, 0, none⟩ = some (.int .i64 F) ∧ z.cell? ⟨X, 1, none⟩ = some (.int .i64 nn) ∧ z.cell? ⟨X, 2, none⟩ = some (.int .i64 sz)) [(0, true), (1, true), (2, true), (3, true), (4, true), (5, true), (6, true), (7, true), (8, false)] (by kernel_rfl) (by kernel_rfl) (fun _ _ _ _ _ h => h) ⟨k1, x0, x1, x2⟩ ?_
          clear k1 x0 x1 x2
          (repeat (refine wpPlanH_free rfl (fun K hK => ?_); go_simp; (try go_bits); refine hK _ ?_; clear hK K))
          refine wpPlanH_load (.pointer (some ⟨I.bm, 0, none⟩)) rfl rfl (fun x hS => by obtain ⟨s0, s1, s2, s3⟩ := hS; go_simp) (fun K hK => ?_)
          refine hK _ ?_
          clear hK K
          (repeat (refine wpPlanH_free rfl (fun K hK => ?_); go_simp; (try go_bits); refine hK _ ?_; clear hK K))
          refine wpPlanH_load (.int .i64 F) rfl rfl (fun x hS => by obtain ⟨s0, s1, s2, s3⟩ := hS; go_simp) (fun K hK => ?_)
          refine hK _ ?_
          clear hK K
          (repeat (refine wpPlanH_free rfl (fun K hK => ?_); go_simp; (try go_bits); refine hK _ ?_; clear hK K))
          refine wpPlanH_load (.int .i64 nn) rfl rfl (fun x hS => by obtain ⟨s0, s1, s2, s3⟩ := hS; go_simp) (fun K hK => ?_)
          refine hK _ ?_
          clear hK K
          refine wpPlanH_sole rfl ?_
          have hT := c_BFree _ _ _ _ W.drew (HSP.out.bt.keep (l := []) (Upd.refl _ _).drew (by simp) (by simp)) (F : Int) (nn : Int) (by omega) (by omega) (by omega)
          unfold ChgPost at hT
          rw [HE1.out, HB2.out] at hT
          have HT := Lib.hid hT
          clear hT
          go_wp2_with fail
          refine HT.out.mono ?_
          rintro e v2 ⟨rfl, hm, hu⟩
          have hu' : Upd [I.bg] W v2 := ((Upd.refl _ _).drew).trans hu
          have HSP : Hid (SpAt v2 I { S2 with b := fill S2.b F nn false }) := HSP.out.bits hm hu'
          have HRX := Lib.hid (HRX.out.keep hu' (fun hm => HNX.out (by simp at hm; simp [SpI.all, hm])))
          have HU1 := Lib.hid (HU1.out.trans (hu'.mono (m := I.all) (by simp [SpI.all])))
          clear hm hu hu' HT
          go_wp2
          refine ⟨⟨HSP.out.row.cell (i := 1) rfl, HRX.out.cell (i := 0) rfl, HRX.out.cell (i := 1) rfl, HRX.out.cell (i := 2) rfl⟩, ?_⟩
          refine wpPlanH_nil ?_
          have x0 := HRX.out.cell (i := 0) rfl
          have x1 := HRX.out.cell (i := 1) rfl
          have x2 := HRX.out.cell (i := 2) rfl
          have HWP := Lib.hid (c_wipe HSP.out F nn (sz : Int) hfit HXO.out)
          go_wp2_with fail
          refine HWP.out.mono ?_
          rintro e v4 ⟨rfl, hsp, hu⟩
          have HG : Hid (SG v4 I (rest L (xs.take (j + 1))) N k) := ⟨_, hsp, HWI.out, HN2.out⟩
          have HU1 := Lib.hid (HU1.out.trans (hu.mono (m := I.all) (by simp [SpI.all])))
          clear hsp hu x0 x1 x2 HWP
          go_wp2
          go_roundw
          case rel => exact ⟨j + 1, by omega, by go_num, HG.out, HU1.out⟩
          case measure => simp [intOf]; omega
        · obtain rfl : j = xs.length := by omega
          have HG2 := HG.out
          rw [List.take_length] at HG2
          have HG2 := Lib.hid HG2
          clear HG
          go_wp2
          go_ret
          exact ⟨HU0.out.trans HU.out, .inr ⟨HFINE.out, rfl, HG2.out⟩⟩

end Go.Proofs.Ytpbokmmobepolaa
