/-
  Rows of extents in memory; whether one stands among others.
-/
import Derived.Test.YtpbokmmobepolaaExtR
namespace Go.Proofs.Ytpbokmmobepolaa
open Go.RowKit Go.Maps
set_option linter.unusedVariables false
set_option maxHeartbeats 2000000

def exC (x : Ext) : List Value := [.int .i64 x.1, .int .i64 x.2.1, .int .i64 x.2.2]
def exAt (l : List Ext) (k : Nat) : Ext := l.getD k (0, 0, 0)
theorem exAt_get {l : List Ext} {k : Nat} (hk : k < l.length) : l[k]? = some (exAt l k) := by
  simp [exAt, hk]
theorem exAt_mem {l : List Ext} {k : Nat} (hk : k < l.length) : exAt l k ∈ l := List.mem_of_getElem? (exAt_get hk)

theorem ex_cells {w : World} {a0 : Option Addr} {l : List Ext} (h : ReadsBy w a0 3 exC l) {k : Nat} (hk : k < l.length) :
    ∃ b off, a0 = some ⟨b, off, none⟩ ∧ b < w.heap.size ∧ w.cell? ⟨b, off + k * 3, none⟩ = some (.int .i64 (exAt l k).1) ∧ w.cell? ⟨b, off + k * 3 + 1, none⟩ = some (.int .i64 (exAt l k).2.1) ∧ w.cell? ⟨b, off + k * 3 + 2, none⟩ = some (.int .i64 (exAt l k).2.2) := by
  obtain ⟨b, off, rfl, hb, hc⟩ := h k _ (exAt_get hk)
  exact ⟨b, off, rfl, hb, hc 0 _ rfl, hc 1 _ rfl, hc 2 _ rfl⟩
theorem exs_keep {w w' : World} {a : Option Addr} {xs : List Ext} (h : ReadsBy w a 3 exC xs) {l : List Nat} (u : Upd l w w') (hd : ∀ y, a = some y → y.block ∉ l) : ReadsBy w' a 3 exC xs := fun i d hid => by
  obtain ⟨b, off, rfl, hb, hc⟩ := h i d hid
  refine ⟨b, off, rfl, Nat.lt_of_lt_of_le hb u.size, fun j v hv => ?_⟩
  have := u.reads (c := 0) (xs := [v]) (.inr ⟨⟨b, off + i * 3 + j, none⟩, rfl, fun i u hu => by
    cases i with
    | zero => cases hu; exact hc j v hv
    | succ i => simp at hu⟩) (fun x hx => by cases hx; exact hd ⟨b, off, none⟩ rfl)
  rcases this with ⟨h1, -⟩ | ⟨x, hx, h1⟩
  · cases h1
  · cases hx; exact h1 0 v rfl
theorem exs_take {w : World} {a : Option Addr} {xs : List Ext} (h : ReadsBy w a 3 exC xs) (k : Nat) : ReadsBy w a 3 exC (xs.take k) := fun i d hid => by
  refine h i d ?_
  rw [List.getElem?_take] at hid
  split at hid
  · exact hid
  · cases hid

def idxE (l : List Ext) (x : Ext) : Int := match l.findIdx? (fun y => decide (y = x)) with | some k => k | none => -1
theorem idxE_some {l : List Ext} {x : Ext} {k : Nat} (hk : k < l.length) (h : exAt l k = x) (hb : ∀ j, j < k → exAt l j ≠ x) : idxE l x = k := by
  have : l.findIdx? (fun y => decide (y = x)) = some k := by
    rw [List.findIdx?_eq_some_iff_getElem]
    refine ⟨hk, by simpa [exAt, List.getD_eq_getElem?_getD, List.getElem?_eq_getElem hk] using h, fun j hj => ?_⟩
    have := hb j hj
    have hjl : j < l.length := by omega
    simpa [exAt, List.getD_eq_getElem?_getD, List.getElem?_eq_getElem hjl] using this
  unfold idxE
  rw [this]
theorem idxE_none {l : List Ext} {x : Ext} (h : ∀ j, j < l.length → exAt l j ≠ x) : idxE l x = -1 := by
  have : l.findIdx? (fun y => decide (y = x)) = none := by
    rw [List.findIdx?_eq_none_iff]
    intro y hy
    obtain ⟨j, hj, rfl⟩ := List.getElem_of_mem hy
    have := h j hj
    simpa [exAt, List.getD_eq_getElem?_getD, List.getElem?_eq_getElem hj] using this
  unfold idxE
  rw [this]
theorem idxE_mem (l : List Ext) (x : Ext) : decide (0 ≤ idxE l x) = decide (x ∈ l) := by
  unfold idxE
  cases hi : l.findIdx? (fun y => decide (y = x)) with
  | none =>
    rw [List.findIdx?_eq_none_iff] at hi
    have : x ∉ l := fun hx => by have := hi x hx; simp at this
    simp [this]
  | some k =>
    rw [List.findIdx?_eq_some_iff_getElem] at hi
    obtain ⟨hk, h1, -⟩ := hi
    have : x ∈ l := by
      have e : l[k] = x := by simpa using h1
      rw [← e]; exact List.getElem_mem hk
    simp [this]

theorem c_IndexE (a : Option Addr) (n c : Nat) (l : List Ext) (x : Ext) (w : World) (e0 : n = l.length) (h : ReadsBy w a 3 exC l) (hm : n ≤ 1000000000) :
    Calls Try.prog 46 #[.slice a n c, exV x] w fun e w' => e = .returned (.int .i64 (idxE l x)) ∧ Below w.heap.size w w' := by
  subst e0
  obtain ⟨p, q, r⟩ := x
  unfold exV
  obtain ⟨X, hX⟩ : ∃ X, X = w.heap.size := ⟨_, rfl⟩
  obtain ⟨W, hW⟩ : ∃ W, W = w.alloc (.cells #[.int .i64 p, .int .i64 q, .int .i64 r] 34) := ⟨_, rfl⟩
  have bW : Below w.heap.size w W := by rw [hW]; exact (Below.refl _ _).alloc (Nat.le_refl _) _
  have rX : Row W X 34 [.int .i64 p, .int .i64 q, .int .i64 r] := by rw [hW, hX]; exact Row.made w _ _
  have HR := Lib.hid (h.below bW)
  have HB := Lib.hid bW
  have HRX := Lib.hid rX
  have HW := Lib.hid hW
  have HXX := Lib.hid hX
  clear h hX hW bW rX
  go_enter Try.func46, Try.ntmps46
  go_wp2
  rw [← HW.out, ← HXX.out]
  clear HW
  go_loopw [8] (fun i wr => ∃ k : Nat, k ≤ l.length ∧ i = .int .i64 k ∧ Hid (∀ j, j < k → exAt l j ≠ (p, q, r)) ∧ Hid (Below W.heap.size W wr)) (fun i _ => l.length - (intOf i).toNat)
  case atStart => exact ⟨0, Nat.zero_le _, rfl, fun j hj => by omega, Below.refl _ _⟩
  case round =>
    obtain ⟨k, hk, rfl, hz, HBr⟩ := hrel
    by_cases hlt : k < l.length
    · obtain ⟨b, off, rfl, hb, c0, c1, c2⟩ := ex_cells (HR.out.below HBr.out) hlt
      have x0 := (HRX.out.keep (l := []) (.of_below HBr.out) (by simp)).cell (i := 0) rfl
      have x1 := (HRX.out.keep (l := []) (.of_below HBr.out) (by simp)).cell (i := 1) rfl
      have x2 := (HRX.out.keep (l := []) (.of_below HBr.out) (by simp)).cell (i := 2) rfl
      obtain ⟨p', q', r', hex⟩ : ∃ p' q' r', exAt l k = (p', q', r') := ⟨_, _, _, rfl⟩
      rw [hex] at c0 c1 c2
      have HEX := Lib.hid hex
      clear hex hb
      go_wp2_with fail
      refine wp_region_planH (fun z => z.cell? ⟨X, 0, none⟩ = some (.int .i64 p) ∧ z.cell? ⟨X, 1, none⟩ = some (.int .i64 q) ∧ z.cell? ⟨X, 2, none⟩ = some (.int .i64 r) ∧ z.cell? ⟨b, off + k * 3, none⟩ = some (.int .i64 p') ∧ z.cell? ⟨b, off + k * 3 + 1, none⟩ = some (.int .i64 q') ∧ z.cell? ⟨b, off + k * 3 + 2, none⟩ = some (.int .i64 r')) [(0, true), (1, true), (2, true), (3, true), (4, true), (5, true)] (by kernel_rfl) (by kernel_rfl) (fun _ _ _ _ _ h => h) ⟨x0, x1, x2, c0, c1, c2⟩ ?_
      clear x0 x1 x2 c0 c1 c2
      refine wpPlanH_load (.agg #[.int .i64 p, .int .i64 q, .int .i64 r]) rfl rfl (fun x hS => by obtain ⟨s0, s1, s2, s3, s4, s5⟩ := hS; go_simp) (fun K hK => ?_)
      refine hK _ ?_
      clear hK K
      (repeat (refine wpPlanH_free rfl (fun K hK => ?_); go_simp; (try go_bits); refine hK _ ?_; clear hK K))
      refine wpPlanH_load (.agg #[.int .i64 p', .int .i64 q', .int .i64 r']) rfl rfl (fun x hS => by obtain ⟨s0, s1, s2, s3, s4, s5⟩ := hS; go_simp) (fun K hK => ?_)
      refine hK _ ?_
      clear hK K
      have hbd : Below W.heap.size W wr.drew := HBr.out.drew
      generalize wr.drew = wd at *
      by_cases he : ((p', q', r') : Ext) = (p, q, r)
      · obtain ⟨rfl, rfl, rfl⟩ : p' = p ∧ q' = q ∧ r' = r := by simpa using he
        (repeat (refine wpPlanH_free rfl (fun K hK => ?_); go_simp; (try go_bits); refine hK _ ?_; clear hK K))
        refine wpPlanH_nil ?_
        have HV := Lib.hid (idxE_some hlt HEX.out hz.out)
        go_wp2
        go_ret
        exact ⟨by rw [HV.out]; rfl, bNext HB.out hbd⟩
      · have HN : Hid (∀ j, j < k + 1 → exAt l j ≠ (p, q, r)) := fun j hj => by
          by_cases hjk : j = k
          · subst hjk; rw [HEX.out]; exact he
          · exact hz.out j (by omega)
        have HBD := Lib.hid hbd
        have h3 : ¬ p = p' ∨ (p = p' ∧ ¬ q = q') ∨ (p = p' ∧ q = q' ∧ ¬ r = r') := by
          by_cases e1 : p = p'
          · by_cases e2 : q = q'
            · by_cases e3 : r = r'
              · exact absurd (by rw [e1, e2, e3]) he
              · exact .inr (.inr ⟨e1, e2, e3⟩)
            · exact .inr (.inl ⟨e1, e2⟩)
          · exact .inl e1
        clear hz HEX he hbd
        rcases h3 with e1 | ⟨rfl, e2⟩ | ⟨rfl, rfl, e3⟩
        · have f1 : (p == p') = false := by simpa using e1
          (repeat (refine wpPlanH_free rfl (fun K hK => ?_); go_simp; (try go_bits); refine hK _ ?_; clear hK K))
          refine wpPlanH_nil ?_
          go_wp2
          go_roundw
          case rel => exact ⟨k + 1, by omega, by go_num, HN.out, HBD.out⟩
          case measure => simp [intOf]; omega
        · have f1 : (q == q') = false := by simpa using e2
          (repeat (refine wpPlanH_free rfl (fun K hK => ?_); go_simp; (try go_bits); refine hK _ ?_; clear hK K))
          refine wpPlanH_nil ?_
          go_wp2
          go_roundw
          case rel => exact ⟨k + 1, by omega, by go_num, HN.out, HBD.out⟩
          case measure => simp [intOf]; omega
        · have f1 : (r == r') = false := by simpa using e3
          (repeat (refine wpPlanH_free rfl (fun K hK => ?_); go_simp; (try go_bits); refine hK _ ?_; clear hK K))
          refine wpPlanH_nil ?_
          go_wp2
          go_roundw
          case rel => exact ⟨k + 1, by omega, by go_num, HN.out, HBD.out⟩
          case measure => simp [intOf]; omega
    · obtain rfl : k = l.length := by omega
      have HV := Lib.hid (idxE_none hz.out)
      have HBR := Lib.hid (bNext HB.out HBr.out)
      clear hz HBr
      go_wp2
      go_ret
      exact ⟨by rw [HV.out]; rfl, HBR.out⟩

theorem c_ContainsE (a : Option Addr) (n c : Nat) (l : List Ext) (x : Ext) (w : World) (e0 : n = l.length) (h : ReadsBy w a 3 exC l) (hm : n ≤ 1000000000) :
    Calls Try.prog 33 #[.slice a n c, exV x] w fun e w' => e = .returned (.bool (decide (x ∈ l))) ∧ Below w.heap.size w w' := by
  have HV := Lib.hid (idxE_mem l x)
  obtain ⟨W, hW⟩ : ∃ W, W = w.alloc (.cells #[.int .i64 x.1, .int .i64 x.2.1, .int .i64 x.2.2] 34) := ⟨_, rfl⟩
  have bW : Below w.heap.size w W := by rw [hW]; exact (Below.refl _ _).alloc (Nat.le_refl _) _
  have rX : Row W w.heap.size 34 [.int .i64 x.1, .int .i64 x.2.1, .int .i64 x.2.2] := by rw [hW]; exact Row.made w _ _
  have HI := Lib.hid (c_IndexE a n c l x W e0 (h.below bW) hm)
  have HW := Lib.hid hW
  have HB := Lib.hid bW
  have x0 := rX.cell (i := 0) rfl
  have x1 := rX.cell (i := 1) rfl
  have x2 := rX.cell (i := 2) rfl
  rw [hW] at x0 x1 x2
  clear h hm e0 hW bW rX
  generalize idxE l x = v at *
  obtain ⟨p, q, r⟩ := x
  unfold exV at *
  go_enter Try.func33, Try.ntmps33
  go_wp2_with fail
  rw [← HW.out]
  refine HI.out.mono ?_
  rintro e w' ⟨rfl, hb⟩
  go_wp2
  go_ret
  refine ⟨?_, bNext HB.out hb⟩
  rw [← HV.out]
  rfl

end Go.Proofs.Ytpbokmmobepolaa
