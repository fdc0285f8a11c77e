/-
  The reference's rows in memory; Find, Used, First.
-/
import Derived.Test.YtpbokmmobepolaaExtY
namespace Go.Proofs.Ytpbokmmobepolaa
open Go.RowKit Go.Maps
set_option linter.unusedVariables false
set_option maxHeartbeats 4000000

/-- A row, and where its bytes are held. -/
structure RwB where
  x : Rw4
  a : Option Addr
  n : Nat
  c : Nat
def RwB.row (r : RwB) : List Value := [.int .i64 (r.x.1 : Nat), .int .i64 (rN r.x : Nat), .int .i64 (r.x.2.length : Nat), .slice r.a r.n r.c]
def RwB.ok (w : World) (B : Nat) (r : RwB) : Prop := r.n = r.x.2.length ∧ r.n ≤ r.c ∧ Reads w r.a r.c (r.x.2.map (Value.int .u8)) ∧ Byt r.x.2 ∧ ∀ y, r.a = some y → B ≤ y.block
structure RowsAt (w : World) (B : Nat) (a : Option Addr) (n c : Nat) (rs : List RwB) : Prop where
  len : n = rs.length
  cap : n ≤ c
  rd : ReadsBy w a 4 RwB.row rs
  ab : ∀ y, a = some y → B ≤ y.block
  oks : ∀ r ∈ rs, r.ok w B
  nl : a = none → c = 0

theorem by_keep {α : Type} {S : Nat} {f : α → List Value} {w w' : World} {a : Option Addr} {xs : List α} (h : ReadsBy w a S f xs) {l : List Nat} (u : Upd l w w') (hd : ∀ y, a = some y → y.block ∉ l) : ReadsBy w' a S f xs := fun i d hid => by
  obtain ⟨b, off, rfl, hb, hc⟩ := h i d hid
  refine ⟨b, off, rfl, Nat.lt_of_lt_of_le hb u.size, fun j v hv => ?_⟩
  have := u.reads (c := 0) (xs := [v]) (.inr ⟨⟨b, off + i * S + j, none⟩, rfl, fun i u hu => by
    cases i with
    | zero => cases hu; exact hc j v hv
    | succ i => simp at hu⟩) (fun x hx => by cases hx; exact hd ⟨b, off, none⟩ rfl)
  rcases this with ⟨h1, -⟩ | ⟨x, hx, h1⟩
  · cases h1
  · cases hx; exact h1 0 v rfl
theorem RwB.ok.keep {w w' : World} {B : Nat} {r : RwB} (h : r.ok w B) {l : List Nat} (u : Upd l w w') (hl : ∀ k ∈ l, k < B) : r.ok w' B :=
  ⟨h.1, h.2.1, u.reads h.2.2.1 (fun y hy hm => by have h1 := h.2.2.2.2 y hy; have h2 := hl _ hm; omega), h.2.2.2⟩
theorem RowsAt.keep {w w' : World} {B : Nat} {a : Option Addr} {n c : Nat} {rs : List RwB} (h : RowsAt w B a n c rs) {l : List Nat} (u : Upd l w w') (hl : ∀ k ∈ l, k < B) : RowsAt w' B a n c rs :=
  ⟨h.len, h.cap, by_keep h.rd u (fun y hy hm => by have h1 := h.ab y hy; have h2 := hl _ hm; omega), h.ab, fun r hr => (h.oks r hr).keep u hl, h.nl⟩
theorem RowsAt.below {w w' : World} {B : Nat} {a : Option Addr} {n c : Nat} {rs : List RwB} (h : RowsAt w B a n c rs) (hb : Below w.heap.size w w') : RowsAt w' B a n c rs := h.keep (l := []) (.of_below hb) (by simp)
theorem RowsAt.nil (w : World) (B : Nat) : RowsAt w B none 0 0 [] := ⟨rfl, Nat.le_refl _, fun i d h => by simp at h, fun y hy => (by cases hy), fun r hr => (by cases hr), fun _ => rfl⟩
def Lof (rs : List RwB) : List Rw4 := rs.map RwB.x

theorem row_cells {w : World} {B : Nat} {a : Option Addr} {n c : Nat} {rs : List RwB} (h : RowsAt w B a n c rs) {k : Nat} (hk : k < rs.length) :
    ∃ b off, a = some ⟨b, off, none⟩ ∧ b < w.heap.size ∧ w.cell? ⟨b, off + k * 4, none⟩ = some (.int .i64 (rs[k].x.1 : Nat)) ∧ w.cell? ⟨b, off + k * 4 + 1, none⟩ = some (.int .i64 (rN rs[k].x : Nat)) ∧ w.cell? ⟨b, off + k * 4 + 2, none⟩ = some (.int .i64 (rs[k].x.2.length : Nat)) ∧ w.cell? ⟨b, off + k * 4 + 3, none⟩ = some (.slice rs[k].a rs[k].n rs[k].c) := by
  obtain ⟨b, off, rfl, hb, hc⟩ := h.rd k _ (List.getElem?_eq_getElem hk)
  exact ⟨b, off, rfl, hb, hc 0 _ rfl, hc 1 _ rfl, hc 2 _ rfl, hc 3 _ rfl⟩

/-- Where an extent stands. -/
def findE (L : List Rw4) (x : Ext) : Int := idxE (L.map rE) x
theorem exAt_lof {rs : List RwB} {k : Nat} (hk : k < rs.length) : exAt ((Lof rs).map rE) k = rE rs[k].x := by
  have h1 : k < (Lof rs).length := by simp [Lof]; exact hk
  rw [exAt_map h1]
  simp [Lof]

theorem r_Find {w : World} {B : Nat} {a : Option Addr} {n c : Nat} {rs : List RwB} (h : RowsAt w B a n c rs) (hm : n ≤ 1000000) (x : Ext) :
    Calls Try.prog 20 #[.slice a n c, exV x] w fun e w' => e = .returned (.int .i64 (findE (Lof rs) x)) ∧ Below w.heap.size w w' := by
  have e0 := h.len
  subst e0
  obtain ⟨p, q, r⟩ := x
  unfold exV
  obtain ⟨X, hX⟩ : ∃ X, X = w.heap.size := ⟨_, rfl⟩
  obtain ⟨W, hW⟩ : ∃ W, W = w.alloc (.cells #[.int .i64 p, .int .i64 q, .int .i64 r] 34) := ⟨_, rfl⟩
  have bW : Below w.heap.size w W := by rw [hW]; exact (Below.refl _ _).alloc (Nat.le_refl _) _
  have rX : Row W X 34 [.int .i64 p, .int .i64 q, .int .i64 r] := by rw [hW, hX]; exact Row.made w _ _
  have HR := Lib.hid (h.below bW)
  have HB := Lib.hid bW
  have HRX := Lib.hid rX
  have HW := Lib.hid hW
  have HXX := Lib.hid hX
  clear h hX hW bW rX
  go_enter Try.func20, Try.ntmps20
  go_wp2
  rw [← HW.out, ← HXX.out]
  clear HW
  go_loopw [5] (fun i wr => ∃ k : Nat, k ≤ rs.length ∧ i = .int .i64 k ∧ Hid (∀ j, j < k → exAt ((Lof rs).map rE) j ≠ (p, q, r)) ∧ Hid (Below W.heap.size W wr)) (fun i _ => rs.length - (intOf i).toNat)
  case atStart => exact ⟨0, Nat.zero_le _, rfl, fun j hj => by omega, Below.refl _ _⟩
  case round =>
    obtain ⟨k, hk, rfl, hz, HBr⟩ := hrel
    by_cases hlt : k < rs.length
    · obtain ⟨b, off, rfl, hb, c0, c1, c2, -⟩ := row_cells (HR.out.below HBr.out) hlt
      have x0 := (HRX.out.keep (l := []) (.of_below HBr.out) (by simp)).cell (i := 0) rfl
      have x1 := (HRX.out.keep (l := []) (.of_below HBr.out) (by simp)).cell (i := 1) rfl
      have x2 := (HRX.out.keep (l := []) (.of_below HBr.out) (by simp)).cell (i := 2) rfl
      obtain ⟨p', q', r', hex⟩ : ∃ p' q' r', rE rs[k].x = (p', q', r') := ⟨_, _, _, rfl⟩
      have hex2 := hex
      simp only [rE, Prod.mk.injEq] at hex2
      rw [hex2.1] at c0
      rw [hex2.2.1] at c1
      rw [hex2.2.2] at c2
      have HEX : Hid (exAt ((Lof rs).map rE) k = (p', q', r')) := by unfold Hid; rw [exAt_lof hlt, hex]
      clear hex hex2 hb
      go_wp2_with fail
      refine wp_region_planH (fun z => z.cell? ⟨X, 0, none⟩ = some (.int .i64 p) ∧ z.cell? ⟨X, 1, none⟩ = some (.int .i64 q) ∧ z.cell? ⟨X, 2, none⟩ = some (.int .i64 r) ∧ z.cell? ⟨b, off + k * 4, none⟩ = some (.int .i64 p') ∧ z.cell? ⟨b, off + k * 4 + 1, none⟩ = some (.int .i64 q') ∧ z.cell? ⟨b, off + k * 4 + 2, none⟩ = some (.int .i64 r')) [(0, true), (1, true), (2, true), (3, true), (4, true), (5, true), (6, true)] (by kernel_rfl) (by kernel_rfl) (fun _ _ _ _ _ h => h) ⟨x0, x1, x2, c0, c1, c2⟩ ?_
      clear x0 x1 x2 c0 c1 c2
      (repeat (refine wpPlanH_free rfl (fun K hK => ?_); go_simp; (try go_bits); refine hK _ ?_; clear hK K))
      refine wpPlanH_load (.agg #[.int .i64 p', .int .i64 q', .int .i64 r']) rfl rfl (fun x hS => by obtain ⟨s0, s1, s2, s3, s4, s5⟩ := hS; go_simp) (fun K hK => ?_)
      refine hK _ ?_
      clear hK K
      refine wpPlanH_load (.agg #[.int .i64 p, .int .i64 q, .int .i64 r]) rfl rfl (fun x hS => by obtain ⟨s0, s1, s2, s3, s4, s5⟩ := hS; go_simp) (fun K hK => ?_)
      refine hK _ ?_
      clear hK K
      have hbd : Below W.heap.size W wr.drew := HBr.out.drew
      generalize wr.drew = wd at *
      have hlt2 : k < ((Lof rs).map rE).length := by simp [Lof]; exact hlt
      by_cases he : ((p', q', r') : Ext) = (p, q, r)
      · obtain ⟨rfl, rfl, rfl⟩ : p' = p ∧ q' = q ∧ r' = r := by simpa using he
        (repeat (refine wpPlanH_free rfl (fun K hK => ?_); go_simp; (try go_bits); refine hK _ ?_; clear hK K))
        refine wpPlanH_nil ?_
        have HV : Hid (findE (Lof rs) (p', q', r') = k) := idxE_some hlt2 HEX.out hz.out
        go_wp2
        go_ret
        exact ⟨by rw [HV.out]; rfl, bNext HB.out hbd⟩
      · have HN : Hid (∀ j, j < k + 1 → exAt ((Lof rs).map rE) j ≠ (p, q, r)) := fun j hj => by
          by_cases hjk : j = k
          · subst hjk; rw [HEX.out]; exact he
          · exact hz.out j (by omega)
        have HBD := Lib.hid hbd
        have h3 : ¬ p' = p ∨ (p' = p ∧ ¬ q' = q) ∨ (p' = p ∧ q' = q ∧ ¬ r' = r) := by
          by_cases e1 : p' = p
          · by_cases e2 : q' = q
            · by_cases e3 : r' = r
              · exact absurd (by rw [e1, e2, e3]) he
              · exact .inr (.inr ⟨e1, e2, e3⟩)
            · exact .inr (.inl ⟨e1, e2⟩)
          · exact .inl e1
        clear hz HEX he hbd hlt2
        rcases h3 with e1 | ⟨rfl, e2⟩ | ⟨rfl, rfl, e3⟩
        · have f1 : (p' == p) = false := by simpa using e1
          (repeat (refine wpPlanH_free rfl (fun K hK => ?_); go_simp; (try go_bits); refine hK _ ?_; clear hK K))
          refine wpPlanH_nil ?_
          go_wp2
          go_roundw
          case rel => exact ⟨k + 1, by omega, by go_num, HN.out, HBD.out⟩
          case measure => simp [intOf]; omega
        · have f1 : (q' == q) = false := by simpa using e2
          (repeat (refine wpPlanH_free rfl (fun K hK => ?_); go_simp; (try go_bits); refine hK _ ?_; clear hK K))
          refine wpPlanH_nil ?_
          go_wp2
          go_roundw
          case rel => exact ⟨k + 1, by omega, by go_num, HN.out, HBD.out⟩
          case measure => simp [intOf]; omega
        · have f1 : (r' == r) = false := by simpa using e3
          (repeat (refine wpPlanH_free rfl (fun K hK => ?_); go_simp; (try go_bits); refine hK _ ?_; clear hK K))
          refine wpPlanH_nil ?_
          go_wp2
          go_roundw
          case rel => exact ⟨k + 1, by omega, by go_num, HN.out, HBD.out⟩
          case measure => simp [intOf]; omega
    · obtain rfl : k = rs.length := by omega
      have HV : Hid (findE (Lof rs) (p, q, r) = -1) := idxE_none (fun j hj => hz.out j (by simpa [Lof] using hj))
      have HBR := Lib.hid (bNext HB.out HBr.out)
      clear hz HBr
      go_wp2
      go_ret
      exact ⟨by rw [HV.out]; rfl, HBR.out⟩

theorem sum_take {L : List Rw4} {k : Nat} (h : k < L.length) : ((L.take (k + 1)).map rN).sum = ((L.take k).map rN).sum + rN L[k] := by
  rw [List.take_add_one, List.getElem?_eq_getElem h]
  simp only [Option.toList_some, List.map_append, List.map_cons, List.map_nil, List.sum_append, List.sum_cons, List.sum_nil]
  omega
theorem sum_take_le (L : List Rw4) (k : Nat) : ((L.take k).map rN).sum ≤ (L.map rN).sum := by
  conv => rhs; rw [← List.take_append_drop k L, List.map_append, List.sum_append]
  exact Nat.le_add_right _ _

theorem r_Used {w : World} {B : Nat} {a : Option Addr} {n c : Nat} {rs : List RwB} (h : RowsAt w B a n c rs) (hm : n ≤ 1000000) (hs : ((Lof rs).map rN).sum ≤ 1000000) :
    Calls Try.prog 23 #[.slice a n c] w fun e w' => e = .returned (.int .i64 (((Lof rs).map rN).sum : Nat)) ∧ w = w' := by
  have e0 := h.len
  subst e0
  have HR := Lib.hid h
  clear h
  go_enter Try.func23, Try.ntmps23
  go_wp2
  go_loop [3, 4] (fun u i => ∃ k : Nat, k ≤ rs.length ∧ i = .int .i64 k ∧ u = .int .i64 ((((Lof rs).take k).map rN).sum : Nat)) (fun _ i => rs.length - (intOf i).toNat)
  case atStart => exact ⟨0, Nat.zero_le _, rfl, rfl⟩
  case round =>
    obtain ⟨k, hk, rfl, rfl⟩ := hrel
    by_cases hlt : k < rs.length
    · obtain ⟨b, off, rfl, hb, c0, c1, c2, c3⟩ := row_cells HR.out hlt
      have hlt2 : k < (Lof rs).length := by simp [Lof]; exact hlt
      have HS := Lib.hid (sum_take hlt2)
      have hle := sum_take_le (Lof rs) (k + 1)
      have HN : Hid (rN (Lof rs)[k] = rN rs[k].x) := by simp [Hid, Lof]
      rw [HS.out, HN.out] at hle
      rw [HN.out] at HS
      have hw := wrap_small (a := (((Lof rs).take k).map rN).sum) (b := rN rs[k].x) (by omega)
      generalize (((Lof rs).take k).map rN).sum = U at *
      generalize rN rs[k].x = gn at *
      clear hb c0 c2 c3 HN hle
      go_wp2
      go_round
      case rel => exact ⟨k + 1, by omega, by go_num, by rw [HS.out]; exact congrArg (Value.int .i64) (by omega)⟩
      case measure => simp [intOf]; omega
    · obtain rfl : k = rs.length := by omega
      have HT : Hid ((Lof rs).take rs.length = Lof rs) := by unfold Hid; rw [show rs.length = (Lof rs).length by simp [Lof], List.take_length]
      rw [HT.out]
      go_wp2
      go_ret
      exact ⟨rfl, rfl⟩

end Go.Proofs.Ytpbokmmobepolaa
