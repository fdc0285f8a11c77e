/-
  Contracts of package wide: Check, Size; the document's Check.
-/
import Derived.Test.YtdedidjobjdekaaWide
namespace Go.Proofs.Ytdedidjobjdekaa
open Go.RowKit
set_option linter.unusedVariables false
set_option maxHeartbeats 1000000

/-- An object by its fields. -/
structure ObjD where
  cls : Int
  kind : Int
  wa : Option Addr
  wn : Nat
  wc : Nat
  W : List Int
  ba : Option Addr
  bn : Nat
  bc : Nat
  B : List Int

def ObjD.val (o : ObjD) : Value := .agg #[.int .i64 o.cls, .int .i64 o.kind, .slice o.wa o.wn o.wc, .slice o.ba o.bn o.bc]
structure ObjD.ok (w : World) (o : ObjD) : Prop where
  c0 : -9223372036854775808 ≤ o.cls ∧ o.cls ≤ 9223372036854775807
  k0 : -9223372036854775808 ≤ o.kind ∧ o.kind ≤ 9223372036854775807
  wl : o.wn = o.W.length
  wm : o.wn ≤ o.wc ∧ o.wc ≤ 9223372036854775807
  wr : Reads w o.wa o.wc (o.W.map (Value.int .i64))
  wi : I64 o.W
  bl : o.bn = o.B.length
  bm : o.bn ≤ o.bc ∧ o.bc ≤ 9223372036854775807
  br : Reads w o.ba o.bc (o.B.map (Value.int .u8))
  bb : Byt o.B

theorem ObjD.ok.below {w w' : World} {o : ObjD} (h : o.ok w) (b : Below w.heap.size w w') : o.ok w' :=
  ⟨h.c0, h.k0, h.wl, h.wm, h.wr.below b, h.wi, h.bl, h.bm, h.br.below b, h.bb⟩

def chkE (o : ObjD) : Int := if okObj o.cls o.kind o.W o.B then 0 else 2

theorem nil_iff {l : List Int} {n : Nat} (h : n = l.length) : l = [] ↔ n = 0 := by rw [h, List.length_eq_zero_iff]

theorem c_Check (o : ObjD) (w : World) (h : o.ok w) (hm : o.wn ≤ 1000000) : Calls Try.prog 19 #[o.val] w fun e w' => e = .returned (.int .i64 (chkE o)) ∧ Below w.heap.size w w' := by
  obtain ⟨cls, kind, wa, wn, wc, W, ba, bn, bc, B⟩ := o
  obtain ⟨hc, hk, wl, wm, wr, wi, bl, bm, br, bb⟩ := h
  dsimp only at *
  unfold ObjD.val
  dsimp only
  have hnb := nil_iff bl
  have hnw := nil_iff wl
  have hbad := badW_iff (l := W)
  have HN := Lib.hid (c_Named cls (w.alloc (.cells #[.int .i64 cls, .int .i64 kind, .slice wa wn wc, .slice ba bn bc] 25)) hc.1 hc.2)
  have HW := Lib.hid (c_WContains wa wn wc W (w.alloc (.cells #[.int .i64 cls, .int .i64 kind, .slice wa wn wc, .slice ba bn bc] 25)) wl (wr.alloc _) wi (by omega))
  have HE := Lib.hid (show chkE ⟨cls, kind, wa, wn, wc, W, ba, bn, bc, B⟩ = if namIs cls = true ∧ (kind = 1 ∧ bn = 0 ∧ wn ≤ 1000 ∧ badW W = false ∨ kind = 2 ∧ wn = 0 ∧ bn ≤ 1000) then 0 else 2 from by
    have hiff : okObj cls kind W B ↔ (namIs cls = true ∧ (kind = 1 ∧ bn = 0 ∧ wn ≤ 1000 ∧ badW W = false ∨ kind = 2 ∧ wn = 0 ∧ bn ≤ 1000)) := by
      unfold okObj
      rw [hnb, hnw, ← hbad, ← wl, ← bl]
    unfold chkE
    dsimp only
    by_cases hx : okObj cls kind W B
    · rw [if_pos hx, if_pos (hiff.1 hx)]
    · rw [if_neg hx, if_neg (fun h => hx (hiff.2 h))])
  rw [HE.out]
  clear HE hnb hnw hbad wr wi br bb wl bl
  generalize badW W = bad at *
  generalize namIs cls = nam at *
  generalize namV cls = nv at *
  have HB := Lib.hid (show Below w.heap.size w (w.alloc (.cells #[.int .i64 cls, .int .i64 kind, .slice wa wn wc, .slice ba bn bc] 25)) from (Below.refl _ _).alloc (Nat.le_refl _) _)
  cases nam with
  | false =>
    simp only [Bool.false_eq_true, false_and, if_false]
    by_cases k1 : kind = 1
    · subst k1
      go_enter Try.func19, Try.ntmps19
      go_wp2_with (go_at_call 35; refine HN.out.mono ?_; rintro e w' ⟨rfl, rfl⟩)
      go_ret
      exact ⟨rfl, HB.out⟩
    · by_cases k2 : kind = 2
      · subst k2
        go_enter Try.func19, Try.ntmps19
        go_wp2_with (go_at_call 35; refine HN.out.mono ?_; rintro e w' ⟨rfl, rfl⟩)
        go_ret
        exact ⟨rfl, HB.out⟩
      · have q1 : (kind == 1) = false := by simp [k1]
        have q2 : (kind == 2) = false := by simp [k2]
        go_enter Try.func19, Try.ntmps19
        go_wp2_with (go_at_call 35; refine HN.out.mono ?_; rintro e w' ⟨rfl, rfl⟩)
        go_ret
        exact ⟨rfl, HB.out⟩
  | true =>
    simp only [true_and]
    by_cases k1 : kind = 1
    · subst k1
      by_cases hb0 : bn = 0
      · subst hb0
        by_cases hw : wn ≤ 1000
        · cases bad with
          | false =>
            rw [if_pos (.inl ⟨rfl, rfl, hw, rfl⟩)]
            have hw2 : (wn : Int) ≤ 1000 := by omega
            go_enter Try.func19, Try.ntmps19
            go_wp2_with (first
              | (go_at_call 35; refine HN.out.mono ?_; rintro e w' ⟨rfl, rfl⟩)
              | (go_at_call 36; refine HW.out.mono ?_; rintro e w' ⟨rfl, rfl⟩))
            go_ret
            exact ⟨rfl, HB.out⟩
          | true =>
            rw [if_neg (by simp)]
            have hw2 : (wn : Int) ≤ 1000 := by omega
            go_enter Try.func19, Try.ntmps19
            go_wp2_with (first
              | (go_at_call 35; refine HN.out.mono ?_; rintro e w' ⟨rfl, rfl⟩)
              | (go_at_call 36; refine HW.out.mono ?_; rintro e w' ⟨rfl, rfl⟩))
            go_ret
            exact ⟨rfl, HB.out⟩
        · rw [if_neg (by omega)]
          have hw2 : ((wn : Int) ≤ 1000) = False := eq_false (by omega)
          go_enter Try.func19, Try.ntmps19
          go_wp2_with (go_at_call 35; refine HN.out.mono ?_; rintro e w' ⟨rfl, rfl⟩)
          go_ret
          exact ⟨rfl, HB.out⟩
      · rw [if_neg (by omega)]
        have hb2 : ((bn : Int) == 0) = false := by simp; omega
        go_enter Try.func19, Try.ntmps19
        go_wp2_with (go_at_call 35; refine HN.out.mono ?_; rintro e w' ⟨rfl, rfl⟩)
        go_ret
        exact ⟨rfl, HB.out⟩
    · by_cases k2 : kind = 2
      · subst k2
        by_cases hw0 : wn = 0
        · subst hw0
          by_cases hb : bn ≤ 1000
          · rw [if_pos (.inr ⟨rfl, rfl, hb⟩)]
            have hb2 : (bn : Int) ≤ 1000 := by omega
            go_enter Try.func19, Try.ntmps19
            go_wp2_with (go_at_call 35; refine HN.out.mono ?_; rintro e w' ⟨rfl, rfl⟩)
            go_ret
            exact ⟨rfl, HB.out⟩
          · rw [if_neg (by omega)]
            have hb2 : ((bn : Int) ≤ 1000) = False := eq_false (by omega)
            go_enter Try.func19, Try.ntmps19
            go_wp2_with (go_at_call 35; refine HN.out.mono ?_; rintro e w' ⟨rfl, rfl⟩)
            go_ret
            exact ⟨rfl, HB.out⟩
        · rw [if_neg (by omega)]
          have hw2 : ((wn : Int) == 0) = false := by simp; omega
          go_enter Try.func19, Try.ntmps19
          go_wp2_with (go_at_call 35; refine HN.out.mono ?_; rintro e w' ⟨rfl, rfl⟩)
          go_ret
          exact ⟨rfl, HB.out⟩
      · rw [if_neg (by omega)]
        have q1 : (kind == 1) = false := by simp [k1]
        have q2 : (kind == 2) = false := by simp [k2]
        go_enter Try.func19, Try.ntmps19
        go_wp2_with (go_at_call 35; refine HN.out.mono ?_; rintro e w' ⟨rfl, rfl⟩)
        go_ret
        exact ⟨rfl, HB.out⟩

theorem c_WSize (o : ObjD) (w : World) : Calls Try.prog 23 #[o.val] w fun e w' => e = .returned (.int .i64 (if o.kind = 1 then o.wn else if o.kind = 2 then o.bn else 0 : Nat)) ∧ Below w.heap.size w w' := by
  obtain ⟨cls, kind, wa, wn, wc, W, ba, bn, bc, B⟩ := o
  unfold ObjD.val
  dsimp only
  have HB := Lib.hid (show Below w.heap.size w (w.alloc (.cells #[.int .i64 cls, .int .i64 kind, .slice wa wn wc, .slice ba bn bc] 25)) from (Below.refl _ _).alloc (Nat.le_refl _) _)
  by_cases k1 : kind = 1
  · subst k1
    rw [if_pos rfl]
    go_enter Try.func23, Try.ntmps23
    go_wp2
    go_ret
    exact ⟨rfl, HB.out⟩
  · rw [if_neg k1]
    by_cases k2 : kind = 2
    · subst k2
      rw [if_pos rfl]
      go_enter Try.func23, Try.ntmps23
      go_wp2
      go_ret
      exact ⟨rfl, HB.out⟩
    · rw [if_neg k2]
      have q1 : (kind == 1) = false := by simp [k1]
      have q2 : (kind == 2) = false := by simp [k2]
      go_enter Try.func23, Try.ntmps23
      go_wp2
      go_ret
      exact ⟨rfl, HB.out⟩

end Go.Proofs.Ytdedidjobjdekaa
