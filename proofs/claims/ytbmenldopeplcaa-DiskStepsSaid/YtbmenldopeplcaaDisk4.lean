/-
  What is done to a disk, one thing behind the other, as the laws of chapter 03 do it.
-/
import Derived.Test.YtbmenldopeplcaaDiskLaws
import Derived.Test.YtbmenldopeplcaaOpen
namespace Go.Proofs.Ytbmenldopeplcaa
open Go.RowKit Go.ChangeShapes Go.ChangeAt
set_option linter.unusedVariables false

set_option maxHeartbeats 1000000

theorem c_ClearNo (d g n r q : Nat) (bs : List Int) (w : World) (h : DiskAt w d g n r q bs) (a : Option Addr) (m c : Nat) (l : List Int) (e0 : m = l.length) (hr : Reads w a c (l.map (Value.int .i64))) (hl : ∃ x ∈ l, x < 0 ∨ (n : Int) ≤ x) (hm : m ≤ 1000000) :
    Calls Try.prog 24 #[.pointer (some ⟨d, 0, none⟩), .slice a m c] w fun e w' => e = .returned (.int .i64 4) ∧ w = w' := by
  subst e0
  have HH := Lib.hid h
  have HR := Lib.hid hr
  have HX := Lib.hid hl
  have hsm := h.small
  clear h hr hl
  go_enter Try.func24, Try.ntmps24
  go_wp2
  go_loop [17] (fun i => ∃ k : Nat, k ≤ l.length ∧ i = .int .i64 k ∧ Hid (∀ j, j < k → 0 ≤ l.getD j 0 ∧ l.getD j 0 < n)) (fun i => l.length - (intOf i).toNat)
  case atStart => exact ⟨0, Nat.zero_le _, rfl, fun j hj => by omega⟩
  case round =>
    obtain ⟨k, hk, rfl, HJ⟩ := hrel
    by_cases hlt : k < l.length
    · obtain ⟨b, off, rfl, hblt, hc⟩ := HR.out.at (by simp; omega)
      have hcell := hc k _ (getD_map8 hlt)
      have HJ2 := Lib.hid (fun (h : 0 ≤ l.getD k 0 ∧ l.getD k 0 < n) => (fun j hj => by
        by_cases hjk : j = k
        · subst hjk; exact h
        · exact HJ.out j (by omega) : ∀ j, j < k + 1 → 0 ≤ l.getD j 0 ∧ l.getD j 0 < n))
      generalize l.getD k 0 = x at *
      clear hc
      by_cases hin : 0 ≤ x ∧ x < n
      · obtain ⟨i, rfl⟩ := Int.eq_ofNat_of_zero_le hin.1
        have HT := Lib.hid (c_at d g n r q bs w HH.out i (by omega))
        have HI := Lib.hid hin
        clear hin
        go_wp2_with (go_at_call 42; refine HT.out.mono ?_; rintro e w' ⟨rfl, rfl⟩)
        go_round
        case rel => exact ⟨k + 1, by omega, by go_num, HJ2.out HI.out⟩
        case measure => simp [intOf]; omega
      · have HT := Lib.hid (c_atNo d g n r q bs w HH.out x (by omega))
        clear hin
        go_wp2_with (go_at_call 42; refine HT.out.mono ?_; rintro e w' ⟨rfl, rfl⟩)
        go_ret
        exact ⟨rfl, rfl⟩
    · exfalso
      obtain ⟨x, hx, hxo⟩ := HX.out
      obtain ⟨j, hj, rfl⟩ := List.getElem_of_mem hx
      have := HJ.out j (by omega)
      rw [List.getD_eq_getElem?_getD, List.getElem?_eq_getElem hj] at this
      simp at this
      omega

/-- A disk's counts and bytes, behind something that is done; what is told; the error. -/
structure Disk3 where
  r : Nat
  q : Nat
  bs : List Int
  out : List Int
  err : Int

def step3 (n r q : Nat) (bs : List Int) (d : Do3) : Disk3 :=
  if d.num < 0 ∨ (n : Int) ≤ d.num then ⟨r, q, bs, [], 4⟩
  else if d.kind = 1 then ⟨r + 1, q, bs, sector bs d.num.toNat, 0⟩
  else if d.kind = 2 then (if 64 < d.n then ⟨r, q, bs, [], 2⟩ else ⟨r, q + 1, splice bs (64 * d.num.toNat) (filled d.l), [], 0⟩)
  else ⟨r, q, splice bs (64 * d.num.toNat) (List.replicate 64 0), [], 0⟩

def DonePost (d g n r q : Nat) (bs : List Int) (x : Do3) (w : World) (e : Ending) (w' : World) : Prop :=
  ∃ v, e = .returned (.tuple #[v, .int .i64 (step3 n r q bs x).err]) ∧ w'.ownsRow w.heap.size 5 1 v (step3 n r q bs x).out.length ((step3 n r q bs x).out.map (Value.int .u8)) ∧
    DiskAt w' d g n (step3 n r q bs x).r (step3 n r q bs x).q (step3 n r q bs x).bs ∧ Upd [d, g] w w'

theorem owns_mono {w : World} {base base' : Nat} {e : TypeId} {size : Nat} {v : Value} {n : Nat} {xs : List Value} (h : w.ownsRow base e size v n xs) (hb : base' ≤ base) : w.ownsRow base' e size v n xs := by
  refine ⟨h.1, ?_⟩
  rcases h.2 with h2 | ⟨g, cap, cur, rfl, hbg, rest⟩
  · exact .inl h2
  · exact .inr ⟨g, cap, cur, rfl, by omega, rest⟩

theorem c_done (d g n r q : Nat) (bs : List Int) (w : World) (h : DiskAt w d g n r q bs) (hr : r < 1000000) (hq : q < 1000000) (x : Do3) (hx : x.ok w) :
    Calls Try.prog 23 #[.pointer (some ⟨d, 0, none⟩), .agg #[.int .i64 x.kind, .int .i64 x.num, .slice x.a x.n x.c]] w (DonePost d g n r q bs x w) := by
  obtain ⟨⟨hk0, hk1⟩, ⟨hi0, hi1⟩, hl, hlc, hcm, hrd, hwf⟩ := hx
  have hby : Byt x.l := fun y hy => bounds_u8 (hwf y hy)
  obtain ⟨kind, num, a, m, c, l⟩ := x
  dsimp only at *
  have HH := Lib.hid (h.keep (l := []) ((Upd.refl _ _).alloc (.cells #[.int .i64 kind, .int .i64 num, .slice a m c] 41)) (by simp) (by simp))
  have HB := Lib.hid hby
  have HR := Lib.hid (hrd.alloc (.cells #[.int .i64 kind, .int .i64 num, .slice a m c] 41))
  have HL := Lib.hid hl
  have hdw := h.head.lt
  have hgw := h.data.lt
  have H0 := Lib.hid h
  clear hby hrd hwf hl h
  by_cases ho : num < 0 ∨ (n : Int) ≤ num
  · have HS : Hid (step3 n r q bs ⟨kind, num, a, m, c, l⟩ = ⟨r, q, bs, [], 4⟩) := by unfold step3; rw [if_pos ho]; rfl
    have HO := Lib.hid ho
    clear ho
    have fin : ∀ w', Upd [] w w' → DonePost d g n r q bs ⟨kind, num, a, m, c, l⟩ w (.returned (.tuple #[.slice none 0 0, .int .i64 4])) w' := fun w' u => by
      unfold DonePost
      rw [HS.out]
      exact ⟨_, rfl, World.ownsRow_nil _ _ _ _, H0.out.keep u (by simp) (by simp), u.mono (by simp)⟩
    have FIN := Lib.hid fin
    clear fin
    by_cases h1 : kind = 1
    · subst h1
      go_enter Try.func23, Try.ntmps23
      go_wp2_with (go_at_call 18; refine (c_ReadNo d g n r q bs _ HH.out num HO.out).mono ?_; rintro e w' ⟨rfl, rfl⟩)
      go_ret2
      exact FIN.out _ ((Upd.refl _ _).alloc _)
    · by_cases h2 : kind = 2
      · subst h2
        go_enter Try.func23, Try.ntmps23
        go_wp2_with (go_at_call 15; refine (c_WriteNo d g n r q bs _ HH.out num HO.out a m c).mono ?_; rintro e w' ⟨rfl, rfl⟩)
        go_ret2
        exact FIN.out _ ((Upd.refl _ _).alloc _)
      · have q1 : (kind == 1) = false := by simp [h1]
        have q2 : (kind == 2) = false := by simp [h2]
        clear h1 h2
        go_enter Try.func23, Try.ntmps23
        go_wp2_with (go_at_call 24; refine (c_ClearNo d g n r q bs _ (HH.out.keep (l := []) ((Upd.refl _ _).alloc _) (by simp) (by simp)) _ 1 _ [num] rfl (Reads.madeAt (xs := [.int .i64 num]) (by simp)) ⟨num, by simp, HO.out⟩ (by omega)).mono ?_; rintro e w' ⟨rfl, rfl⟩)
        go_ret2
        exact FIN.out _ (((Upd.refl _ _).alloc _).alloc _)
  · obtain ⟨i, rfl⟩ := Int.eq_ofNat_of_zero_le (show 0 ≤ num from by omega)
    have hin : i < n := by omega
    by_cases h1 : kind = 1
    · subst h1
      have HS : Hid (step3 n r q bs ⟨1, i, a, m, c, l⟩ = ⟨r + 1, q, bs, sector bs i, 0⟩) := by unfold step3; rw [if_neg ho, if_pos rfl]; rfl
      have hsl := sector_len H0.out.len hin
      clear ho
      go_enter Try.func23, Try.ntmps23
      go_wp2_with (go_at_call 18; refine (c_Read d g n r q bs _ HH.out hr i hin).mono ?_; rintro e w' ⟨v, rfl, own, D, U⟩)
      go_ret2
      unfold DonePost
      rw [HS.out]
      refine ⟨v, rfl, ?_, D, ((Upd.refl [d, g] w).alloc _).trans (U.mono (by simp))⟩
      rw [hsl]
      exact owns_mono own (by simp)
    · by_cases h2 : kind = 2
      · subst h2
        by_cases h64 : 64 < m
        · have HS : Hid (step3 n r q bs ⟨2, i, a, m, c, l⟩ = ⟨r, q, bs, [], 2⟩) := by unfold step3; rw [if_neg ho, if_neg (show ¬ ((2 : Int) = 1) from by decide), if_pos rfl, if_pos h64]; rfl
          clear ho h1
          go_enter Try.func23, Try.ntmps23
          go_wp2_with (go_at_call 15; refine (c_WriteLong d g n r q bs _ HH.out i hin a m c h64).mono ?_; rintro e w' ⟨rfl, rfl⟩)
          go_ret2
          unfold DonePost
          rw [HS.out]
          exact ⟨_, rfl, World.ownsRow_nil _ _ _ _, HH.out, (Upd.refl _ _).alloc _⟩
        · have HS : Hid (step3 n r q bs ⟨2, i, a, m, c, l⟩ = ⟨r, q + 1, splice bs (64 * i) (filled l), [], 0⟩) := by unfold step3; rw [if_neg ho, if_neg (show ¬ ((2 : Int) = 1) from by decide), if_pos rfl, if_neg h64]; rfl
          clear ho h1
          go_enter Try.func23, Try.ntmps23
          go_wp2_with (go_at_call 15; refine (c_Write d g n r q bs _ HH.out hq i hin a m c l HL.out HB.out HR.out (by omega)).mono ?_; rintro e w' ⟨rfl, D, U⟩)
          go_ret2
          unfold DonePost
          rw [HS.out]
          exact ⟨_, rfl, World.ownsRow_nil _ _ _ _, D, ((Upd.refl [d, g] w).alloc _).trans U⟩
      · have q1 : (kind == 1) = false := by simp [h1]
        have q2 : (kind == 2) = false := by simp [h2]
        have HS : Hid (step3 n r q bs ⟨kind, i, a, m, c, l⟩ = ⟨r, q, splice bs (64 * i) (List.replicate 64 0), [], 0⟩) := by unfold step3; rw [if_neg ho, if_neg h1, if_neg h2]; rfl
        clear h1 h2 ho
        go_enter Try.func23, Try.ntmps23
        go_wp2_with (go_at_call 24; refine (c_Clear d g n r q bs _ (HH.out.keep (l := []) ((Upd.refl _ _).alloc _) (by simp) (by simp)) _ 1 _ [(i : Int)] rfl (Reads.madeAt (xs := [.int .i64 (i : Int)]) (by simp)) (fun x hx => by cases hx; simp; omega) (by intro x hx; simp at hx; subst hx; omega) (by omega)).mono ?_; rintro e w' ⟨rfl, D, U⟩)
        go_ret2
        unfold DonePost
        rw [HS.out]
        exact ⟨_, rfl, World.ownsRow_nil _ _ _ _, D, (((Upd.refl [d, g] w).alloc _).alloc _).trans (U.mono (by simp))⟩

end Go.Proofs.Ytbmenldopeplcaa
