/-
  Contracts of package extent: Len, New of no size, Set of none; how much is done.
-/
import Derived.Test.YtpbokmmobepolaaExtZF
namespace Go.Proofs.Ytpbokmmobepolaa
open Go.RowKit Go.Maps
set_option linter.unusedVariables false
set_option maxHeartbeats 4000000

theorem gLen {w : World} {I : SpI} {L : List Rw4} {N k : Nat} (h : SG w I L N k) : Calls Try.prog 24 #[.pointer (some ⟨I.m, 0, none⟩)] w fun e w' => e = .returned (.int .i64 N) ∧ w = w' := by
  obtain ⟨S, h1, h2, rfl, -⟩ := h
  have k0 := h1.row.cell (i := 0) rfl
  have HL := Lib.hid (c_Len _ _ _ _ _ _ _ h1.dk)
  clear h1 h2
  go_enter Try.func24, Try.ntmps24
  go_wp2_with fail
  refine HL.out.mono ?_
  rintro e w' ⟨rfl, rfl⟩
  go_wp2
  go_ret
  exact ⟨rfl, rfl⟩

theorem c_ENewNo (k : Int) (w : World) (h0 : -9223372036854775808 ≤ k) (h1 : k ≤ 9223372036854775807) (h : k < 0 ∨ 20000 < k) : Calls Try.prog 11 #[.int .i64 k] w fun e w' => e = .returned (.tuple #[.pointer none, .int .i64 2]) ∧ w = w' := by
  have HC := Lib.hid (c_NewNo k w h0 h1 h)
  clear h
  go_enter Try.func11, Try.ntmps11
  go_wp2_with fail
  refine HC.out.mono ?_
  rintro e w' ⟨rfl, rfl⟩
  go_wp2
  go_ret2
  exact ⟨rfl, rfl⟩

theorem c_ESetNo {w : World} {I : SpI} {S : SpS} (h : SpAt w I S) (p n s : Int) (hx : exOk (p, n, s)) (hf : S.f (p, n, s) = false) (a : Option Addr) (len cap : Nat) :
    Calls Try.prog 17 #[.pointer (some ⟨I.m, 0, none⟩), .agg #[.int .i64 p, .int .i64 n, .int .i64 s], .slice a len cap] w fun e w' => e = .returned (.tuple #[exA 0 0 0, .int .i64 4]) ∧ Below w.heap.size w w' := by
  obtain ⟨X, hX⟩ : ∃ X, X = w.heap.size := ⟨_, rfl⟩
  obtain ⟨W, hW⟩ : ∃ W, W = (w.alloc (.cells #[.int .i64 p, .int .i64 n, .int .i64 s] 34)).alloc (.cells #[.int .i64 0, .int .i64 0, .int .i64 0] 34) := ⟨_, rfl⟩
  have bW : Below w.heap.size w W := by rw [hW]; exact ((Below.refl _ _).alloc (Nat.le_refl _) _).alloc (by simp) _
  have rR : Row W (X + 1) 34 [.int .i64 0, .int .i64 0, .int .i64 0] := by
    rw [hW, hX]
    have := Row.made (w.alloc (.cells #[.int .i64 p, .int .i64 n, .int .i64 s] 34)) [.int .i64 0, .int .i64 0, .int .i64 0] 34
    simpa using this
  have HC := Lib.hid (livesNo (h.below bW) p n s hx hf)
  have HXX := Lib.hid hX
  have HW := Lib.hid hW
  have HBW := Lib.hid bW
  have HRR := Lib.hid rR
  clear h hx hf hX hW bW rR
  go_enter Try.func17, Try.ntmps17
  go_wp2_with fail
  rw [← HW.out, ← HXX.out]
  clear HW
  refine HC.out.mono ?_
  clear HC
  rintro e w1 ⟨rfl, hb⟩
  have HB := Lib.hid (bNext HBW.out hb)
  have HRR := Lib.hid (HRR.out.keep (l := []) (.of_below hb) (by simp))
  clear hb
  have x0 := HRR.out.free 0
  have x1 := HRR.out.free 1
  have x2 := HRR.out.free 2
  have y0 := HRR.out.cell (i := 0) rfl
  have y1 := HRR.out.cell (i := 1) rfl
  have y2 := HRR.out.cell (i := 2) rfl
  go_wp2_with fail
  obtain ⟨v3, hv3⟩ : ∃ v3, v3 = ((w1.setCell ⟨X + 1, 0, none⟩ (.int .i64 0)).setCell ⟨X + 1, 1, none⟩ (.int .i64 0)).setCell ⟨X + 1, 2, none⟩ (.int .i64 0) := ⟨_, rfl⟩
  have hR3 : Row v3 (X + 1) 34 [.int .i64 0, .int .i64 0, .int .i64 0] := by rw [hv3]; exact ((HRR.out.set 0 _).set 1 _).set 2 _
  have u3 : Upd [X + 1] w1 v3 := by rw [hv3]; exact (((Upd.refl [X + 1] w1).setCell (by simp) _).setCell (by simp) _).setCell (by simp) _
  rw [← hv3]
  have HU3 := Lib.hid u3
  clear hv3 u3 y0 y1 y2 x0 x1 x2
  have z0 := hR3.cell (i := 0) rfl
  have z1 := hR3.cell (i := 1) rfl
  have z2 := hR3.cell (i := 2) rfl
  clear hR3
  (try simp only [Exit.inBlock, Exit.then])
  refine bodyPost_ret (by rw [results_cellT rfl]; go_simp; rfl) rfl ?_
  exact ⟨rfl, HB.out.trans (HU3.out.below HB.out.size (fun k hk => by have := HXX.out; simp at hk; omega))⟩

theorem gSetNo {w : World} {I : SpI} {L : List Rw4} {N k : Nat} (h : SG w I L N k) (p n s : Int) (ho : exOk (p, n, s)) (hx : ∀ x ∈ L, (p, n, s) ≠ rE x) (a : Option Addr) (len cap : Nat) :
    Calls Try.prog 17 #[.pointer (some ⟨I.m, 0, none⟩), exA p n s, .slice a len cap] w fun e w' => e = .returned (.tuple #[exA 0 0 0, .int .i64 4]) ∧ SG w' I L N k ∧ Upd I.all w w' := by
  obtain ⟨S, h1, hf⟩ := h.dead hx
  refine (c_ESetNo h1 p n s ho hf a len cap).mono ?_
  rintro e w' ⟨rfl, hb⟩
  exact ⟨rfl, h.below hb, .of_below hb⟩

/-! ### How much is done -/

def cntD (ds : List Do3) : Nat := (ds.map (fun d => 1 + d.n / 64)).sum
theorem cntD_step {ds : List Do3} {k : Nat} (h : k < ds.length) : cntD (ds.take (k + 1)) = cntD (ds.take k) + 1 + ds[k].n / 64 := by
  unfold cntD
  rw [List.take_add_one, List.getElem?_eq_getElem h]
  simp only [Option.toList_some, List.map_append, List.map_cons, List.map_nil, List.sum_append, List.sum_cons, List.sum_nil]
  omega
theorem cntD_take (ds : List Do3) (k : Nat) : cntD (ds.take k) ≤ cntD ds := by
  unfold cntD
  conv => rhs; rw [← List.take_append_drop k ds, List.map_append, List.sum_append]
  exact Nat.le_add_right _ _
theorem do_cells {w : World} {a0 : Option Addr} {ds : List Do3} (h : ReadsBy w a0 3 Do3.row ds) {k : Nat} (hk : k < ds.length) :
    ∃ b off, a0 = some ⟨b, off, none⟩ ∧ b < w.heap.size ∧ w.cell? ⟨b, off + k * 3, none⟩ = some (.int .i64 ds[k].kind) ∧ w.cell? ⟨b, off + k * 3 + 1, none⟩ = some (.int .i64 ds[k].num) ∧ w.cell? ⟨b, off + k * 3 + 2, none⟩ = some (.slice ds[k].a ds[k].n ds[k].c) := by
  obtain ⟨b, off, rfl, hb, hc⟩ := h k _ (List.getElem?_eq_getElem hk)
  exact ⟨b, off, rfl, hb, hc 0 _ rfl, hc 1 _ rfl, hc 2 _ rfl⟩
theorem quo64 (n : Nat) : (n : Int).tdiv 64 = ((n / 64 : Nat) : Int) := by
  rw [Int.tdiv_eq_ediv_of_nonneg (by omega)]; omega

theorem c_long {w : World} {a : Option Addr} {c : Nat} {ds : List Do3} (h : ReadsBy w a 3 Do3.row ds) (hs : cntD ds ≤ 1000000) (hl : ∀ d ∈ ds, d.n ≤ 100000000) :
    Calls Try.prog 18 #[.slice a ds.length c] w fun e w' => e = .returned (.bool (decide ((80 : Int) < (cntD ds : Nat)))) ∧ w = w' := by
  have HR := Lib.hid h
  have HL := Lib.hid hl
  have hlen : ds.length ≤ 1000000 := by
    have : ds.length ≤ cntD ds := by
      clear h hs hl HR HL
      induction ds with
      | nil => exact Nat.zero_le _
      | cons d ds ih => unfold cntD at ih ⊢; simp only [List.map_cons, List.sum_cons, List.length_cons]; omega
    omega
  clear h hl
  go_enter Try.func18, Try.ntmps18
  go_wp2
  go_loop [3, 4] (fun u i => ∃ k : Nat, k ≤ ds.length ∧ i = .int .i64 k ∧ u = .int .i64 (cntD (ds.take k) : Nat)) (fun _ i => ds.length - (intOf i).toNat)
  case atStart => exact ⟨0, Nat.zero_le _, rfl, rfl⟩
  case round =>
    obtain ⟨k, hk, rfl, rfl⟩ := hrel
    by_cases hlt : k < ds.length
    · obtain ⟨b, off, rfl, hb, c0, c1, c2⟩ := do_cells HR.out hlt
      have hst := cntD_step hlt
      have hle := cntD_take ds (k + 1)
      have hnl := HL.out _ (List.getElem_mem hlt)
      have hq := quo64 ds[k].n
      generalize ds[k].a = xa at *
      generalize ds[k].n = xn at *
      generalize ds[k].c = xc at *
      generalize ds[k].kind = x1 at *
      generalize ds[k].num = x2 at *
      have HST := Lib.hid hst
      rw [hst] at hle
      generalize cntD (ds.take k) = U at *
      obtain ⟨qn, hqn⟩ : ∃ z, z = xn / 64 := ⟨_, rfl⟩
      rw [← hqn] at hq hle HST
      clear hst hb hqn
      go_wp2
      go_round
      case rel => exact ⟨k + 1, by omega, by go_num, by rw [HST.out]; exact congrArg (Value.int .i64) (by omega)⟩
      case measure => simp [intOf]; omega
    · obtain rfl : k = ds.length := by omega
      rw [List.take_length]
      go_wp2
      go_ret
      exact ⟨rfl, rfl⟩

end Go.Proofs.Ytpbokmmobepolaa
