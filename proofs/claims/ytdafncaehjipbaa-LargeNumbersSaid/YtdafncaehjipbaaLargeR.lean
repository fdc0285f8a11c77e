/-
  Contracts of the document's package websterref13: row, settle. (Written by lrgen.py.)
-/
import Derived.Test.YtdafncaehjipbaaLargeQ
namespace Go.Proofs.Ytdafncaehjipbaa
open Go.RowKit
set_option linter.unusedVariables false
set_option maxHeartbeats 2000000
set_option maxRecDepth 20000

theorem inf_i64L : (Try.prog.info? 3).map (fun i => (i.zero, i.size, i.bytes)) = some (some (.int .i64 0), 1, 8) := by kernel_rfl

/-- A row's first, as numbers. -/
def RowTo (l o : List Int) (M k : Nat) : Prop := o.length = M ∧ ∀ p, p < M → o.getD p 0 = if p < k then l.getD p 0 else 0
theorem RowTo.start (l : List Int) (M : Nat) : RowTo l (List.replicate M 0) M 0 := ⟨List.length_replicate, fun p hp => by
  rw [if_neg (by omega), List.getD_eq_getElem?_getD]; simp [hp]⟩
theorem RowTo.next {l o : List Int} {M k : Nat} (h : RowTo l o M k) (hk : k < M) : RowTo l (o.set k (l.getD k 0)) M (k + 1) := by
  refine ⟨by rw [List.length_set]; exact h.1, fun p hp => ?_⟩
  rw [getD_set2 (by rw [h.1]; exact hp), h.2 p hp]
  by_cases e : k = p
  · subst e; rw [if_pos rfl, if_pos (by omega)]
  · rw [if_neg e]
    by_cases h2 : p < k
    · rw [if_pos h2, if_pos (by omega)]
    · rw [if_neg h2, if_neg (by omega)]
theorem RowTo.done {l o : List Int} {M : Nat} (h : RowTo l o M l.length) (hl : l.length ≤ M) : o = l ++ List.replicate (M - l.length) 0 := by
  apply List.ext_getElem
  · rw [List.length_append, List.length_replicate, h.1]; omega
  · intro i h1 h2
    have := h.2 i (by rw [← h.1]; exact h1)
    rw [List.getD_eq_getElem?_getD, List.getElem?_eq_getElem h1] at this
    simp only [Option.getD_some] at this
    rw [this, List.getElem_append]
    split
    · rename_i hi
      rw [List.getD_eq_getElem?_getD, List.getElem?_eq_getElem hi]; rfl
    · rename_i hi
      simp
theorem row_put64 {w : World} {g : Nat} {t : TypeId} {o : List Int} (h : Row w g t (o.map (Value.int .i64))) (i : Nat) (d : Int) : Row (w.setCell ⟨g, i, none⟩ (.int .i64 d)) g t ((o.set i d).map (Value.int .i64)) := by
  rw [List.map_set]; exact h.set i _

theorem getD_map64 {l : List Int} {i : Nat} (h : i < l.length) : (l.map (Value.int .i64))[i]? = some (.int .i64 (l.getD i 0)) := by simp [h]
theorem byte_in {l : List Int} (h : Byt l) (k : Nat) : 0 ≤ l.getD k 0 ∧ l.getD k 0 ≤ 255 := by
  rw [List.getD_eq_getElem?_getD]; exact byte_at h k
theorem owns_cap {w : World} {base : Nat} {e : TypeId} {size : Nat} {a : Option Addr} {n c : Nat} {xs : List Value} (h : w.ownsRow base e size (.slice a n c) n xs) : c ≤ 9223372036854775807 := by
  rcases h.2 with ⟨h, _⟩ | ⟨g, cap, cur, hv, _, _, _, hm', _⟩
  · simp only [Value.slice.injEq] at h; omega
  · simp only [Value.slice.injEq] at hv; unfold maxLen at hm'; omega

def rowL (l : List Int) (M : Nat) : List Int := l ++ List.replicate (M - l.length) 0

theorem r_row {a : Option Addr} {n c N : Nat} {l : List Int} {w : World} (h : SlAt w a n c l) (hm : n ≤ 100000) (hN : N ≤ 100000) :
    Calls Try.prog 37 #[.slice a n c, .int .i64 N] w fun e w' => ∃ g M, e = .returned (.slice (some ⟨g, 0, none⟩) M M) ∧ M = max N n ∧ Row w' g 3 ((rowL l M).map (Value.int .i64)) ∧ w.heap.size ≤ g ∧ Below w.heap.size w w' := by
  have HS := Lib.hid h
  have HL := Lib.hid h.len
  clear h
  rcases Nat.lt_trichotomy N n with hmx | hmx | hmx
  · have hx1 : ((n : Int) < N) = False := eq_false (by omega)
    have hx2 : (n < N) = False := eq_false (by omega)
    have hx3 : ((N : Int) < n) = True := eq_true (by omega)
    have hx4 : (N < n) = True := eq_true (by omega)
    obtain ⟨M, hM⟩ : ∃ M, M = max N n := ⟨_, rfl⟩
    have hMn : M = n := by omega
    have HM := Lib.hid hM
    rw [← hM]
    subst hMn
    clear hM hmx
    go_enter Try.func37, Try.ntmps37
    go_wp2_with (at_make; refine wpList_mk rfl _ _ 54 rfl 3 (.int .i64 0) 8 Try.underlying54 inf_i64L rfl .i64 .i64 _ _ M rfl rfl rfl rfl (by omega) (by unfold maxLen; omega) ?_)
    intro w1 row1 upd1
    have HB1 := Lib.hid (upd1.below (Nat.le_refl _) (by simp))
    obtain ⟨g, hg⟩ : ∃ g, g = w.heap.size := ⟨_, rfl⟩
    rw [← hg] at row1 ⊢
    have HRW := Lib.hid row1
    have HG := Lib.hid hg
    clear row1 upd1 hg hx1 hx2 hx3 hx4
    go_wp2
    go_loopw [6] (fun i wr => ∃ (k : Nat) (o : List Int), k ≤ M ∧ i = .int .i64 k ∧ Hid (Row wr g 3 (o.map (Value.int .i64))) ∧ Hid (RowTo l o M k) ∧ Hid (Below w.heap.size w wr)) (fun i _ => M - (intOf i).toNat)
    case atStart =>
      refine ⟨0, List.replicate M 0, Nat.zero_le _, rfl, ?_, RowTo.start _ _, HB1.out⟩
      show Row _ _ _ _
      rw [List.map_replicate]; exact HRW.out
    case round =>
      obtain ⟨k, o, hk, rfl, hrow, hto, hbel⟩ := hrel
      by_cases hkn : k < M
      · have hki : (k : Int) < (M : Int) := by omega
        obtain ⟨b0, o0, rfl, _, hc0⟩ := (HS.out.rd.below hbel.out).at (by simp; have := HL.out; omega)
        have k0 := hc0 k _ (getD_map8 (by have := HL.out; omega))
        have hxb := byte_in HS.out.byt k
        have HNX := Lib.hid (hto.out.next (show k < M by omega))
        obtain ⟨old, cg⟩ : ∃ old, wr.cell? ⟨g, k, none⟩ = some old := ⟨_, hrow.out.cell (List.getElem?_eq_getElem (by rw [List.length_map, hto.out.1]; omega))⟩
        have fg := hrow.out.free k
        have HP := Lib.hid (row_put64 hrow.out k (l.getD k 0))
        have HBB := Lib.hid (hbel.out.setCell (p := ⟨g, k, none⟩) (by show w.heap.size ≤ g; have := HG.out; omega) (.int .i64 (l.getD k 0)))
        clear hc0
        generalize l.getD k 0 = x at *
        go_wp2
        go_roundw
        case rel => exact ⟨k + 1, o.set k x, by omega, by go_num, HP.out, HNX.out, HBB.out⟩
        case measure => simp [intOf]; omega
      · have hki : ((k : Int) < (M : Int)) = False := eq_false (by omega)
        have hkn2 : (k < M) = False := eq_false hkn
        have hke : k = M := by omega
        have HD := Lib.hid (show o = rowL l M from by
          have h := hto.out
          rw [show k = l.length from by rw [hke]; exact HL.out] at h
          exact h.done (by have := HL.out; omega))
        clear hkn hke
        go_wp2
        go_ret
        exact ⟨g, M, rfl, rfl, by rw [← HD.out]; exact hrow.out, Nat.le_of_eq HG.out.symm, hbel.out⟩
  · subst hmx
    have hx1 : ((N : Int) < N) = False := eq_false (by omega)
    have hx2 : (N < N) = False := eq_false (by omega)
    have hx3 := True.intro
    have hx4 := True.intro
    obtain ⟨M, hM⟩ : ∃ M, M = max N N := ⟨_, rfl⟩
    have hMn : M = N := by omega
    have HM := Lib.hid hM
    rw [← hM]
    subst hMn
    clear hM
    go_enter Try.func37, Try.ntmps37
    go_wp2_with (at_make; refine wpList_mk rfl _ _ 54 rfl 3 (.int .i64 0) 8 Try.underlying54 inf_i64L rfl .i64 .i64 _ _ M rfl rfl rfl rfl (by omega) (by unfold maxLen; omega) ?_)
    intro w1 row1 upd1
    have HB1 := Lib.hid (upd1.below (Nat.le_refl _) (by simp))
    obtain ⟨g, hg⟩ : ∃ g, g = w.heap.size := ⟨_, rfl⟩
    rw [← hg] at row1 ⊢
    have HRW := Lib.hid row1
    have HG := Lib.hid hg
    clear row1 upd1 hg hx1 hx2 hx3 hx4
    go_wp2
    go_loopw [6] (fun i wr => ∃ (k : Nat) (o : List Int), k ≤ M ∧ i = .int .i64 k ∧ Hid (Row wr g 3 (o.map (Value.int .i64))) ∧ Hid (RowTo l o M k) ∧ Hid (Below w.heap.size w wr)) (fun i _ => M - (intOf i).toNat)
    case atStart =>
      refine ⟨0, List.replicate M 0, Nat.zero_le _, rfl, ?_, RowTo.start _ _, HB1.out⟩
      show Row _ _ _ _
      rw [List.map_replicate]; exact HRW.out
    case round =>
      obtain ⟨k, o, hk, rfl, hrow, hto, hbel⟩ := hrel
      by_cases hkn : k < M
      · have hki : (k : Int) < (M : Int) := by omega
        obtain ⟨b0, o0, rfl, _, hc0⟩ := (HS.out.rd.below hbel.out).at (by simp; have := HL.out; omega)
        have k0 := hc0 k _ (getD_map8 (by have := HL.out; omega))
        have hxb := byte_in HS.out.byt k
        have HNX := Lib.hid (hto.out.next (show k < M by omega))
        obtain ⟨old, cg⟩ : ∃ old, wr.cell? ⟨g, k, none⟩ = some old := ⟨_, hrow.out.cell (List.getElem?_eq_getElem (by rw [List.length_map, hto.out.1]; omega))⟩
        have fg := hrow.out.free k
        have HP := Lib.hid (row_put64 hrow.out k (l.getD k 0))
        have HBB := Lib.hid (hbel.out.setCell (p := ⟨g, k, none⟩) (by show w.heap.size ≤ g; have := HG.out; omega) (.int .i64 (l.getD k 0)))
        clear hc0
        generalize l.getD k 0 = x at *
        go_wp2
        go_roundw
        case rel => exact ⟨k + 1, o.set k x, by omega, by go_num, HP.out, HNX.out, HBB.out⟩
        case measure => simp [intOf]; omega
      · have hki : ((k : Int) < (M : Int)) = False := eq_false (by omega)
        have hkn2 : (k < M) = False := eq_false hkn
        have hke : k = M := by omega
        have HD := Lib.hid (show o = rowL l M from by
          have h := hto.out
          rw [show k = l.length from by rw [hke]; exact HL.out] at h
          exact h.done (by have := HL.out; omega))
        clear hkn hke
        go_wp2
        go_ret
        exact ⟨g, M, rfl, rfl, by rw [← HD.out]; exact hrow.out, Nat.le_of_eq HG.out.symm, hbel.out⟩
  · have hx1 : ((n : Int) < N) = True := eq_true (by omega)
    have hx2 : (n < N) = True := eq_true (by omega)
    have hx3 : ((N : Int) < n) = False := eq_false (by omega)
    have hx4 : (N < n) = False := eq_false (by omega)
    obtain ⟨M, hM⟩ : ∃ M, M = max N n := ⟨_, rfl⟩
    have hMn : M = N := by omega
    have HM := Lib.hid hM
    rw [← hM]
    subst hMn
    have hle : n ≤ M := by omega
    clear hM hmx
    go_enter Try.func37, Try.ntmps37
    go_wp2_with (at_make; refine wpList_mk rfl _ _ 54 rfl 3 (.int .i64 0) 8 Try.underlying54 inf_i64L rfl .i64 .i64 _ _ M rfl rfl rfl rfl (by omega) (by unfold maxLen; omega) ?_)
    intro w1 row1 upd1
    have HB1 := Lib.hid (upd1.below (Nat.le_refl _) (by simp))
    obtain ⟨g, hg⟩ : ∃ g, g = w.heap.size := ⟨_, rfl⟩
    rw [← hg] at row1 ⊢
    have HRW := Lib.hid row1
    have HG := Lib.hid hg
    clear row1 upd1 hg hx1 hx2 hx3 hx4
    go_wp2
    go_loopw [6] (fun i wr => ∃ (k : Nat) (o : List Int), k ≤ n ∧ i = .int .i64 k ∧ Hid (Row wr g 3 (o.map (Value.int .i64))) ∧ Hid (RowTo l o M k) ∧ Hid (Below w.heap.size w wr)) (fun i _ => n - (intOf i).toNat)
    case atStart =>
      refine ⟨0, List.replicate M 0, Nat.zero_le _, rfl, ?_, RowTo.start _ _, HB1.out⟩
      show Row _ _ _ _
      rw [List.map_replicate]; exact HRW.out
    case round =>
      obtain ⟨k, o, hk, rfl, hrow, hto, hbel⟩ := hrel
      by_cases hkn : k < n
      · have hki : (k : Int) < (n : Int) := by omega
        obtain ⟨b0, o0, rfl, _, hc0⟩ := (HS.out.rd.below hbel.out).at (by simp; have := HL.out; omega)
        have k0 := hc0 k _ (getD_map8 (by have := HL.out; omega))
        have hxb := byte_in HS.out.byt k
        have HNX := Lib.hid (hto.out.next (show k < M by omega))
        obtain ⟨old, cg⟩ : ∃ old, wr.cell? ⟨g, k, none⟩ = some old := ⟨_, hrow.out.cell (List.getElem?_eq_getElem (by rw [List.length_map, hto.out.1]; omega))⟩
        have fg := hrow.out.free k
        have HP := Lib.hid (row_put64 hrow.out k (l.getD k 0))
        have HBB := Lib.hid (hbel.out.setCell (p := ⟨g, k, none⟩) (by show w.heap.size ≤ g; have := HG.out; omega) (.int .i64 (l.getD k 0)))
        clear hc0
        generalize l.getD k 0 = x at *
        go_wp2
        go_roundw
        case rel => exact ⟨k + 1, o.set k x, by omega, by go_num, HP.out, HNX.out, HBB.out⟩
        case measure => simp [intOf]; omega
      · have hki : ((k : Int) < (n : Int)) = False := eq_false (by omega)
        have hkn2 : (k < n) = False := eq_false hkn
        have hke : k = n := by omega
        have HD := Lib.hid (show o = rowL l M from by
          have h := hto.out
          rw [show k = l.length from by rw [hke]; exact HL.out] at h
          exact h.done (by have := HL.out; omega))
        clear hkn hke
        go_wp2
        go_ret
        exact ⟨g, M, rfl, rfl, by rw [← HD.out]; exact hrow.out, Nat.le_of_eq HG.out.symm, hbel.out⟩

/-- Bounds of what is carried. -/
def Phase (n k : Nat) (q : Int) : Prop := n ≤ k → ∃ m, k + m = n + 7 ∧ q < (2 ^ (8 * m) : Nat)
theorem Phase.next {n k : Nat} {q T : Int} (h : Phase n k q) (hq : q ≤ 281474976710656) (hT : T ≤ q + 1099511627776) (hT2 : n ≤ k → T = q ∧ 0 < q) : Phase n (k + 1) (T / 256) := by
  intro hk
  by_cases h1 : n ≤ k
  · obtain ⟨m, hm, hb⟩ := h h1
    obtain ⟨hTq, hq0⟩ := hT2 h1
    cases m with
    | zero => simp at hb; omega
    | succ m =>
      refine ⟨m, by omega, ?_⟩
      rw [show 8 * (m + 1) = 8 * m + 8 from by omega, Nat.pow_add] at hb
      rw [hTq]
      generalize 2 ^ (8 * m) = z at *
      simp only [Int.natCast_mul, show ((2 ^ 8 : Nat) : Int) = 256 from rfl] at hb
      omega
  · refine ⟨7, by omega, ?_⟩
    simp only [show ((2 ^ (8 * 7) : Nat) : Int) = 72057594037927936 from rfl]
    omega
theorem Phase.room {n k : Nat} {q : Int} (h : Phase n k q) (hq0 : n ≤ k → 0 < q) (hn : k ≤ n + 7) : k + 1 ≤ n + 7 := by
  by_cases h1 : n ≤ k
  · obtain ⟨m, hm, hb⟩ := h h1
    cases m with
    | zero => have := hq0 h1; simp at hb; omega
    | succ m => omega
  · omega

theorem tmod_neg {T D : Int} (hT : T < 0) (hD : T % 256 = D) (h0 : D ≠ 0) : T.tmod 256 = D - 256 := by
  have h1 := Int.tmod_eq_emod (a := T) (b := 256)
  rw [if_neg (by
    rintro (h | h)
    · omega
    · exact h0 (by rw [← hD]; exact Int.emod_eq_zero_of_dvd h))] at h1
  rw [h1, hD]
  simp
theorem tmod_zero {T D : Int} (hD : T % 256 = D) (h0 : D = 0) : T.tmod 256 = 0 := Int.tmod_eq_zero_of_dvd (Int.dvd_of_emod_eq_zero (by omega))
theorem tdiv_all {T D : Int} (hD : T % 256 = D) : (T - D).tdiv 256 = T / 256 := by
  rw [Int.tdiv_eq_ediv_of_dvd (Int.dvd_of_emod_eq_zero (by omega))]
  omega

theorem r_settle {a : Option Addr} {n c : Nat} {l : List Int} {w : World} (e0 : n = l.length) (h : Reads w a c (l.map (Value.int .i64))) (hb : ∀ x ∈ l, -1099511627776 ≤ x ∧ x ≤ 1099511627776) (hm : n ≤ 100000) (h0 : 0 ≤ valZ l) :
    Calls Try.prog 38 #[.slice a n c] w (NumPost w (valZ l).toNat) := by
  have HR := Lib.hid h
  have HB := Lib.hid hb
  have HE := Lib.hid e0
  have HZ := Lib.hid h0
  clear h hb e0 h0
  go_enter Try.func38, Try.ntmps38
  go_wp2
  go_loopw [3, 4, 5] (fun v cy i wr => ∃ (k : Nat) (q : Int) (o : List Int), cy = .int .i64 q ∧ i = .int .i64 k ∧ k ≤ n + 7 ∧ -281474976710656 ≤ q ∧ q ≤ 281474976710656 ∧ Hid (k = o.length) ∧ Hid (Phase n k q) ∧ Hid (SetAt l o q) ∧ Hid (wr.ownsRow w.heap.size 5 1 v k (o.map (Value.int .u8))) ∧ Hid (Below w.heap.size w wr)) (fun _ cy i _ => (n + 7 - (intOf i).toNat))
  case atStart => exact ⟨0, 0, [], rfl, rfl, by omega, by omega, by omega, rfl, (fun h => ⟨7, by omega, by simp⟩ : Phase n 0 0), ⟨by simp [valI, valZ], Byt.nil⟩, World.ownsRow_nil _ _ _ _, Below.refl _ _⟩
  case round =>
    obtain ⟨k, q, o, rfl, rfl, hk7, hq1, hq2, hko, hph, hset, hown, hbel⟩ := hrel
    by_cases hkn : k < n
    · obtain ⟨x, hx⟩ : ∃ x, x = l.getD k 0 := ⟨_, rfl⟩
      have hxb : -1099511627776 ≤ x ∧ x ≤ 1099511627776 := by
        rw [hx, List.getD_eq_getElem?_getD, List.getElem?_eq_getElem (by have := HE.out; omega)]
        exact HB.out _ (List.getElem_mem _)
      obtain ⟨b0, o0, rfl, _, hc0⟩ := (HR.out.below hbel.out).at (by simp; have := HE.out; omega)
      have k0 := hc0 k _ (getD_map64 (by have := HE.out; omega))
      rw [← hx] at k0
      obtain ⟨T, hT⟩ : ∃ T, T = q + x := ⟨_, rfl⟩
      have hTr : q + x = T := hT.symm
      have hki : (k : Int) < (n : Int) := by omega
      have HTX := Lib.hid (show T = q + l.getD o.length 0 from by rw [hT, hx, hko.out])
      have HPN := Lib.hid (hph.out.next (T := T) hq2 (by omega) (fun h => by omega))
      have HRM := Lib.hid (show k + 1 ≤ n + 7 from by omega)
      have hTb : -282574488338432 ≤ T ∧ T ≤ 282574488338432 := by omega
      clear hc0 hph hx hT
      obtain ⟨D, hD⟩ : ∃ D, D = T % 256 := ⟨_, rfl⟩
      have hDm : T % 256 = D := hD.symm
      have hDb : 0 ≤ D ∧ D ≤ 255 := by omega
      obtain ⟨Qv, hQv⟩ : ∃ D, D = T / 256 := ⟨_, rfl⟩
      have htd : (T - D).tdiv 256 = Qv := by rw [hQv]; exact tdiv_all hDm
      have htd2 : (T - D) / 256 = Qv := by omega
      have hTD : -282574488338432 - 255 ≤ T - D ∧ T - D ≤ 282574488338432 := by omega
      have hQb : -281474976710656 ≤ Qv ∧ Qv ≤ 281474976710656 := by omega
      have HNX := Lib.hid (hset.out.next)
      rw [← HTX.out, ← hD, ← hQv] at HNX
      rw [← hQv] at HPN
      have HKO := Lib.hid (show k + 1 = (o ++ [D]).length from by rw [List.length_append, ← hko.out]; rfl)
      clear hset hD hko
      by_cases hneg : T < 0
      · by_cases hD0 : D = 0
        · have htm : T.tmod 256 = D := by rw [tmod_zero hDm hD0, hD0]
          have hng : (D < 0) = False := eq_false (by omega)
          clear hDm hQv hD0
          go_wp2_with (at_builtin; refine wpList_app rfl _ _ 22 rfl w.heap.size 5 (.int .u8 0) 1 1 Try.underlying22 inf_u8L rfl (by decide) _ _ _ rfl (hown.out.alloc _) _ 1 1 [.int .u8 D] rfl rfl (Reads.madeAt rfl) (by simp [Value.oneCell']) (by unfold maxLen; omega) (by omega) (by have := hbel.out.size; simp; omega) ?_)
          intro v' w3 own3 gr3
          have hlo := hown.out.lt
          have HB3 := Lib.hid ((hbel.out.alloc hbel.out.size _).grown gr3 (by have := hbel.out.size; simp; omega) (fun k hk => (hlo k hk).1))
          have HO3 : Hid (w3.ownsRow w.heap.size 5 1 v' (k + 1) ((o ++ [D]).map (Value.int .u8))) := by
            rw [List.map_append]
            exact own3
          clear gr3 hlo own3 hown hbel
          go_wp2
          go_roundw
          case rel => exact ⟨k + 1, Qv, o ++ [D], rfl, by go_num, HRM.out, hQb.1, hQb.2, HKO.out, HPN.out, HNX.out, HO3.out, HB3.out⟩
          case measure => have := HRM.out; simp [intOf]; omega
        · have htm : T.tmod 256 = D - 256 := tmod_neg hneg hDm hD0
          have hng : (D - 256 < 0) = True := eq_true (by omega)
          have had : D - 256 + 256 = D := by omega
          clear hDm hQv
          go_wp2_with (at_builtin; refine wpList_app rfl _ _ 22 rfl w.heap.size 5 (.int .u8 0) 1 1 Try.underlying22 inf_u8L rfl (by decide) _ _ _ rfl (hown.out.alloc _) _ 1 1 [.int .u8 D] rfl rfl (Reads.madeAt rfl) (by simp [Value.oneCell']) (by unfold maxLen; omega) (by omega) (by have := hbel.out.size; simp; omega) ?_)
          intro v' w3 own3 gr3
          have hlo := hown.out.lt
          have HB3 := Lib.hid ((hbel.out.alloc hbel.out.size _).grown gr3 (by have := hbel.out.size; simp; omega) (fun k hk => (hlo k hk).1))
          have HO3 : Hid (w3.ownsRow w.heap.size 5 1 v' (k + 1) ((o ++ [D]).map (Value.int .u8))) := by
            rw [List.map_append]
            exact own3
          clear gr3 hlo own3 hown hbel
          go_wp2
          go_roundw
          case rel => exact ⟨k + 1, Qv, o ++ [D], rfl, by go_num, HRM.out, hQb.1, hQb.2, HKO.out, HPN.out, HNX.out, HO3.out, HB3.out⟩
          case measure => have := HRM.out; simp [intOf]; omega
      · have htm : T.tmod 256 = D := by rw [Int.tmod_eq_emod_of_nonneg (by omega)]; exact hDm
        have hng : (D < 0) = False := eq_false (by omega)
        have hT0 : 0 ≤ T := by omega
        clear hQv hneg
        go_wp2_with (at_builtin; refine wpList_app rfl _ _ 22 rfl w.heap.size 5 (.int .u8 0) 1 1 Try.underlying22 inf_u8L rfl (by decide) _ _ _ rfl (hown.out.alloc _) _ 1 1 [.int .u8 D] rfl rfl (Reads.madeAt rfl) (by simp [Value.oneCell']) (by unfold maxLen; omega) (by omega) (by have := hbel.out.size; simp; omega) ?_)
        intro v' w3 own3 gr3
        have hlo := hown.out.lt
        have HB3 := Lib.hid ((hbel.out.alloc hbel.out.size _).grown gr3 (by have := hbel.out.size; simp; omega) (fun k hk => (hlo k hk).1))
        have HO3 : Hid (w3.ownsRow w.heap.size 5 1 v' (k + 1) ((o ++ [D]).map (Value.int .u8))) := by
          rw [List.map_append]
          exact own3
        clear gr3 hlo own3 hown hbel
        go_wp2
        go_roundw
        case rel => exact ⟨k + 1, Qv, o ++ [D], rfl, by go_num, HRM.out, hQb.1, hQb.2, HKO.out, HPN.out, HNX.out, HO3.out, HB3.out⟩
        case measure => have := HRM.out; simp [intOf]; omega
    · have hki : ((k : Int) < (n : Int)) = False := eq_false (by omega)
      have hkn2 : (k < n) = False := eq_false hkn
      by_cases hq0 : 0 < q
      · obtain ⟨T, hT⟩ : ∃ T, T = q := ⟨_, rfl⟩
        have HTX := Lib.hid (show T = q + l.getD o.length 0 from by rw [hT, List.getD_eq_getElem?_getD, List.getElem?_eq_none (by have := HE.out; have := hko.out; omega)]; simp)
        have HPN := Lib.hid (hph.out.next (T := T) hq2 (by omega) (fun h => ⟨hT, hq0⟩))
        have HRM := Lib.hid (hph.out.room (fun _ => hq0) hk7)
        have hTb : -282574488338432 ≤ T ∧ T ≤ 282574488338432 := by omega
        clear hph hkn
        subst hT
        obtain ⟨D, hD⟩ : ∃ D, D = T % 256 := ⟨_, rfl⟩
        have hDm : T % 256 = D := hD.symm
        have hDb : 0 ≤ D ∧ D ≤ 255 := by omega
        obtain ⟨Qv, hQv⟩ : ∃ D, D = T / 256 := ⟨_, rfl⟩
        have htd : (T - D).tdiv 256 = Qv := by rw [hQv]; exact tdiv_all hDm
        have htd2 : (T - D) / 256 = Qv := by omega
        have hTD : -282574488338432 - 255 ≤ T - D ∧ T - D ≤ 282574488338432 := by omega
        have hQb : -281474976710656 ≤ Qv ∧ Qv ≤ 281474976710656 := by omega
        have HNX := Lib.hid (hset.out.next)
        rw [← HTX.out, ← hD, ← hQv] at HNX
        rw [← hQv] at HPN
        have HKO := Lib.hid (show k + 1 = (o ++ [D]).length from by rw [List.length_append, ← hko.out]; rfl)
        clear hset hD hko
        have htm : T.tmod 256 = D := by rw [Int.tmod_eq_emod_of_nonneg (by omega)]; exact hDm
        have hng : (D < 0) = False := eq_false (by omega)
        have hT0 : 0 ≤ T := by omega
        clear hQv
        go_wp2_with (at_builtin; refine wpList_app rfl _ _ 22 rfl w.heap.size 5 (.int .u8 0) 1 1 Try.underlying22 inf_u8L rfl (by decide) _ _ _ rfl (hown.out.alloc _) _ 1 1 [.int .u8 D] rfl rfl (Reads.madeAt rfl) (by simp [Value.oneCell']) (by unfold maxLen; omega) (by omega) (by have := hbel.out.size; simp; omega) ?_)
        intro v' w3 own3 gr3
        have hlo := hown.out.lt
        have HB3 := Lib.hid ((hbel.out.alloc hbel.out.size _).grown gr3 (by have := hbel.out.size; simp; omega) (fun k hk => (hlo k hk).1))
        have HO3 : Hid (w3.ownsRow w.heap.size 5 1 v' (k + 1) ((o ++ [D]).map (Value.int .u8))) := by
          rw [List.map_append]
          exact own3
        clear gr3 hlo own3 hown hbel
        go_wp2
        go_roundw
        case rel => exact ⟨k + 1, Qv, o ++ [D], rfl, by go_num, HRM.out, hQb.1, hQb.2, HKO.out, HPN.out, HNX.out, HO3.out, HB3.out⟩
        case measure => have := HRM.out; simp [intOf]; omega
      · have hqf : (0 < q) = False := eq_false hq0
        have hqf2 : (q > 0) = False := eq_false hq0
        have HD := Lib.hid (hset.out.done (by have := HE.out; have := hko.out; omega) (by omega) HZ.out)
        obtain ⟨ao, co, rfl, hro, hco, hfr⟩ := owns_reads hown.out
        have HBA := Lib.hid (r_bare (w := wr) (a := ao) (n := k) (c := co) (l := o) ⟨hko.out, hro, hset.out.2, hco, owns_cap hown.out⟩ (by omega))
        have HFR := Lib.hid (fun x hx => (hfr x hx).1)
        clear hkn hq0 hro hco hfr hown hph
        go_wp2_with fail
        refine HBA.out.mono ?_
        rintro e w' ⟨⟨kk, rfl, hq⟩, rfl⟩
        have HQ := Lib.hid hq
        clear hq
        go_wp2
        go_ret
        exact ⟨ao, kk, co, rfl, by rw [← HD.out.2]; simpa using HQ.out, HFR.out, hbel.out⟩

end Go.Proofs.Ytdafncaehjipbaa
