/-
  The walk of the law DiskUsed.
-/
import Derived.Test.YtbmenldopeplcaaDiskLaws
namespace Go.Proofs.Ytbmenldopeplcaa
open Go.RowKit Go.ChangeShapes Go.ChangeAt
set_option linter.unusedVariables false

set_option maxHeartbeats 1000000

theorem inf_int : (Try.prog.info? 3).map (fun i => (i.zero, i.size, i.bytes)) = some (some (.int .i64 0), 1, 8) := by kernel_rfl
theorem inf_bool : (Try.prog.info? 4).map (fun i => (i.zero, i.size, i.bytes)) = some (some (.bool false), 1, 1) := by kernel_rfl

/-- 0, 1, .., n - 1. -/
def upto (n : Nat) : List Int := (List.range n).map (fun (j : Nat) => (j : Int))
theorem upto_len (n : Nat) : (upto n).length = n := by simp [upto]
theorem upto_succ (n : Nat) : upto (n + 1) = upto n ++ [(n : Int)] := by simp [upto, List.range_succ]
theorem upto_in (n : Nat) : inN n (upto n) := by
  intro x hx
  simp [upto] at hx
  obtain ⟨j, hj, rfl⟩ := hx
  omega

theorem clearAll_append (bs l m : List Int) : clearAll bs (l ++ m) = clearAll (clearAll bs l) m := by simp [clearAll]

theorem clear_upto {bs : List Int} {n : Nat} (hb : bs.length = 64 * n) : ∀ k, k ≤ n → ∀ j, j < k → sector (clearAll bs (upto k)) j = List.replicate 64 0 := by
  intro k
  induction k with
  | zero => intro _ j hj; omega
  | succ k ih =>
    intro hk j hj
    have hl : (clearAll bs (upto k)).length = 64 * n := clearAll_len hb (fun x hx => by
      have := upto_in k x hx
      omega)
    rw [upto_succ, clearAll_append]
    show sector (splice (clearAll bs (upto k)) (64 * (k : Int).toNat) (List.replicate 64 0)) j = _
    rw [Int.toNat_natCast]
    by_cases h : j = k
    · subst h
      exact sector_splice hl (by omega) (by simp)
    · rw [sector_other hl (by omega) (by simp) h]
      exact ih (by omega) j (by omega)

theorem used_of_zero {bs : List Int} {k : Nat} (h : ∀ j, j < k → sector bs j = List.replicate 64 0) : usedN bs k = 0 := by
  induction k with
  | zero => rfl
  | succ k ih =>
    rw [usedN_succ, ih (fun j hj => h j (by omega)), h k (by omega)]
    decide

theorem some1_filled {x : Int} (h0 : 0 ≤ x) (h1 : x ≤ 1) : some1 (filled [0, x]) = decide (x = 1) := by
  have : x = 0 ∨ x = 1 := by omega
  rcases this with rfl | rfl <;> decide

theorem used_step {bs : List Int} {ub : List Bool} {N t X : Nat} (hb : bs.length = 64 * N) (ht : t < N) (hu : ub.length = N) (hX : X ≤ 255) (h : ∀ j, j < N → some1 (sector bs j) = ub.getD j false) :
    ∀ j, j < N → some1 (sector (splice bs (64 * t) (filled [0, (X : Int) / 128])) j) = (ub.set t (decide ((128 : Int) ≤ (X : Int)))).getD j false := by
  intro j hj
  by_cases hjt : j = t
  · subst hjt
    rw [sector_splice hb ht (filled_len (by simp)), some1_filled (by omega) (by omega), List.getD_eq_getElem?_getD, List.getElem?_set_self (by omega)]
    simp only [Option.getD_some]
    rw [Bool.eq_iff_iff, decide_eq_true_iff, decide_eq_true_iff]
    omega
  · rw [sector_other hb ht (filled_len (by simp)) hjt, List.getD_eq_getElem?_getD, List.getElem?_set_ne (Ne.symm hjt), ← List.getD_eq_getElem?_getD]
    exact h j hj

theorem law_DiskUsed (n : Int) (a1 : Option Addr) (len1 cap1 : Nat) (z1 : List Int) (w : World) (w0 : (Lit.int .u8 n).wf = true) (w1 : Came .u8 w a1 len1 cap1 z1) :
    Calls Try.prog 6 #[.int .u8 n, .slice a1 len1 cap1] w fun e w' => e = .returned (.bool true) ∧ Below w.heap.size w w' := by
  obtain ⟨b0, b1⟩ := bounds_u8 w0
  obtain ⟨l, em, hc1, hm1, hr1, hw1⟩ := w1.reads
  have hl : Byt l := fun x hx => bounds_u8 (hw1 x hx)
  clear w0 w1 hw1
  unfold maxLen at hm1
  obtain ⟨N, rfl⟩ := Int.eq_ofNat_of_zero_le b0
  have EM := Lib.hid em
  have HL := Lib.hid hl
  have HR := Lib.hid hr1
  clear em hl hr1
  by_cases h0 : N = 0 ∨ 60 < len1
  · by_cases h1 : N = 0
    · subst h1
      clear h0
      go_enter Try.func6, Try.ntmps6
      go_wp2_with (go_at_call 13; refine (c_known03 _).mono ?_; rintro e w' ⟨rfl, hbel⟩)
      go_ret
      exact ⟨rfl, hbel⟩
    · have h2 : 60 < len1 := by omega
      have h3 : ((N : Int) == 0) = false := by simp; omega
      clear h0
      go_enter Try.func6, Try.ntmps6
      go_wp2_with (go_at_call 13; refine (c_known03 _).mono ?_; rintro e w' ⟨rfl, hbel⟩)
      go_ret
      exact ⟨rfl, hbel⟩
  · have h1 : 1 ≤ N := by omega
    have h2 : len1 ≤ 60 := by omega
    have h3 : ((N : Int) == 0) = false := by simp; omega
    have hN : N ≤ 255 := by omega
    clear h0
    go_enter Try.func6, Try.ntmps6
    go_wp2_with fail
    refine (c_NewYes N _ (by omega)).mono ?_
    rintro e w1 ⟨d, g, rfl, hd, hg, D1, U1⟩
    have HD1 := Lib.hid D1
    have HU1 := Lib.hid U1
    have hd1 := D1.head.lt
    have hg1 := D1.data.lt
    clear D1 U1
    go_wp2_with fail
    go_loopw [7, 8] (fun v i wr => ∃ k : Nat, k ≤ N ∧ i = .int .i64 k ∧ wr.ownsRow w1.heap.size 3 1 v k ((upto k).map (Value.int .i64)) ∧ Below w1.heap.size w1 wr) (fun _ i _ => N - (intOf i).toNat)
    case atStart => exact ⟨0, Nat.zero_le _, rfl, World.ownsRow_nil _ _ _ _, Below.refl _ _⟩
    case round =>
      obtain ⟨k, hk, rfl, hown, hbel⟩ := hrel
      have HO := Lib.hid hown
      have HB := Lib.hid hbel
      have hsz := hbel.size
      clear hown hbel
      by_cases hlt : k < N
      · go_wp2_with (at_builtin; refine wpList_app rfl _ _ 45 rfl w1.heap.size 3 (.int .i64 0) 1 8 Try.underlying45 inf_int rfl (by decide) _ _ _ rfl (HO.out.alloc _) _ 1 1 [.int .i64 k] rfl rfl (Reads.madeAt rfl) (by simp [Value.oneCell']) (by unfold maxLen; omega) (by omega) (by simp; omega) ?_)
        intro v' w2 own2 gr2
        have hlt' := HO.out.lt
        have HB2 := Lib.hid ((HB.out.alloc hsz _).grown gr2 (by simp; omega) (fun k hk => (hlt' k hk).1))
        have HO2 : Hid (w2.ownsRow w1.heap.size 3 1 v' (k + 1) ((upto (k + 1)).map (Value.int .i64))) := by
          rw [upto_succ, List.map_append]; exact own2
        clear own2 gr2 hlt'
        go_wp2
        go_roundw
        case rel => exact ⟨k + 1, by omega, by go_num, HO2.out, HB2.out⟩
        case measure => simp [intOf]; omega
      · obtain rfl : N = k := by omega
        go_wp2_with (at_make; refine wpList_mk rfl _ _ 46 rfl 4 (.bool false) 1 Try.underlying46 inf_bool rfl .i64 .i64 _ _ N rfl rfl rfl rfl (by omega) (by unfold maxLen; omega) ?_)
        intro w3 row3 U3
        obtain ⟨u, hu⟩ : ∃ u, u = wr.heap.size := ⟨_, rfl⟩
        rw [← hu] at row3
        have hud : d < u := by omega
        have hug : g < u := by omega
        have HT3 := Lib.hid ((HU1.out.trans (.of_below HB.out)).trans U3)
        have HD3 := Lib.hid ((HD1.out.keep (l := []) (.of_below HB.out) (by simp) (by simp)).keep U3 (by simp) (by simp))
        have HO3 := Lib.hid (U3.owns HO.out (by simp))
        have HOB := Lib.hid (fun k hk => (HO.out.lt k hk).2)
        have HRow := Lib.hid row3
        have HUU := Lib.hid hu
        rw [← hu]
        have hin : ∀ k ∈ [d, g, u], w.heap.size ≤ k := fun k hk => by
          simp at hk
          have := HU1.out.size
          rcases hk with rfl | rfl | rfl <;> omega
        have HIN := Lib.hid hin
        clear row3 U3 HO HB HD1 hu hin
        go_wp2_with fail
        go_loopw [10] (fun i wr => ∃ (k : Nat) (bs : List Int) (ub : List Bool), k ≤ len1 ∧ i = .int .i64 k ∧ Hid (DiskAt wr d g N 0 k bs) ∧ Hid (Row wr u 4 (ub.map Value.bool)) ∧ Hid (∀ j, j < N → some1 (sector bs j) = ub.getD j false) ∧ Hid (ub.length = N) ∧ Hid (Upd [d, g, u] w3 wr)) (fun i _ => len1 - (intOf i).toNat)
        case atStart => exact ⟨0, List.replicate (64 * N) 0, List.replicate N false, Nat.zero_le _, rfl, HD3.out, by have := HRow.out; rwa [← List.map_replicate] at this, fun j hj => by rw [sector_zeros hj]; simp [hj]; decide, by simp [Hid], Upd.refl _ _⟩
        case round =>
          obtain ⟨k, bs, ub, hk, rfl, HDr, HRr, HSr, HLr, HUr⟩ := hrel
          have HBr := Lib.hid (((HT3.out.mono (m := [d, g, u]) (by simp)).trans HUr.out).below (Nat.le_refl _) HIN.out)
          by_cases hlt : k < len1
          · have hlt2 : k < l.length := by have := EM.out; omega
            obtain ⟨b, off, rfl, hblt, hc⟩ := HR.out.at (by simp; omega)
            have hcell := (HBr.out.cell (p := ⟨b, off + k, none⟩) hblt).trans (hc k _ (getD_map8 hlt2))
            have hx := byt_getD8 HL.out k
            generalize l.getD k 0 = x at *
            obtain ⟨X, rfl⟩ := Int.eq_ofNat_of_zero_le hx.1
            have hX : X ≤ 255 := by omega
            have ht : X % N < N := Nat.mod_lt _ (by omega)
            have ht2 : ((X : Int) % (N : Int)) < (N : Int) := by omega
            clear hc hx
            go_wp2_with fail
            refine (c_Write d g N 0 k bs _ (HDr.out.keep (l := []) ((Upd.refl _ _).alloc _) (by simp) (by simp)) (by omega) (X % N) ht _ 2 2 [0, (X : Int) / 128] rfl (by intro y hy; simp at hy; rcases hy with rfl | rfl <;> omega) (Reads.madeAt (xs := [.int .u8 0, .int .u8 ((X : Int) / 128)]) rfl) (by omega)).mono ?_
            rintro e w4 ⟨rfl, D4, U4⟩
            have HD4 := Lib.hid D4
            have HU4 := Lib.hid (HUr.out.trans (((Upd.refl [d, g, u] _).alloc (.cells #[.int .u8 0, .int .u8 ((X : Int) / 128)] 5)).trans (U4.mono (m := [d, g, u]) (fun k hk => by simp at hk ⊢; rcases hk with h | h <;> simp [h]))))
            have HR4 := Lib.hid ((HRr.out.alloc (.cells #[.int .u8 0, .int .u8 ((X : Int) / 128)] 5)).keep U4 (by simp; omega))
            have hcell4 : w4.cell? ⟨b, off + k, none⟩ = some (.int .u8 X) := (World.cell?_of_block (w := wr.alloc (.cells #[.int .u8 0, .int .u8 ((X : Int) / 128)] 5)) (U4.block b (by have := HBr.out.size; simp; omega) (by
              simp
              constructor <;> intro h <;> omega))).trans (cellKeep (bAlloc (Below.refl _ _)) hcell)
            have hlu : X % N < (ub.map Value.bool).length := by rw [List.length_map, HLr.out]; exact ht
            have hcu : w4.cell? ⟨u, X % N, none⟩ = some (.bool (ub.getD (X % N) false)) := HR4.out.cell (by
              rw [List.getElem?_map, List.getElem?_eq_getElem (by simpa using hlu), List.getD_eq_getElem?_getD, List.getElem?_eq_getElem (by simpa using hlu)]; rfl)
            have hfu := HR4.out.free (X % N)
            have HSN := Lib.hid (used_step HDr.out.len ht HLr.out hX HSr.out)
            clear D4 U4 hcell hlu
            have HF := Lib.hid (show ∀ v, Upd [u] w4 (w4.setCell ⟨u, X % N, none⟩ v) from fun v => (Upd.refl _ _).setCell (p := ⟨u, X % N, none⟩) (by simp) _)
            have HN2 := Lib.hid (show d ∉ [u] ∧ g ∉ [u] from ⟨by simp; omega, by simp; omega⟩)
            go_wp2
            go_roundw
            case rel => exact ⟨k + 1, _, _, by omega, by go_num, HD4.out.keep (HF.out _) HN2.out.1 HN2.out.2, (by have := HR4.out.set (X % N) (Value.bool (decide ((128 : Int) ≤ (X : Int)))); rwa [← List.map_set] at this), HSN.out, (by have := HLr.out; simpa [Hid] using this), HU4.out.trans ((HF.out _).mono (by simp))⟩
            case measure => simp [intOf]; omega
          · obtain rfl : len1 = k := by omega
            clear hk hlt
            go_wp2
            go_loop [12, 13] (fun t i => ∃ k : Nat, k ≤ N ∧ i = .int .i64 k ∧ t = .int .i64 (usedN bs k)) (fun _ i => N - (intOf i).toNat)
            case atStart => exact ⟨0, Nat.zero_le _, rfl, rfl⟩
            case round =>
              obtain ⟨k, hk, rfl, rfl⟩ := hrel
              by_cases hlt : k < N
              · have hlu : k < ub.length := by rw [HLr.out]; exact hlt
                have hcu : wr.cell? ⟨u, k, none⟩ = some (.bool (some1 (sector bs k))) := HRr.out.cell (by
                  rw [HSr.out k hlt, List.getElem?_map, List.getElem?_eq_getElem hlu, List.getD_eq_getElem?_getD, List.getElem?_eq_getElem hlu]; rfl)
                have HS := Lib.hid (usedN_succ bs k)
                have hu := usedN_le bs k
                generalize usedN bs k = t at *
                cases hb : some1 (sector bs k)
                all_goals
                  rw [hb] at HS hcu
                  clear hb hlu
                  go_wp2
                  go_round
                  case rel => exact ⟨k + 1, by omega, by go_num, by rw [HS.out]; simp⟩
                  case measure => simp [intOf]; omega
              · obtain rfl : N = k := by omega
                have hsz3 : wr.heap.size ≤ wr.heap.size := Nat.le_refl _
                have HOw := Lib.hid (HUr.out.owns HO3.out (fun k hk hm => by
                  have h1 := HOB.out k hk
                  have h2 := (HO3.out.lt k hk).1
                  have h3 := HUU.out
                  simp at hm
                  rcases hm with rfl | rfl | rfl <;> omega))
                obtain ⟨av, cv, rfl, rdv, hcv, hav⟩ := owns_reads HOw.out
                have HRv := Lib.hid rdv
                have HAV := Lib.hid (show ∀ x, av = some x → x.block ≠ g from fun x hx h => by have := (hav x hx).1; omega)
                have hbl := HDr.out.len
                have HZ := Lib.hid (used_of_zero (k := N) (clear_upto (n := N) hbl N (Nat.le_refl _)))
                have HIn := Lib.hid (upto_in N)
                have HUL := Lib.hid (upto_len N)
                have HUS := Lib.hid (c_Used d g N 0 len1 bs wr HDr.out)
                have hun := usedN_le bs N
                clear rdv hav hbl
                go_wp2_with fail
                refine HUS.out.mono ?_
                rintro e w' ⟨rfl, rfl⟩
                go_wp2_with fail
                refine (c_Clear d g N 0 len1 bs _ HDr.out av N cv (upto N) HUL.out.symm HRv.out HAV.out HIn.out (by omega)).mono ?_
                rintro e w5 ⟨rfl, D5, U5⟩
                have HD5 := Lib.hid D5
                have HB5 := Lib.hid ((((HT3.out.mono (m := [d, g, u]) (by simp)).trans HUr.out).trans (U5.mono (m := [d, g, u]) (by simp))).below (Nat.le_refl _) HIN.out)
                have HUS5 := Lib.hid (c_Used d g N 0 len1 _ w5 HD5.out)
                rw [HZ.out] at HUS5
                clear D5 U5
                go_wp2_with fail
                refine HUS5.out.mono ?_
                rintro e w' ⟨rfl, rfl⟩
                go_wp2_with (go_at_call 13; refine (c_known03 _).mono ?_; rintro e w' ⟨rfl, hbel⟩)
                go_ret
                exact ⟨rfl, bNext HB5.out hbel⟩

end Go.Proofs.Ytbmenldopeplcaa
