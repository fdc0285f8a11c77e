/-
  The walk of the law NamesSteps.
-/
import Derived.Test.YtbmenldopeplcaaNamesRef
namespace Go.Proofs.Ytbmenldopeplcaa
open Go.RowKit Go.ChangeShapes Go.ChangeAt
set_option linter.unusedVariables false
set_option maxHeartbeats 2000000
set_option maxRecDepth 100000

theorem ReadsBy.at {α : Type} {w : World} {b off S : Nat} {f : α → List Value} {l : List α} (h : ReadsBy w (some ⟨b, off, none⟩) S f l) {i : Nat} {d : α} (hd : l[i]? = some d) (j : Nat) (v : Value) (hv : (f d)[j]? = some v) : w.cell? ⟨b, off + i * S + j, none⟩ = some v := by
  obtain ⟨b', off', he, _, hc⟩ := h i d hd
  cases he
  exact hc j v hv

theorem c_SameIntsYes (a0 a1 : Option Addr) (n c0 c1 : Nat) (l : List Int) (w : World) (e0 : n = l.length) (h0 : Reads w a0 c0 (l.map (Value.int .i64))) (h1 : Reads w a1 c1 (l.map (Value.int .i64))) (hm : n ≤ 1000000000) :
    Calls Try.prog 36 #[.slice a0 n c0, .slice a1 n c1] w fun e w' => e = .returned (.bool true) ∧ Below w.heap.size w w' := by
  have := c_SameInts a0 a1 n n c0 c1 l l w e0 e0 h0 h1 hm hm
  rwa [decide_eq_true rfl] at this

theorem law_NamesSteps (a0 : Int) (a1 : Option Addr) (len1 cap1 : Nat) (z1 : List Do8) (a2 : Option Addr) (len2 cap2 : Nat) (z2 : List Int) (w : World) (w0 : (Lit.int .i64 a0).wf = true) (w1 : Do8s w a1 len1 cap1 z1) (w2 : Came .i64 w a2 len2 cap2 z2) :
    Calls Try.prog 10 #[.int .i64 a0, .slice a1 len1 cap1, .slice a2 len2 cap2] w fun e w' => e = .returned (.bool true) ∧ Below w.heap.size w w' := by
  obtain ⟨b0, b1⟩ := bounds_i64 w0
  obtain ⟨ls, el, hc2, hm2, hr2, hw2⟩ := w2.reads
  have hI : I64 ls := fun x hx => bounds_i64 (hw2 x hx)
  obtain ⟨ed, hc1, hm1, hr1, hok⟩ := w1
  unfold maxLen at hm1 hm2
  have EL := Lib.hid el
  have ED := Lib.hid ed
  have HI := Lib.hid hI
  have HR := Lib.hid hr2
  have HD := Lib.hid hr1
  have HO := Lib.hid hok
  clear el ed hI hr2 hr1 hok hw2 w0 w2
  by_cases hbig : 300 < a0 ∧ a0 ≤ 16383
  · obtain ⟨h3, h4⟩ := hbig
    go_enter Try.func10, Try.ntmps10
    go_wp2_with (go_at_call 28; refine (c_known08 _).mono ?_; rintro e w' ⟨rfl, hbel⟩)
    go_ret
    exact ⟨rfl, hbel⟩
  · by_cases hl1 : 200 < len1
    · by_cases h3 : 300 < a0
      · have h4 : 16383 < a0 := by omega
        clear hbig
        go_enter Try.func10, Try.ntmps10
        go_wp2_with (go_at_call 28; refine (c_known08 _).mono ?_; rintro e w' ⟨rfl, hbel⟩)
        go_ret
        exact ⟨rfl, hbel⟩
      · clear hbig
        go_enter Try.func10, Try.ntmps10
        go_wp2_with (go_at_call 28; refine (c_known08 _).mono ?_; rintro e w' ⟨rfl, hbel⟩)
        go_ret
        exact ⟨rfl, hbel⟩
    · by_cases hl2 : 50 < len2
      · by_cases h3 : 300 < a0
        · have h4 : 16383 < a0 := by omega
          clear hbig
          go_enter Try.func10, Try.ntmps10
          go_wp2_with (go_at_call 28; refine (c_known08 _).mono ?_; rintro e w' ⟨rfl, hbel⟩)
          go_ret
          exact ⟨rfl, hbel⟩
        · clear hbig
          go_enter Try.func10, Try.ntmps10
          go_wp2_with (go_at_call 28; refine (c_known08 _).mono ?_; rintro e w' ⟨rfl, hbel⟩)
          go_ret
          exact ⟨rfl, hbel⟩
      · by_cases h3 : 300 < a0
        · have h4 : 16383 < a0 := by omega
          clear hbig
          go_enter Try.func10, Try.ntmps10
          go_wp2_with (first | (go_at_call 29; refine (c_NewTNo a0 _ b0 b1 (.inr h4)).mono ?_; rintro e w' ⟨rfl, rfl⟩) | (go_at_call 28; refine (c_known08 _).mono ?_; rintro e w' ⟨rfl, hbel⟩))
          go_ret
          exact ⟨rfl, hbel⟩
        · by_cases hneg : a0 < 0
          · clear hbig
            go_enter Try.func10, Try.ntmps10
            go_wp2_with (first | (go_at_call 29; refine (c_NewTNo a0 _ b0 b1 (.inl hneg)).mono ?_; rintro e w' ⟨rfl, rfl⟩) | (go_at_call 28; refine (c_known08 _).mono ?_; rintro e w' ⟨rfl, hbel⟩))
            go_ret
            exact ⟨rfl, hbel⟩
          · obtain ⟨N, rfl⟩ := Int.eq_ofNat_of_zero_le (show 0 ≤ a0 from by omega)
            have hN : N ≤ 300 := by omega
            have hle1 : len1 ≤ 200 := by omega
            have hle2 : len2 ≤ 50 := by omega
            clear hbig hl1 hl2 h3 hneg
            go_enter Try.func10, Try.ntmps10
            go_wp2_with fail
            refine (c_NewTYes N _ (by omega)).mono ?_
            rintro e w1 ⟨t, gi, gh, rfl, h1, h2, h3, T1, U1⟩
            have HIN := Lib.hid (show ∀ k ∈ [t, gi, gh], w.heap.size ≤ k from fun k hk => by simp at hk; rcases hk with rfl | rfl | rfl <;> assumption)
            have HT1 := Lib.hid T1
            have HU1 := Lib.hid U1
            clear T1 U1 h1 h2 h3
            go_wp2_with (at_make; refine wpList_mk rfl _ _ 45 rfl 3 (.int .i64 0) 8 Try.underlying45 inf_int rfl .i64 .i64 _ _ N rfl rfl rfl rfl (by omega) (by unfold maxLen; omega) ?_)
            intro w2 row2 U2
            have HX2 := Lib.hid (show Reads w2 (some ⟨w1.heap.size, 0, none⟩) N ((List.replicate N 0).map (Value.int .i64)) from by rw [List.map_replicate]; exact row2.reads (fun i u hu => by rw [Nat.zero_add]; exact hu))
            have HT2 := Lib.hid (HT1.out.keep U2 (by simp) (by simp) (by simp))
            have HB2 := Lib.hid ((HU1.out.trans U2).below (Nat.le_refl _) (by simp))
            have HXB := Lib.hid (show ∀ q : Addr, some (⟨w1.heap.size, 0, none⟩ : Addr) = some q → q.block ∉ [t, gi, gh] from fun q hq => by
              cases hq
              have := HT1.out.lt
              simp
              omega)
            obtain ⟨u, hu⟩ : ∃ u, u = w1.heap.size := ⟨_, rfl⟩
            rw [← hu] at HX2 HXB ⊢
            clear row2 U2 hu HT1 HU1
            go_wp2_with fail
            go_loopw [9, 10] (fun v i wr => ∃ (k : Nat) (l : List Int) (xa : Option Addr) (xc : Nat), k ≤ len1 ∧ v = .slice xa N xc ∧ i = .int .i64 k ∧ Hid (Tab wr t gi gh N l) ∧ Hid (Below w.heap.size w wr) ∧ Hid (Reads wr xa xc (l.map (Value.int .i64))) ∧ Hid (∀ q : Addr, xa = some q → q.block ∉ [t, gi, gh])) (fun _ i _ => len1 - (intOf i).toNat)
            case atStart => exact ⟨0, _, _, _, Nat.zero_le _, rfl, rfl, HT2.out, HB2.out, HX2.out, HXB.out⟩
            case round =>
              obtain ⟨k, l, xa, xc, hk, rfl, rfl, HT, HB, HX, HXb⟩ := hrel
              have hlen := HT.out.len
              by_cases hlt : k < len1
              · have hlt2 : k < z1.length := by have := ED.out; omega
                have hzk : z1[k]? = some z1[k] := List.getElem?_eq_getElem hlt2
                obtain ⟨b, off, rfl, hblt, hc⟩ := (HD.out.below HB.out) k _ hzk
                have hxo := HO.out _ (List.getElem_mem hlt2)
                generalize z1[k] = x at *
                have HCELL := Lib.hid (fun (w' : World) (hb : Below w.heap.size w w') => (⟨(HD.out.below hb).at hzk 0 _ rfl, (HD.out.below hb).at hzk 1 _ rfl⟩ : w'.cell? ⟨b, off + k * 2, none⟩ = some (.int .i64 x.kind) ∧ w'.cell? ⟨b, off + k * 2 + 1, none⟩ = some (.int .i64 x.num)))
                obtain ⟨c0, c1⟩ := HCELL.out wr HB.out
                obtain ⟨kd, nm⟩ := x
                dsimp only at c0 c1 hxo HCELL
                obtain ⟨⟨hk0, hk1⟩, hn0, hn1⟩ := hxo
                dsimp only at hk0 hk1 hn0 hn1
                obtain ⟨wA, rfl⟩ : ∃ x, x = wr := ⟨_, rfl⟩
                clear hc hzk
                by_cases hkd : kd = 1
                · subst hkd
                  go_wp2_with fail
                  refine (c_Bind t gi gh N l _ HT.out nm hn1).mono ?_
                  rintro e w4 ⟨rfl, T4, U4⟩
                  have HT4 := Lib.hid T4
                  have HB4 := Lib.hid (HB.out.trans (U4.below HB.out.size HIN.out))
                  have HX4 := Lib.hid (U4.reads HX.out HXb.out)
                  obtain ⟨c2, c3⟩ := HCELL.out w4 HB4.out
                  clear T4 U4 c0 c1
                  have HRB := Lib.hid (c_RBind xa N xc l nm w4 hlen.symm HX4.out (by omega) hn1)
                  unfold RefPost RBindRes at HRB
                  have hS : bindS l nm ≤ N := by
                    have hf : find8 l nm ≤ N := by
                      unfold find8
                      split
                      · omega
                      · split
                        · rename_i q hq
                          have := (idx_is hq).1; omega
                        · omega
                    unfold bindS
                    repeat' split
                    · omega
                    · omega
                    · rename_i q hq
                      have := (idx_is hq).1; omega
                    · omega
                  have hlen' := HT4.out.len
                  generalize bindL l nm = l' at *
                  generalize bindS l nm = s at *
                  generalize bindE l nm = y at *
                  go_wp2_with fail
                  refine HRB.out.mono ?_
                  rintro e w5 ⟨xa', xc', rfl, R5, B5, hxa⟩
                  have HT5 := Lib.hid (HT4.out.below B5)
                  have HX5 := Lib.hid R5
                  have HB5 := Lib.hid (bNext HB4.out B5)
                  have HXb5 := Lib.hid (show ∀ q : Addr, xa' = some q → q.block ∉ [t, gi, gh] from fun q hq => by
                    rcases hxa with rfl | h
                    · exact HXb.out q hq
                    · have h1 := h q hq
                      have h2 := HT4.out.lt
                      simp
                      omega)
                  have HL5 := Lib.hid (c_LenT t gi gh N l' w5 HT5.out)
                  rw [← slotsL_live] at HL5
                  have HRS := Lib.hid (c_RSlots xa' N xc' l' w5 hlen'.symm R5 (by omega))
                  clear R5 B5 hxa HRB
                  go_wp2_with (go_at_call 30; refine HL5.out.mono ?_; rintro e w' ⟨rfl, rfl⟩)
                  refine HRS.out.mono ?_
                  rintro e w6 ⟨v, rfl, own, bel⟩
                  obtain ⟨a6, c6, rfl, -, -, -⟩ := owns_reads own
                  have HT6 := Lib.hid (HT5.out.below bel)
                  have HX6 := Lib.hid (HX5.out.below bel)
                  have HB6 := Lib.hid (bNext HB5.out bel)
                  clear own bel
                  generalize (slotsL l').length = L at *
                  go_wp2
                  go_roundw
                  case rel => exact ⟨k + 1, _, _, _, by omega, rfl, by go_num, HT6.out, HB6.out, HX6.out, HXb5.out⟩
                  case measure => simp [intOf]; omega
                · have hkd2 : (kd == 1) = false := by simpa using hkd
                  cases hh : has8 l nm with
                  | true =>
                    have HF := Lib.hid (c_Free1Yes t gi gh N l wA HT.out nm hn0 hn1 _ rfl hh)
                    have HRF := Lib.hid (fun (w' : World) (h' : Reads w' xa xc (l.map (Value.int .i64))) => c_RFree xa N xc l nm w' hlen.symm h' (by omega) hn0 hn1)
                    rw [hh] at HRF
                    clear hh
                    go_wp2_with fail
                    refine HF.out.mono ?_
                    rintro e w4 ⟨rfl, T4, U4⟩
                    have HT4 := Lib.hid T4
                    have HB4 := Lib.hid (HB.out.trans (U4.below HB.out.size HIN.out))
                    have HX4 := Lib.hid (U4.reads HX.out HXb.out)
                    clear T4 U4
                    obtain ⟨c2, c3⟩ := HCELL.out w4 HB4.out
                    have HRB := Lib.hid (HRF.out w4 HX4.out)
                    unfold RefPost at HRB
                    simp only [if_true] at HRB
                    generalize l.set (nm - 1).toNat 0 = l' at *
                    have hlen' := HT4.out.len
                    clear c0 c1 HRF HF
                    go_wp2_with fail
                    refine HRB.out.mono ?_
                    rintro e w5 ⟨xa', xc', rfl, R5, B5, hxa⟩
                    have HT5 := Lib.hid (HT4.out.below B5)
                    have HX5 := Lib.hid R5
                    have HB5 := Lib.hid (bNext HB4.out B5)
                    have HXb5 := Lib.hid (show ∀ q : Addr, xa' = some q → q.block ∉ [t, gi, gh] from fun q hq => by
                        rcases hxa with rfl | h
                        · exact HXb.out q hq
                        · have h1 := h q hq
                          have h2 := HT4.out.lt
                          simp
                          omega)
                    have HL5 := Lib.hid (c_LenT t gi gh N l' w5 HT5.out)
                    rw [← slotsL_live] at HL5
                    have HRS := Lib.hid (c_RSlots xa' N xc' l' w5 hlen'.symm R5 (by omega))
                    clear R5 B5 hxa HRB
                    go_wp2_with (go_at_call 30; refine HL5.out.mono ?_; rintro e w' ⟨rfl, rfl⟩)
                    refine HRS.out.mono ?_
                    rintro e w6 ⟨v, rfl, own, bel⟩
                    obtain ⟨a6, c6, rfl, -, -, -⟩ := owns_reads own
                    have HT6 := Lib.hid (HT5.out.below bel)
                    have HX6 := Lib.hid (HX5.out.below bel)
                    have HB6 := Lib.hid (bNext HB5.out bel)
                    clear own bel
                    generalize (slotsL l').length = L at *
                    go_wp2
                    go_roundw
                    case rel => exact ⟨k + 1, _, _, _, by omega, rfl, by go_num, HT6.out, HB6.out, HX6.out, HXb5.out⟩
                    case measure => simp [intOf]; omega
                  | false =>
                    have HF := Lib.hid (c_Free1No t gi gh N l wA HT.out nm hn0 hn1 _ rfl hh)
                    have HRF := Lib.hid (fun (w' : World) (h' : Reads w' xa xc (l.map (Value.int .i64))) => c_RFree xa N xc l nm w' hlen.symm h' (by omega) hn0 hn1)
                    rw [hh] at HRF
                    clear hh
                    go_wp2_with fail
                    refine HF.out.mono ?_
                    rintro e w4 ⟨rfl, hw4⟩
                    have HT4 : Hid (Tab w4 t gi gh N l) := by rw [hw4]; exact HT.out.alloc _
                    have HB4 : Hid (Below w.heap.size w w4) := by rw [hw4]; exact bAlloc HB.out
                    have HX4 : Hid (Reads w4 xa xc (l.map (Value.int .i64))) := by rw [hw4]; exact HX.out.alloc _
                    clear hw4
                    obtain ⟨c2, c3⟩ := HCELL.out w4 HB4.out
                    have HRB := Lib.hid (HRF.out w4 HX4.out)
                    unfold RefPost at HRB
                    simp only [if_false, Bool.false_eq_true] at HRB
                    have hlen' := HT4.out.len
                    clear c0 c1 HRF HF
                    go_wp2_with fail
                    refine HRB.out.mono ?_
                    rintro e w5 ⟨xa', xc', rfl, R5, B5, hxa⟩
                    have HT5 := Lib.hid (HT4.out.below B5)
                    have HX5 := Lib.hid R5
                    have HB5 := Lib.hid (bNext HB4.out B5)
                    have HXb5 := Lib.hid (show ∀ q : Addr, xa' = some q → q.block ∉ [t, gi, gh] from fun q hq => by
                        rcases hxa with rfl | h
                        · exact HXb.out q hq
                        · have h1 := h q hq
                          have h2 := HT4.out.lt
                          simp
                          omega)
                    have HL5 := Lib.hid (c_LenT t gi gh N l w5 HT5.out)
                    rw [← slotsL_live] at HL5
                    have HRS := Lib.hid (c_RSlots xa' N xc' l w5 hlen'.symm R5 (by omega))
                    clear R5 B5 hxa HRB
                    go_wp2_with (go_at_call 30; refine HL5.out.mono ?_; rintro e w' ⟨rfl, rfl⟩)
                    refine HRS.out.mono ?_
                    rintro e w6 ⟨v, rfl, own, bel⟩
                    obtain ⟨a6, c6, rfl, -, -, -⟩ := owns_reads own
                    have HT6 := Lib.hid (HT5.out.below bel)
                    have HX6 := Lib.hid (HX5.out.below bel)
                    have HB6 := Lib.hid (bNext HB5.out bel)
                    clear own bel
                    generalize (slotsL l).length = L at *
                    go_wp2
                    go_roundw
                    case rel => exact ⟨k + 1, _, _, _, by omega, rfl, by go_num, HT6.out, HB6.out, HX6.out, HXb5.out⟩
                    case measure => simp [intOf]; omega
              · obtain rfl : len1 = k := by omega
                obtain ⟨wA, rfl⟩ : ∃ x, x = wr := ⟨_, rfl⟩
                clear HT2 HB2 HX2 HXB HD HO
                go_wp2_with fail
                go_loop [15] (fun i => ∃ k : Nat, k ≤ len2 ∧ i = .int .i64 k) (fun i => len2 - (intOf i).toNat)
                case atStart => exact ⟨0, Nat.zero_le _, rfl⟩
                case round =>
                  obtain ⟨k, hk, rfl⟩ := hrel
                  by_cases hlt : k < len2
                  · have hlt2 : k < ls.length := by have := EL.out; omega
                    obtain ⟨b, off, rfl, hblt, hc⟩ := (HR.out.below HB.out).at (by simp; omega)
                    have hcell := hc k _ (getD_map8 hlt2)
                    have hx := HI.out _ (getD_mem hlt2)
                    generalize ls.getD k 0 = y at *
                    have HS := Lib.hid (c_Slot t gi gh N l wA HT.out y hx.2)
                    have HD := Lib.hid (c_ID t gi gh N l wA HT.out y hx.1 hx.2)
                    have HF := Lib.hid (c_RFind xa N xc l y wA hlen.symm HX.out (by omega))
                    generalize find8 l y = f at *
                    clear hc
                    have hff : (f != 0) = decide (0 < f) := by cases f <;> simp
                    rw [hff] at HS
                    clear hff
                    by_cases hy1 : y < 1
                    · rw [show has8 l y = false from by unfold has8; simp; omega] at HD
                      go_wp2_with (first
                        | (go_at_call 32; refine HS.out.mono ?_; rintro e w' ⟨rfl, rfl⟩)
                        | (go_at_call 34; refine HD.out.mono ?_; rintro e w' ⟨rfl, rfl⟩)
                        | (go_at_call 40; refine HF.out.mono ?_; rintro e w' ⟨rfl, rfl⟩))
                      go_round
                      case rel => exact ⟨k + 1, by omega, by go_num⟩
                      case measure => simp [intOf]; omega
                    · obtain ⟨m, rfl⟩ := Int.eq_ofNat_of_zero_le (show 0 ≤ y from by omega)
                      by_cases hyN : N < m
                      · rw [show has8 l (m : Int) = false from by unfold has8; simp; omega] at HD
                        go_wp2_with (first
                          | (go_at_call 32; refine HS.out.mono ?_; rintro e w' ⟨rfl, rfl⟩)
                          | (go_at_call 34; refine HD.out.mono ?_; rintro e w' ⟨rfl, rfl⟩)
                          | (go_at_call 40; refine HF.out.mono ?_; rintro e w' ⟨rfl, rfl⟩))
                        go_round
                        case rel => exact ⟨k + 1, by omega, by go_num⟩
                        case measure => simp [intOf]; omega
                      · obtain ⟨q, rfl⟩ : ∃ q, m = q + 1 := ⟨m - 1, by omega⟩
                        have hq : q < l.length := by omega
                        obtain ⟨bx, ox, rfl, hbx, hcx⟩ := HX.out.at (by simp; omega)
                        have hcx2 := hcx q _ (getD_map8 hq)
                        have hv : (((q + 1 : Nat) : Int) - 1).toNat = q := by omega
                        have hv2 : (((q + 1 : Nat) : Int) - 1) = (q : Int) := by omega
                        have hrg := HT.out.range q
                        rw [hv] at HD
                        clear hcx hv
                        by_cases hz : l.getD q 0 = 0
                        · rw [show has8 l ((q + 1 : Nat) : Int) = false from by unfold has8; rw [show (((q + 1 : Nat) : Int) - 1).toNat = q from by omega, hz]; simp] at HD
                          rw [hz] at hcx2
                          clear hz hrg
                          obtain ⟨m, hm⟩ : ∃ m, m = q + 1 := ⟨_, rfl⟩
                          rw [← hm] at hcell hx hy1 hyN hv2 HS HD HF
                          clear hm
                          go_wp2_with (first
                            | (go_at_call 32; refine HS.out.mono ?_; rintro e w' ⟨rfl, rfl⟩)
                            | (go_at_call 34; refine HD.out.mono ?_; rintro e w' ⟨rfl, rfl⟩)
                            | (go_at_call 40; refine HF.out.mono ?_; rintro e w' ⟨rfl, rfl⟩))
                          go_round
                          case rel => exact ⟨k + 1, by omega, by go_num⟩
                          case measure => simp [intOf]; omega
                        · rw [has8_of hq hz, if_pos rfl] at HD
                          generalize l.getD q 0 = z at *
                          have hz1 : 0 < z := by omega
                          clear hz
                          obtain ⟨m, hm⟩ : ∃ m, m = q + 1 := ⟨_, rfl⟩
                          rw [← hm] at hcell hx hy1 hyN hv2 HS HD HF
                          clear hm
                          go_wp2_with (first
                            | (go_at_call 32; refine HS.out.mono ?_; rintro e w' ⟨rfl, rfl⟩)
                            | (go_at_call 34; refine HD.out.mono ?_; rintro e w' ⟨rfl, rfl⟩)
                            | (go_at_call 40; refine HF.out.mono ?_; rintro e w' ⟨rfl, rfl⟩))
                          go_round
                          case rel => exact ⟨k + 1, by omega, by go_num⟩
                          case measure => simp [intOf]; omega
                  · obtain rfl : k = len2 := by omega
                    have hsl : (slotsL l).length ≤ N := by have := slotsTo_len l l.length; unfold slotsL; omega
                    go_wp2_with (go_at_call 41; refine (c_Size t gi gh N l _ HT.out).mono ?_; rintro e w' ⟨rfl, rfl⟩)
                    refine (c_Slots t gi gh N l _ HT.out).mono ?_
                    rintro e w3 ⟨v, rfl, own3, bel3⟩
                    obtain ⟨a3, c3, rfl, hr3, -, -⟩ := owns_reads own3
                    have HR3 := Lib.hid hr3
                    have HB3 := Lib.hid (bNext HB.out bel3)
                    have HX3 := Lib.hid (HX.out.below bel3)
                    clear own3 bel3 hr3
                    go_wp2_with fail
                    refine (c_RSlots xa N xc l _ hlen.symm HX3.out (by omega)).mono ?_
                    rintro e w4 ⟨v, rfl, own4, bel4⟩
                    obtain ⟨a4, c4, rfl, hr4, -, -⟩ := owns_reads own4
                    have HR4 := Lib.hid hr4
                    have HR34 := Lib.hid (HR3.out.below bel4)
                    have HB4 := Lib.hid (bNext HB3.out bel4)
                    clear own4 bel4 hr4
                    go_wp2_with fail
                    refine (c_SameIntsYes a3 a4 _ c3 c4 (slotsL l) _ rfl HR34.out HR4.out (by omega)).mono ?_
                    rintro e w5 ⟨rfl, bel5⟩
                    have HB5 := Lib.hid (bNext HB4.out bel5)
                    clear bel5
                    go_wp2_with (go_at_call 28; refine (c_known08 _).mono ?_; rintro e w' ⟨rfl, hbel⟩)
                    go_ret
                    exact ⟨rfl, bNext HB5.out hbel⟩

end Go.Proofs.Ytbmenldopeplcaa
