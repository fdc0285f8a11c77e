/-
  Contracts of package wide: Decode, of bytes.
-/
import Derived.Test.YtdedidjobjdekaaWide7
namespace Go.Proofs.Ytdedidjobjdekaa
open Go.RowKit
set_option linter.unusedVariables false
set_option maxHeartbeats 2000000

theorem reads_rightW {w : World} {b o c c' : Nat} {xs ys : List Value} (h : Reads w (some ⟨b, o, none⟩) c (xs ++ ys)) : Reads w (some ⟨b, o + xs.length, none⟩) c' ys := by
  rcases h with ⟨h, _⟩ | ⟨x, hx, h⟩
  · cases h
  · cases hx
    refine .inr ⟨_, rfl, fun i u hu => ?_⟩
    have := h (xs.length + i) u (by rw [List.getElem?_append_right (by omega), Nat.add_sub_cancel_left]; exact hu)
    rw [add_flat] at this ⊢
    rwa [Nat.add_assoc]
theorem owns_cap {w : World} {base : Nat} {e : TypeId} {size : Nat} {a : Option Addr} {n c : Nat} {xs : List Value} (h : w.ownsRow base e size (.slice a n c) n xs) : c ≤ 9223372036854775807 := by
  rcases h.2 with ⟨h, _⟩ | ⟨g, cap, cur, hv, _, _, _, hm', _⟩
  · cases h; omega
  · cases hv; unfold maxLen at hm'; omega

/-- Decode, where the kind is that of bytes. -/
theorem c_Dec2 (a : Option Addr) (n c : Nat) (l : List Int) (w : World) (e0 : n = l.length) (h : Reads w a c (l.map (Value.int .u8))) (hb : Byt l) (hn : 12 ≤ n) (hc : n ≤ c) (hm : n ≤ 100000) (k1 : decK l = 2) : Calls Try.prog 14 #[.slice a n c] w (DecPost l w) := by
  subst e0
  have HG := Lib.hid (fun w' (h' : Reads w' a c (l.map (Value.int .u8))) p (hp : -9223372036854775808 ≤ p ∧ p ≤ 9223372036854775807) => c_Get a l.length c l p w' rfl hc (by omega) h' hb hp.1 hp.2)
  have HR := Lib.hid h
  clear h
  obtain ⟨C, hC⟩ : ∃ C, C = getV l 0 := ⟨_, rfl⟩
  have K1 : getV l 4 = 2 := k1
  have hdW : decW l = [] := by unfold decW; rw [if_neg (by omega)]
  have hdB : decB l = l.drop 12 := by unfold decB; rw [if_pos k1]
  have hdK : decK l = 2 := k1
  have HDD := Lib.hid (And.intro hdW (And.intro hdB hdK))
  clear k1 hdW hdB hdK
  go_enter Try.func14, Try.ntmps14
  go_wp2_with fail
  refine (HG.out _ ((HR.out.alloc _)) 0 (by decide)).mono ?_
  rintro e w' ⟨rfl, rfl⟩
  rw [← hC]
  have HCC := Lib.hid hC
  clear hC
  go_wp2_with fail
  refine (HG.out _ ((HR.out.alloc _)) 4 (by decide)).mono ?_
  rintro e w' ⟨rfl, rfl⟩
  rw [K1]
  go_wp2_with fail
  obtain ⟨w2, hw2⟩ : ∃ z, z = ((w.alloc (.cells #[.int .i64 0, .int .i64 0, .slice none 0 0, .slice none 0 0] 25)).alloc (.cells #[.int .i64 C, .int .i64 2, .slice none 0 0, .slice none 0 0] 25)) := ⟨_, rfl⟩
  have hrow : Row w2 (w.heap.size + 1) 25 [.int .i64 C, .int .i64 2, .slice none 0 0, .slice none 0 0] := by
    rw [hw2]
    have := Row.made (w.alloc (.cells #[.int .i64 0, .int .i64 0, .slice none 0 0, .slice none 0 0] 25)) [.int .i64 C, .int .i64 2, .slice none 0 0, .slice none 0 0] 25
    simpa using this
  have hrow0 : Row w2 w.heap.size 25 [.int .i64 0, .int .i64 0, .slice none 0 0, .slice none 0 0] := by
    rw [hw2]
    exact (Row.made w [.int .i64 0, .int .i64 0, .slice none 0 0, .slice none 0 0] 25).alloc _
  have hbel : Below w.heap.size w w2 := by rw [hw2]; exact bAlloc ((Below.refl _ w).alloc (Nat.le_refl _) _)
  have hsz : w2.heap.size = w.heap.size + 2 := by rw [hw2]; simp
  rw [← hw2]
  have HROW := Lib.hid hrow
  have HROW0 := Lib.hid hrow0
  have HBEL := Lib.hid hbel
  obtain ⟨p0, hp0⟩ : ∃ p, p = w.heap.size := ⟨_, rfl⟩
  obtain ⟨p1, hp1⟩ : ∃ p, p = w.heap.size + 1 := ⟨_, rfl⟩
  rw [← hp1] at HROW ⊢
  rw [← hp0] at HROW0 ⊢
  have HP := Lib.hid (And.intro hp0 (And.intro hp1 hsz))
  clear hrow hrow0 hbel hw2 hsz hp0 hp1
  go_loopw [9] (fun i wr => i = .int .i64 12 ∧ w2 = wr) (fun i _ => 1 - (intOf i).toNat)
  case atStart => exact ⟨rfl, rfl⟩
  case round =>
    obtain ⟨rfl, rfl⟩ := hrel
    have hpos : 0 < (l.map (Value.int .u8)).length := by simp; omega
    obtain ⟨b, of, rfl, -, -⟩ := HR.out.at hpos
    by_cases hcc : c = 12
    · have hl12 : l.length = 12 := by omega
      have hry : Reads w2 (some ⟨b, of, none⟩) 0 ((l.drop 12).map (Value.int .u8)) := by
        rw [List.drop_of_length_le (by omega)]
        exact Reads.empty (fun h => by cases h)
      have HCL := Lib.hid (c_Clone ⟨b, of, none⟩ (l.length - 12) 0 (l.drop 12) w2 (by simp) hry (by omega))
      clear hry hl12 hpos
      go_wp2_with fail
      refine HCL.out.mono ?_
      clear HCL hcc
      rintro e w3 ⟨v3, rfl, own3, b3⟩
      have hdl : (l.drop 12).length = l.length - 12 := by simp
      rw [hdl] at own3
      obtain ⟨va, vc, rfl, hrv, hvc, hvb⟩ := owns_reads own3
      have HVB := Lib.hid (fun x hx => (hvb x hx).1)
      clear hvb
      have hvm := owns_cap own3
      obtain ⟨e0, e1, e2⟩ := HP.out
      have R1 : Row w3 p1 25 [.int .i64 C, .int .i64 2, .slice none 0 0, .slice none 0 0] := (b3.block p1 (by omega)).trans HROW.out
      have R0 : Row w3 p0 25 [.int .i64 0, .int .i64 0, .slice none 0 0, .slice none 0 0] := (b3.block p0 (by omega)).trans HROW0.out
      have kc3 := R1.cell (i := 3) rfl
      have kf3 := R1.free 3
      obtain ⟨wr, hwr⟩ : ∃ z, z = w3.setCell ⟨p1, 3, none⟩ (.slice va (l.length - 12) vc) := ⟨_, rfl⟩
      have HR1 : Hid (Row wr p1 25 [.int .i64 C, .int .i64 2, .slice none 0 0, .slice va (l.length - 12) vc]) := by rw [hwr]; exact R1.set 3 _
      have HR0 : Hid (Row wr p0 25 [.int .i64 0, .int .i64 0, .slice none 0 0, .slice none 0 0]) := by rw [hwr]; exact R0.setOther (p := ⟨p1, 3, none⟩) (by show p1 ≠ p0; omega) _
      have HB : Hid (Below w.heap.size w wr) := by rw [hwr]; exact (bNext HBEL.out b3).setCell (p := ⟨p1, 3, none⟩) (by show w.heap.size ≤ p1; omega) _
      have hrv' : Reads wr va vc ((l.drop 12).map (Value.int .u8)) := by
        rw [hwr]
        refine ((Upd.refl [p1] w3).setCell (p := ⟨p1, 3, none⟩) (by simp) _).reads hrv (fun x hx => ?_)
        have := HVB.out x hx
        simp
        omega
      have HVL : Hid (∀ x, va = some x → w2.heap.size ≤ x.block) := HVB.out
      obtain ⟨o, ho⟩ : ∃ o : ObjD, o = ⟨C, 2, none, 0, 0, [], va, l.length - 12, vc, l.drop 12⟩ := ⟨_, rfl⟩
      have hok : o.ok wr := by
        rw [ho]
        have hcr : -2147483648 ≤ C ∧ C ≤ 2147483647 := by rw [HCC.out]; exact getV_range (p := 0)
        exact ⟨by dsimp only; omega, by dsimp only; omega, rfl, ⟨Nat.le_refl _, by dsimp only; omega⟩, Reads.nil wr, fun x hx => by simp at hx, by dsimp only; omega, ⟨hvc, hvm⟩, hrv', fun x hx => hb x (List.mem_of_mem_drop hx)⟩
      have HE := Lib.hid (c_Encode o wr hok (by rw [ho]; dsimp only; omega))
      have hv : o.val = .agg #[.int .i64 C, .int .i64 2, .slice none 0 0, .slice va (l.length - 12) vc] := by rw [ho]; rfl
      rw [hv] at HE
      have HOK := Lib.hid hok
      have HOE := Lib.hid ho
      have HLD := Lib.hid hdl
      have j0 := HR1.out.cell (i := 0) rfl
      have j1 := HR1.out.cell (i := 1) rfl
      have j2 := HR1.out.cell (i := 2) rfl
      have j3 := HR1.out.cell (i := 3) rfl
      have hbn : o.bn ≤ 100000 := by rw [ho]; dsimp only; omega
      have HBN := Lib.hid hbn
      subst hwr
      clear hrv hvc hvm hok hv ho own3 b3 R1 R0 hrv' hdl e0 e1 e2 hbn
      go_wp2_with fail
      refine HE.out.mono ?_
      rintro e w4 ⟨v4, rfl, own4, b4⟩
      obtain ⟨a4, c4, rfl, hr4, -, -⟩ := owns_reads own4
      have R1 : Row w4 p1 25 [.int .i64 C, .int .i64 2, .slice none 0 0, .slice va (l.length - 12) vc] := (b4.block p1 HR1.out.lt).trans HR1.out
      have R0 : Row w4 p0 25 [.int .i64 0, .int .i64 0, .slice none 0 0, .slice none 0 0] := (b4.block p0 HR0.out.lt).trans HR0.out
      have HR4 := Lib.hid hr4
      have HOK4 := Lib.hid (HOK.out.below b4)
      have HB4 := Lib.hid (bNext HB.out b4)
      have hle4 : (encO o).length ≤ 100000 := by
        unfold encO
        split
        · rename_i hok
          rw [encB_len, HOE.out]
          dsimp only
          rw [List.length_drop]
          simp only [List.length_nil]
          omega
        · simp
      have HLE := Lib.hid hle4
      have HEQ := Lib.hid (c_EqualB a4 (some ⟨b, of, none⟩) (encO o).length l.length c4 c (encO o) l w4 rfl rfl hr4 (HR.out.below HB4.out) (by omega) (by omega))
      clear own4 hr4 b4 j0 j1 j2 j3 HE hle4
      have hISO : isObj l ↔ (chkE o = 0 ∧ encO o = l) := by
        have e1 : o.cls = decC l := by rw [HOE.out]; exact HCC.out
        have e2 : o.kind = decK l := by rw [HOE.out]; exact HDD.out.2.2.symm
        have e3 : o.W = decW l := by rw [HOE.out]; exact HDD.out.1.symm
        have e4 : o.B = decB l := by rw [HOE.out]; exact HDD.out.2.1.symm
        unfold isObj chkE encO
        rw [e1, e2, e3, e4]
        by_cases hk : okObj (decC l) (decK l) (decW l) (decB l)
        · rw [if_pos hk, if_pos hk]
          exact ⟨fun h => ⟨rfl, h.2.2⟩, fun h => ⟨hn, hk, h.2⟩⟩
        · rw [if_neg hk]
          exact ⟨fun h => absurd h.2.1 hk, fun h => by cases h.1⟩
      have HISO := Lib.hid hISO
      clear hISO
      obtain ⟨n4, hn4⟩ : ∃ z, z = (encO o).length := ⟨_, rfl⟩
      rw [← hn4] at HEQ ⊢
      clear hn4 HLE
      by_cases hE : chkE o = 0
      · rw [hE]
        by_cases hq : encO o = l
        · rw [decide_eq_true hq] at HEQ
          have HIS := Lib.hid (HISO.out.2 ⟨hE, hq⟩)
          clear hE hq
          go_wp2_with fail
          refine HEQ.out.mono ?_
          rintro e w5 ⟨rfl, b5⟩
          have R15 : Row w5 p1 25 [.int .i64 C, .int .i64 2, .slice none 0 0, .slice va (l.length - 12) vc] := (b5.block p1 R1.lt).trans R1
          have R05 : Row w5 p0 25 [.int .i64 0, .int .i64 0, .slice none 0 0, .slice none 0 0] := (b5.block p0 R0.lt).trans R0
          have i0 := R15.cell (i := 0) rfl
          have i1 := R15.cell (i := 1) rfl
          have i2 := R15.cell (i := 2) rfl
          have i3 := R15.cell (i := 3) rfl
          have o0 := R05.cell (i := 0) rfl
          have o1 := R05.cell (i := 1) rfl
          have o2 := R05.cell (i := 2) rfl
          have o3 := R05.cell (i := 3) rfl
          have f0 := R05.free 0
          have f1 := R05.free 1
          have f2 := R05.free 2
          have f3 := R05.free 3
          go_wp2
          obtain ⟨w6, hw6⟩ : ∃ z, z = (((w5.setCell ⟨p0, 0, none⟩ (.int .i64 C)).setCell ⟨p0, 1, none⟩ (.int .i64 2)).setCell ⟨p0, 2, none⟩ (.slice none 0 0)).setCell ⟨p0, 3, none⟩ (.slice va (l.length - 12) vc) := ⟨_, rfl⟩
          have R6 : Row w6 p0 25 [.int .i64 C, .int .i64 2, .slice none 0 0, .slice va (l.length - 12) vc] := by rw [hw6]; exact (((R05.set 0 _).set 1 _).set 2 _).set 3 _
          have U6 : Upd [p0] w5 w6 := by rw [hw6]; exact ((((Upd.refl [p0] w5).setCell (by simp) _).setCell (by simp) _).setCell (by simp) _).setCell (by simp) _
          rw [← hw6]
          clear hw6
          have z0 := R6.cell (i := 0) rfl
          have z1 := R6.cell (i := 1) rfl
          have z2 := R6.cell (i := 2) rfl
          have z3 := R6.cell (i := 3) rfl
          (try simp only [Exit.inBlock, Exit.then])
          refine bodyPost_ret (by rw [results_cell_tmp rfl]; go_simp; rfl) rfl ?_
          have hp := HP.out
          have HB5 := Lib.hid (bNext HB4.out b5)
          have ok5 := HOK4.out.below b5
          have hva : o.wa = none := by rw [HOE.out]
          have hba : o.ba = va := by rw [HOE.out]
          refine ⟨HB5.out.trans (U6.below HB5.out.size (fun k hk => by simp at hk; omega)), .inl ⟨HIS.out, o, by rw [HOE.out]; rfl, ⟨ok5.c0, ok5.k0, ok5.wl, ok5.wm, U6.reads ok5.wr (fun x hx => ?_), ok5.wi, ok5.bl, ok5.bm, U6.reads ok5.br (fun x hx => ?_), ok5.bb⟩, by rw [HOE.out]; exact HCC.out, by rw [HOE.out]; exact HDD.out.2.2.symm, by rw [HOE.out]; exact HDD.out.1.symm, by rw [HOE.out]; exact HDD.out.2.1.symm⟩⟩
          · rw [hva] at hx; cases hx
          · rw [hba] at hx
            have := HVB.out x hx
            simp
            omega
        · rw [decide_eq_false hq] at HEQ
          have HNO := Lib.hid (show ¬ isObj l from fun h => hq (HISO.out.1 h).2)
          clear hE hq
          go_wp2_with fail
          refine HEQ.out.mono ?_
          rintro e w5 ⟨rfl, b5⟩
          have R05 : Row w5 p0 25 [.int .i64 0, .int .i64 0, .slice none 0 0, .slice none 0 0] := (b5.block p0 R0.lt).trans R0
          have HB5 := Lib.hid (bNext HB4.out b5)
          have o0 := R05.cell (i := 0) rfl
          have o1 := R05.cell (i := 1) rfl
          have o2 := R05.cell (i := 2) rfl
          have o3 := R05.cell (i := 3) rfl
          have f0 := R05.free 0
          have f1 := R05.free 1
          have f2 := R05.free 2
          have f3 := R05.free 3
          go_wp2
          obtain ⟨w6, hw6⟩ : ∃ z, z = (((w5.setCell ⟨p0, 0, none⟩ (.int .i64 0)).setCell ⟨p0, 1, none⟩ (.int .i64 0)).setCell ⟨p0, 2, none⟩ (.slice none 0 0)).setCell ⟨p0, 3, none⟩ (.slice none 0 0) := ⟨_, rfl⟩
          have R6 : Row w6 p0 25 [.int .i64 0, .int .i64 0, .slice none 0 0, .slice none 0 0] := by rw [hw6]; exact (((R05.set 0 _).set 1 _).set 2 _).set 3 _
          have U6 : Upd [p0] w5 w6 := by rw [hw6]; exact ((((Upd.refl [p0] w5).setCell (by simp) _).setCell (by simp) _).setCell (by simp) _).setCell (by simp) _
          rw [← hw6]
          clear hw6
          have z0 := R6.cell (i := 0) rfl
          have z1 := R6.cell (i := 1) rfl
          have z2 := R6.cell (i := 2) rfl
          have z3 := R6.cell (i := 3) rfl
          (try simp only [Exit.inBlock, Exit.then])
          refine bodyPost_ret (by rw [results_cell_tmp rfl]; go_simp; rfl) rfl ?_
          have hp := HP.out.1
          exact ⟨HB5.out.trans (U6.below HB5.out.size (fun k hk => by simp at hk; omega)), .inr ⟨HNO.out, rfl⟩⟩
      · have hE2 : chkE o = 2 := by
          unfold chkE at hE ⊢
          split
          · rename_i hx; rw [if_pos hx] at hE; exact absurd rfl hE
          · rfl
        rw [hE2]
        have HNO := Lib.hid (show ¬ isObj l from fun h => hE (HISO.out.1 h).1)
        clear hE hE2
        obtain ⟨w5, rfl⟩ : ∃ z, z = w4 := ⟨_, rfl⟩
        have R05 := R0
        have HB5 := HB4
        have o0 := R05.cell (i := 0) rfl
        have o1 := R05.cell (i := 1) rfl
        have o2 := R05.cell (i := 2) rfl
        have o3 := R05.cell (i := 3) rfl
        have f0 := R05.free 0
        have f1 := R05.free 1
        have f2 := R05.free 2
        have f3 := R05.free 3
        go_wp2
        obtain ⟨w6, hw6⟩ : ∃ z, z = (((w5.setCell ⟨p0, 0, none⟩ (.int .i64 0)).setCell ⟨p0, 1, none⟩ (.int .i64 0)).setCell ⟨p0, 2, none⟩ (.slice none 0 0)).setCell ⟨p0, 3, none⟩ (.slice none 0 0) := ⟨_, rfl⟩
        have R6 : Row w6 p0 25 [.int .i64 0, .int .i64 0, .slice none 0 0, .slice none 0 0] := by rw [hw6]; exact (((R05.set 0 _).set 1 _).set 2 _).set 3 _
        have U6 : Upd [p0] w5 w6 := by rw [hw6]; exact ((((Upd.refl [p0] w5).setCell (by simp) _).setCell (by simp) _).setCell (by simp) _).setCell (by simp) _
        rw [← hw6]
        clear hw6
        have z0 := R6.cell (i := 0) rfl
        have z1 := R6.cell (i := 1) rfl
        have z2 := R6.cell (i := 2) rfl
        have z3 := R6.cell (i := 3) rfl
        (try simp only [Exit.inBlock, Exit.then])
        refine bodyPost_ret (by rw [results_cell_tmp rfl]; go_simp; rfl) rfl ?_
        have hp := HP.out.1
        exact ⟨HB5.out.trans (U6.below HB5.out.size (fun k hk => by simp at hk; omega)), .inr ⟨HNO.out, rfl⟩⟩
    · have hry : Reads w2 (some ⟨b, of + 12, none⟩) (c - 12) ((l.drop 12).map (Value.int .u8)) := by
        have hh := HR.out.below HBEL.out
        rw [← List.take_append_drop 12 l, List.map_append] at hh
        have := reads_rightW (c' := c - 12) hh
        rwa [List.length_map, List.length_take, Nat.min_eq_left hn] at this
      have HCL := Lib.hid (c_Clone ⟨b, of + 12, none⟩ (l.length - 12) (c - 12) (l.drop 12) w2 (by simp) hry (by omega))
      clear hry hpos
      go_wp2_with fail
      refine HCL.out.mono ?_
      clear HCL hcc
      rintro e w3 ⟨v3, rfl, own3, b3⟩
      have hdl : (l.drop 12).length = l.length - 12 := by simp
      rw [hdl] at own3
      obtain ⟨va, vc, rfl, hrv, hvc, hvb⟩ := owns_reads own3
      have HVB := Lib.hid (fun x hx => (hvb x hx).1)
      clear hvb
      have hvm := owns_cap own3
      obtain ⟨e0, e1, e2⟩ := HP.out
      have R1 : Row w3 p1 25 [.int .i64 C, .int .i64 2, .slice none 0 0, .slice none 0 0] := (b3.block p1 (by omega)).trans HROW.out
      have R0 : Row w3 p0 25 [.int .i64 0, .int .i64 0, .slice none 0 0, .slice none 0 0] := (b3.block p0 (by omega)).trans HROW0.out
      have kc3 := R1.cell (i := 3) rfl
      have kf3 := R1.free 3
      obtain ⟨wr, hwr⟩ : ∃ z, z = w3.setCell ⟨p1, 3, none⟩ (.slice va (l.length - 12) vc) := ⟨_, rfl⟩
      have HR1 : Hid (Row wr p1 25 [.int .i64 C, .int .i64 2, .slice none 0 0, .slice va (l.length - 12) vc]) := by rw [hwr]; exact R1.set 3 _
      have HR0 : Hid (Row wr p0 25 [.int .i64 0, .int .i64 0, .slice none 0 0, .slice none 0 0]) := by rw [hwr]; exact R0.setOther (p := ⟨p1, 3, none⟩) (by show p1 ≠ p0; omega) _
      have HB : Hid (Below w.heap.size w wr) := by rw [hwr]; exact (bNext HBEL.out b3).setCell (p := ⟨p1, 3, none⟩) (by show w.heap.size ≤ p1; omega) _
      have hrv' : Reads wr va vc ((l.drop 12).map (Value.int .u8)) := by
        rw [hwr]
        refine ((Upd.refl [p1] w3).setCell (p := ⟨p1, 3, none⟩) (by simp) _).reads hrv (fun x hx => ?_)
        have := HVB.out x hx
        simp
        omega
      have HVL : Hid (∀ x, va = some x → w2.heap.size ≤ x.block) := HVB.out
      obtain ⟨o, ho⟩ : ∃ o : ObjD, o = ⟨C, 2, none, 0, 0, [], va, l.length - 12, vc, l.drop 12⟩ := ⟨_, rfl⟩
      have hok : o.ok wr := by
        rw [ho]
        have hcr : -2147483648 ≤ C ∧ C ≤ 2147483647 := by rw [HCC.out]; exact getV_range (p := 0)
        exact ⟨by dsimp only; omega, by dsimp only; omega, rfl, ⟨Nat.le_refl _, by dsimp only; omega⟩, Reads.nil wr, fun x hx => by simp at hx, by dsimp only; omega, ⟨hvc, hvm⟩, hrv', fun x hx => hb x (List.mem_of_mem_drop hx)⟩
      have HE := Lib.hid (c_Encode o wr hok (by rw [ho]; dsimp only; omega))
      have hv : o.val = .agg #[.int .i64 C, .int .i64 2, .slice none 0 0, .slice va (l.length - 12) vc] := by rw [ho]; rfl
      rw [hv] at HE
      have HOK := Lib.hid hok
      have HOE := Lib.hid ho
      have HLD := Lib.hid hdl
      have j0 := HR1.out.cell (i := 0) rfl
      have j1 := HR1.out.cell (i := 1) rfl
      have j2 := HR1.out.cell (i := 2) rfl
      have j3 := HR1.out.cell (i := 3) rfl
      have hbn : o.bn ≤ 100000 := by rw [ho]; dsimp only; omega
      have HBN := Lib.hid hbn
      subst hwr
      clear hrv hvc hvm hok hv ho own3 b3 R1 R0 hrv' hdl e0 e1 e2 hbn
      go_wp2_with fail
      refine HE.out.mono ?_
      rintro e w4 ⟨v4, rfl, own4, b4⟩
      obtain ⟨a4, c4, rfl, hr4, -, -⟩ := owns_reads own4
      have R1 : Row w4 p1 25 [.int .i64 C, .int .i64 2, .slice none 0 0, .slice va (l.length - 12) vc] := (b4.block p1 HR1.out.lt).trans HR1.out
      have R0 : Row w4 p0 25 [.int .i64 0, .int .i64 0, .slice none 0 0, .slice none 0 0] := (b4.block p0 HR0.out.lt).trans HR0.out
      have HR4 := Lib.hid hr4
      have HOK4 := Lib.hid (HOK.out.below b4)
      have HB4 := Lib.hid (bNext HB.out b4)
      have hle4 : (encO o).length ≤ 100000 := by
        unfold encO
        split
        · rename_i hok
          rw [encB_len, HOE.out]
          dsimp only
          rw [List.length_drop]
          simp only [List.length_nil]
          omega
        · simp
      have HLE := Lib.hid hle4
      have HEQ := Lib.hid (c_EqualB a4 (some ⟨b, of, none⟩) (encO o).length l.length c4 c (encO o) l w4 rfl rfl hr4 (HR.out.below HB4.out) (by omega) (by omega))
      clear own4 hr4 b4 j0 j1 j2 j3 HE hle4
      have hISO : isObj l ↔ (chkE o = 0 ∧ encO o = l) := by
        have e1 : o.cls = decC l := by rw [HOE.out]; exact HCC.out
        have e2 : o.kind = decK l := by rw [HOE.out]; exact HDD.out.2.2.symm
        have e3 : o.W = decW l := by rw [HOE.out]; exact HDD.out.1.symm
        have e4 : o.B = decB l := by rw [HOE.out]; exact HDD.out.2.1.symm
        unfold isObj chkE encO
        rw [e1, e2, e3, e4]
        by_cases hk : okObj (decC l) (decK l) (decW l) (decB l)
        · rw [if_pos hk, if_pos hk]
          exact ⟨fun h => ⟨rfl, h.2.2⟩, fun h => ⟨hn, hk, h.2⟩⟩
        · rw [if_neg hk]
          exact ⟨fun h => absurd h.2.1 hk, fun h => by cases h.1⟩
      have HISO := Lib.hid hISO
      clear hISO
      obtain ⟨n4, hn4⟩ : ∃ z, z = (encO o).length := ⟨_, rfl⟩
      rw [← hn4] at HEQ ⊢
      clear hn4 HLE
      by_cases hE : chkE o = 0
      · rw [hE]
        by_cases hq : encO o = l
        · rw [decide_eq_true hq] at HEQ
          have HIS := Lib.hid (HISO.out.2 ⟨hE, hq⟩)
          clear hE hq
          go_wp2_with fail
          refine HEQ.out.mono ?_
          rintro e w5 ⟨rfl, b5⟩
          have R15 : Row w5 p1 25 [.int .i64 C, .int .i64 2, .slice none 0 0, .slice va (l.length - 12) vc] := (b5.block p1 R1.lt).trans R1
          have R05 : Row w5 p0 25 [.int .i64 0, .int .i64 0, .slice none 0 0, .slice none 0 0] := (b5.block p0 R0.lt).trans R0
          have i0 := R15.cell (i := 0) rfl
          have i1 := R15.cell (i := 1) rfl
          have i2 := R15.cell (i := 2) rfl
          have i3 := R15.cell (i := 3) rfl
          have o0 := R05.cell (i := 0) rfl
          have o1 := R05.cell (i := 1) rfl
          have o2 := R05.cell (i := 2) rfl
          have o3 := R05.cell (i := 3) rfl
          have f0 := R05.free 0
          have f1 := R05.free 1
          have f2 := R05.free 2
          have f3 := R05.free 3
          go_wp2
          obtain ⟨w6, hw6⟩ : ∃ z, z = (((w5.setCell ⟨p0, 0, none⟩ (.int .i64 C)).setCell ⟨p0, 1, none⟩ (.int .i64 2)).setCell ⟨p0, 2, none⟩ (.slice none 0 0)).setCell ⟨p0, 3, none⟩ (.slice va (l.length - 12) vc) := ⟨_, rfl⟩
          have R6 : Row w6 p0 25 [.int .i64 C, .int .i64 2, .slice none 0 0, .slice va (l.length - 12) vc] := by rw [hw6]; exact (((R05.set 0 _).set 1 _).set 2 _).set 3 _
          have U6 : Upd [p0] w5 w6 := by rw [hw6]; exact ((((Upd.refl [p0] w5).setCell (by simp) _).setCell (by simp) _).setCell (by simp) _).setCell (by simp) _
          rw [← hw6]
          clear hw6
          have z0 := R6.cell (i := 0) rfl
          have z1 := R6.cell (i := 1) rfl
          have z2 := R6.cell (i := 2) rfl
          have z3 := R6.cell (i := 3) rfl
          (try simp only [Exit.inBlock, Exit.then])
          refine bodyPost_ret (by rw [results_cell_tmp rfl]; go_simp; rfl) rfl ?_
          have hp := HP.out
          have HB5 := Lib.hid (bNext HB4.out b5)
          have ok5 := HOK4.out.below b5
          have hva : o.wa = none := by rw [HOE.out]
          have hba : o.ba = va := by rw [HOE.out]
          refine ⟨HB5.out.trans (U6.below HB5.out.size (fun k hk => by simp at hk; omega)), .inl ⟨HIS.out, o, by rw [HOE.out]; rfl, ⟨ok5.c0, ok5.k0, ok5.wl, ok5.wm, U6.reads ok5.wr (fun x hx => ?_), ok5.wi, ok5.bl, ok5.bm, U6.reads ok5.br (fun x hx => ?_), ok5.bb⟩, by rw [HOE.out]; exact HCC.out, by rw [HOE.out]; exact HDD.out.2.2.symm, by rw [HOE.out]; exact HDD.out.1.symm, by rw [HOE.out]; exact HDD.out.2.1.symm⟩⟩
          · rw [hva] at hx; cases hx
          · rw [hba] at hx
            have := HVB.out x hx
            simp
            omega
        · rw [decide_eq_false hq] at HEQ
          have HNO := Lib.hid (show ¬ isObj l from fun h => hq (HISO.out.1 h).2)
          clear hE hq
          go_wp2_with fail
          refine HEQ.out.mono ?_
          rintro e w5 ⟨rfl, b5⟩
          have R05 : Row w5 p0 25 [.int .i64 0, .int .i64 0, .slice none 0 0, .slice none 0 0] := (b5.block p0 R0.lt).trans R0
          have HB5 := Lib.hid (bNext HB4.out b5)
          have o0 := R05.cell (i := 0) rfl
          have o1 := R05.cell (i := 1) rfl
          have o2 := R05.cell (i := 2) rfl
          have o3 := R05.cell (i := 3) rfl
          have f0 := R05.free 0
          have f1 := R05.free 1
          have f2 := R05.free 2
          have f3 := R05.free 3
          go_wp2
          obtain ⟨w6, hw6⟩ : ∃ z, z = (((w5.setCell ⟨p0, 0, none⟩ (.int .i64 0)).setCell ⟨p0, 1, none⟩ (.int .i64 0)).setCell ⟨p0, 2, none⟩ (.slice none 0 0)).setCell ⟨p0, 3, none⟩ (.slice none 0 0) := ⟨_, rfl⟩
          have R6 : Row w6 p0 25 [.int .i64 0, .int .i64 0, .slice none 0 0, .slice none 0 0] := by rw [hw6]; exact (((R05.set 0 _).set 1 _).set 2 _).set 3 _
          have U6 : Upd [p0] w5 w6 := by rw [hw6]; exact ((((Upd.refl [p0] w5).setCell (by simp) _).setCell (by simp) _).setCell (by simp) _).setCell (by simp) _
          rw [← hw6]
          clear hw6
          have z0 := R6.cell (i := 0) rfl
          have z1 := R6.cell (i := 1) rfl
          have z2 := R6.cell (i := 2) rfl
          have z3 := R6.cell (i := 3) rfl
          (try simp only [Exit.inBlock, Exit.then])
          refine bodyPost_ret (by rw [results_cell_tmp rfl]; go_simp; rfl) rfl ?_
          have hp := HP.out.1
          exact ⟨HB5.out.trans (U6.below HB5.out.size (fun k hk => by simp at hk; omega)), .inr ⟨HNO.out, rfl⟩⟩
      · have hE2 : chkE o = 2 := by
          unfold chkE at hE ⊢
          split
          · rename_i hx; rw [if_pos hx] at hE; exact absurd rfl hE
          · rfl
        rw [hE2]
        have HNO := Lib.hid (show ¬ isObj l from fun h => hE (HISO.out.1 h).1)
        clear hE hE2
        obtain ⟨w5, rfl⟩ : ∃ z, z = w4 := ⟨_, rfl⟩
        have R05 := R0
        have HB5 := HB4
        have o0 := R05.cell (i := 0) rfl
        have o1 := R05.cell (i := 1) rfl
        have o2 := R05.cell (i := 2) rfl
        have o3 := R05.cell (i := 3) rfl
        have f0 := R05.free 0
        have f1 := R05.free 1
        have f2 := R05.free 2
        have f3 := R05.free 3
        go_wp2
        obtain ⟨w6, hw6⟩ : ∃ z, z = (((w5.setCell ⟨p0, 0, none⟩ (.int .i64 0)).setCell ⟨p0, 1, none⟩ (.int .i64 0)).setCell ⟨p0, 2, none⟩ (.slice none 0 0)).setCell ⟨p0, 3, none⟩ (.slice none 0 0) := ⟨_, rfl⟩
        have R6 : Row w6 p0 25 [.int .i64 0, .int .i64 0, .slice none 0 0, .slice none 0 0] := by rw [hw6]; exact (((R05.set 0 _).set 1 _).set 2 _).set 3 _
        have U6 : Upd [p0] w5 w6 := by rw [hw6]; exact ((((Upd.refl [p0] w5).setCell (by simp) _).setCell (by simp) _).setCell (by simp) _).setCell (by simp) _
        rw [← hw6]
        clear hw6
        have z0 := R6.cell (i := 0) rfl
        have z1 := R6.cell (i := 1) rfl
        have z2 := R6.cell (i := 2) rfl
        have z3 := R6.cell (i := 3) rfl
        (try simp only [Exit.inBlock, Exit.then])
        refine bodyPost_ret (by rw [results_cell_tmp rfl]; go_simp; rfl) rfl ?_
        have hp := HP.out.1
        exact ⟨HB5.out.trans (U6.below HB5.out.size (fun k hk => by simp at hk; omega)), .inr ⟨HNO.out, rfl⟩⟩

end Go.Proofs.Ytdedidjobjdekaa
