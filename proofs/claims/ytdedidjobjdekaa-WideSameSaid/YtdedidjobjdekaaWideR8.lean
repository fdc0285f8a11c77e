/-
  Contracts of the document's package websterref05: Decode, its way of bytes. (Written by r7gen.py.)
-/
import Derived.Test.YtdedidjobjdekaaWideR7
namespace Go.Proofs.Ytdedidjobjdekaa
open Go.RowKit
set_option linter.unusedVariables false
set_option maxHeartbeats 2000000

theorem r_Dec2 (a : Option Addr) (n c : Nat) (l : List Int) (w : World) (e0 : n = l.length) (h : Reads w a c (l.map (Value.int .u8))) (hb : Byt l) (hm : n ≤ 100000) (hc : n ≤ c) (hn : 12 ≤ n) (h1 : decK l ≠ 1) (h2 : 0 ≤ getV l 8 ∧ getV l 8 ≤ 1000) (h3 : (n : Int) = 12 + getV l 8) : Calls Try.prog 22 #[.slice a n c] w (DecPost l w) := by
  have HG := Lib.hid (fun w' (h' : Reads w' a c (l.map (Value.int .u8))) p (hp : -9223372036854775808 ≤ p ∧ p ≤ 9223372036854775807) => r_Get a n c l p w' e0 (by omega) h' hb hp.1 hp.2)
  have HR := Lib.hid h
  clear h
  obtain ⟨C, hC⟩ : ∃ C, C = getV l 0 := ⟨_, rfl⟩
  obtain ⟨K, hK⟩ : ∃ K, K = getV l 4 := ⟨_, rfl⟩
  obtain ⟨N, hN⟩ : ∃ N, N = getV l 8 := ⟨_, rfl⟩
  have hCr : -2147483648 ≤ C ∧ C ≤ 2147483647 := by rw [hC]; exact getV_range (p := 0)
  have hKr : -2147483648 ≤ K ∧ K ≤ 2147483647 := by rw [hK]; exact getV_range (p := 4)
  have hNr : -2147483648 ≤ N ∧ N ≤ 2147483647 := by rw [hN]; exact getV_range (p := 8)
  have HCR := Lib.hid (And.intro hCr hKr)
  have HCK := Lib.hid (And.intro hC (And.intro hK hN))
  clear hC hK hN hCr
  have key : getE l.length 0 = 0 ∧ getE l.length 4 = 0 ∧ getE l.length 8 = 0 := ⟨getE_yes (by omega), getE_yes (by omega), getE_yes (by omega)⟩
  have EE := Lib.hid key
  clear key
  have HREF := Lib.hid (isObj_iff hb)
  have hKn : K ≠ 1 := by rw [HCK.out.2.1]; exact h1
  have hN0 : N = getV l 8 := HCK.out.2.2
  rw [← hN0] at h2 h3
  obtain ⟨m, rfl⟩ : ∃ m : Nat, N = m := ⟨N.toNat, by omega⟩
  have hm1 : m ≤ 1000 := by omega
  obtain rfl : n = 12 + m := by omega
  have hlen : l.length = 12 + m := by omega
  have hdW : decW l = [] := by unfold decW; rw [if_neg h1]
  have hkk : decK l = K := HCK.out.2.1.symm
  have hcc0 : decC l = C := HCK.out.1.symm
  have HISO0 := Lib.hid (show isObj l ↔ okObj C K [] (l.drop 12) from by
    rw [HREF.out]
    unfold isRef
    rw [hdW, ← hN0, hkk, hcc0]
    by_cases k2 : K = 2
    · have hdB : decB l = l.drop 12 := by unfold decB; rw [hkk, if_pos k2]
      rw [hdB]
      exact ⟨fun h => h.2.2.2, fun h => ⟨by omega, ⟨by omega, by omega⟩, .inr ⟨hKn, by omega⟩, h⟩⟩
    · constructor
      · intro h
        rcases h.2.2.2.2 with h' | h'
        · exact absurd h'.1 hKn
        · exact absurd h'.1 k2
      · intro h
        rcases h.2 with h' | h'
        · exact absurd h'.1 hKn
        · exact absurd h'.1 k2)
  have HD := Lib.hid (show isObj l → decW l = [] ∧ decB l = l.drop 12 from fun h => ⟨hdW, by
    have h' := HISO0.out.1 h
    rcases h'.2 with h' | h'
    · exact absurd h'.1 hKn
    · unfold decB; rw [hkk, if_pos h'.1]⟩)
  have HLEN := Lib.hid hlen
  have hge0 : ((m : Int) < 0) = False := eq_false (by omega)
  have hge1 : ((m : Int) > 1000) = False := eq_false (by omega)
  have hge2 : ((1000 : Int) < m) = False := eq_false (by omega)
  have q3 : (K == 1) = false := by simpa using hKn
  have HBY := Lib.hid hb
  have hpos : 0 < (l.map (Value.int .u8)).length := by simp; omega
  clear h1 h2 h3 hN0 hdW hkk hcc0 hb hKn e0 hn hNr
  obtain ⟨w2, hw2⟩ : ∃ z, z = ((w.alloc (.cells #[.int .i64 0, .int .i64 0, .slice none 0 0, .slice none 0 0] 25)).alloc (.cells #[.int .i64 C, .int .i64 K, .slice none 0 0, .slice none 0 0] 25)) := ⟨_, rfl⟩
  have hrow : Row w2 (w.heap.size + 1) 25 [.int .i64 C, .int .i64 K, .slice none 0 0, .slice none 0 0] := by
    rw [hw2]
    have := Row.made (w.alloc (.cells #[.int .i64 0, .int .i64 0, .slice none 0 0, .slice none 0 0] 25)) [.int .i64 C, .int .i64 K, .slice none 0 0, .slice none 0 0] 25
    simpa using this
  have hrow0 : Row w2 w.heap.size 25 [.int .i64 0, .int .i64 0, .slice none 0 0, .slice none 0 0] := by
    rw [hw2]
    exact (Row.made w [.int .i64 0, .int .i64 0, .slice none 0 0, .slice none 0 0] 25).alloc _
  have hbel : Below w.heap.size w w2 := by rw [hw2]; exact bAlloc ((Below.refl _ w).alloc (Nat.le_refl _) _)
  have hsz : w2.heap.size = w.heap.size + 2 := by rw [hw2]; simp
  have HW2 := Lib.hid hw2
  have HROW := Lib.hid hrow
  have HROW0 := Lib.hid hrow0
  have HBEL := Lib.hid hbel
  obtain ⟨p0, hp0⟩ : ∃ p, p = w.heap.size := ⟨_, rfl⟩
  obtain ⟨p1, hp1⟩ : ∃ p, p = w.heap.size + 1 := ⟨_, rfl⟩
  rw [← hp1] at HROW
  rw [← hp0] at HROW0
  have HP := Lib.hid (And.intro hp0 (And.intro hp1 hsz))
  clear hrow hrow0 hbel hw2 hsz hp0 hp1
  obtain ⟨b, of, rfl, -, -⟩ := HR.out.at hpos
  go_enter Try.func22, Try.ntmps22
  go_wp2_with fail
  refine (HG.out _ ((HR.out.alloc _)) 0 (by decide)).mono ?_
  rintro e w' ⟨rfl, rfl⟩
  rw [← HCK.out.1, EE.out.1]
  go_wp2_with fail
  refine (HG.out _ ((HR.out.alloc _)) 4 (by decide)).mono ?_
  rintro e w' ⟨rfl, rfl⟩
  rw [← HCK.out.2.1, EE.out.2.1]
  go_wp2_with fail
  refine (HG.out _ ((HR.out.alloc _)) 8 (by decide)).mono ?_
  rintro e w' ⟨rfl, rfl⟩
  rw [← HCK.out.2.2, EE.out.2.2]
  dsimp only
  by_cases hcc : c = 12
  · have hry : Reads w2 (some ⟨b, of, none⟩) 0 ((l.drop 12).map (Value.int .u8)) := by
      rw [List.drop_of_length_le (by omega)]
      exact Reads.empty (fun h => by cases h)
    have HCL := Lib.hid (c_CopyW (some ⟨b, of, none⟩) m 0 (l.drop 12) w2 (by simp; omega) hry (by omega))
    rw [HW2.out] at HCL
    clear hry hpos hlen
    go_wp2_with fail
    refine HCL.out.mono ?_
    rw [← HW2.out]
    clear HCL hcc hge0 hge1 hge2 q3
    rintro e w3 ⟨v3, rfl, own3, b3⟩
    have hdl : (l.drop 12).length = m := by have := HLEN.out; simp; omega
    rw [hdl] at own3
    obtain ⟨va, vc, rfl, hrv, hvc, hvb⟩ := owns_reads own3
    have hvm := owns_cap own3
    obtain ⟨e0, e1, e2⟩ := HP.out
    have R1 : Row w3 p1 25 [.int .i64 C, .int .i64 K, .slice none 0 0, .slice none 0 0] := (b3.block p1 (by omega)).trans HROW.out
    have R0 : Row w3 p0 25 [.int .i64 0, .int .i64 0, .slice none 0 0, .slice none 0 0] := (b3.block p0 (by omega)).trans HROW0.out
    rw [← e1, ← e0]
    have kc3 := R1.cell (i := 3) rfl
    have kf3 := R1.free 3
    obtain ⟨w4, hw4⟩ : ∃ z, z = w3.setCell ⟨p1, 3, none⟩ (.slice va m vc) := ⟨_, rfl⟩
    have HR14 : Hid (Row w4 p1 25 [.int .i64 C, .int .i64 K, .slice none 0 0, .slice va m vc]) := by rw [hw4]; exact R1.set 3 _
    have HR04 : Hid (Row w4 p0 25 [.int .i64 0, .int .i64 0, .slice none 0 0, .slice none 0 0]) := by rw [hw4]; exact R0.setOther (p := ⟨p1, 3, none⟩) (by show p1 ≠ p0; omega) _
    have HB4 : Hid (Below w.heap.size w w4) := by rw [hw4]; exact (bNext HBEL.out b3).setCell (p := ⟨p1, 3, none⟩) (by show w.heap.size ≤ p1; omega) _
    have hrv' : Reads w4 va vc ((l.drop 12).map (Value.int .u8)) := by
      rw [hw4]
      refine ((Upd.refl [p1] w3).setCell (p := ⟨p1, 3, none⟩) (by simp) _).reads hrv (fun x hx => ?_)
      have := (hvb x hx).1
      simp
      omega
    obtain ⟨o, ho⟩ : ∃ o : ObjD, o = ⟨C, K, none, 0, 0, [], va, m, vc, l.drop 12⟩ := ⟨_, rfl⟩
    have HVBb : Hid (∀ x, o.ba = some x → w2.heap.size ≤ x.block) := fun x hx => (hvb x (by rw [ho] at hx; exact hx)).1
    have HVW : Hid (∀ x, o.wa = some x → w2.heap.size ≤ x.block) := fun x hx => by rw [ho] at hx; cases hx
    have hok : o.ok w4 := by
      rw [ho]
      have hcr := HCR.out.1
      have hkr := HCR.out.2
      exact ⟨by dsimp only; omega, by dsimp only; omega, rfl, ⟨Nat.le_refl _, by dsimp only; omega⟩, Reads.nil w4, fun x hx => by simp at hx, hdl.symm, ⟨hvc, hvm⟩, hrv', fun x hx => HBY.out x (List.mem_of_mem_drop hx)⟩
    have HOE := Lib.hid ho
    have HISO := Lib.hid (show isObj l ↔ chkE o = 0 from by
      rw [HISO0.out]
      unfold chkE
      rw [HOE.out]
      dsimp only
      split
      · rename_i hx; exact ⟨fun _ => rfl, fun _ => hx⟩
      · rename_i hx; exact ⟨fun h => absurd h hx, fun h => by cases h⟩)
    have HF := Lib.hid (show isObj l → (o.cls = decC l ∧ o.kind = decK l ∧ o.W = decW l ∧ o.B = decB l) from fun h => by
      rw [HOE.out]
      obtain ⟨g1, g2⟩ := HD.out h
      exact ⟨HCK.out.1, HCK.out.2.1, g1.symm, g2.symm⟩)
    have HOK4 := Lib.hid hok
    have HN8 := Lib.hid (show m ≤ 100000 from by omega)
    subst hw4
    clear hok ho hrv hrv' hvc hvb hvm own3 b3 hdl e0 e1 e2 R1 R0
    have HCK4 := Lib.hid (r_Check o (w3.setCell ⟨p1, 3, none⟩ (.slice va m vc)) HOK4.out (by rw [HOE.out]; dsimp only; omega) (by rw [HOE.out]; dsimp only; have := HN8.out; omega))
    have hv : o.val = .agg #[.int .i64 C, .int .i64 K, .slice none 0 0, .slice va m vc] := by rw [HOE.out]; rfl
    rw [hv] at HCK4
    clear hv
    have j0 := HR14.out.cell (i := 0) rfl
    have j1 := HR14.out.cell (i := 1) rfl
    have j2 := HR14.out.cell (i := 2) rfl
    have j3 := HR14.out.cell (i := 3) rfl
    by_cases hE : chkE o = 0
    · have HIS := Lib.hid (HISO.out.2 hE)
      have HF4 := Lib.hid (HF.out HIS.out)
      rw [hE] at HCK4
      clear hE
      go_wp2_with fail
      refine HCK4.out.mono ?_
      rintro e w5 ⟨rfl, b5⟩
      have R15 : Row w5 p1 25 [.int .i64 C, .int .i64 K, .slice none 0 0, .slice va m vc] := (b5.block p1 HR14.out.lt).trans HR14.out
      have R05 : Row w5 p0 25 [.int .i64 0, .int .i64 0, .slice none 0 0, .slice none 0 0] := (b5.block p0 HR04.out.lt).trans HR04.out
      have HB5 := Lib.hid (bNext HB4.out b5)
      have HOK5 := Lib.hid (HOK4.out.below b5)
      clear b5 j0 j1 j2 j3 HCK4
      have j0 := R15.cell (i := 0) rfl
      have j1 := R15.cell (i := 1) rfl
      have j2 := R15.cell (i := 2) rfl
      have j3 := R15.cell (i := 3) rfl
      have o0 := R05.cell (i := 0) rfl
      have o1 := R05.cell (i := 1) rfl
      have o2 := R05.cell (i := 2) rfl
      have o3 := R05.cell (i := 3) rfl
      have f0 := R05.free 0
      have f1 := R05.free 1
      have f2 := R05.free 2
      have f3 := R05.free 3
      go_wp2
      obtain ⟨w6, hw6⟩ : ∃ z, z = (((w5.setCell ⟨p0, 0, none⟩ (.int .i64 C)).setCell ⟨p0, 1, none⟩ (.int .i64 K)).setCell ⟨p0, 2, none⟩ (.slice none 0 0)).setCell ⟨p0, 3, none⟩ (.slice va m vc) := ⟨_, rfl⟩
      have R6 : Row w6 p0 25 [.int .i64 C, .int .i64 K, .slice none 0 0, .slice va m vc] := by rw [hw6]; exact (((R05.set 0 _).set 1 _).set 2 _).set 3 _
      have U6 : Upd [p0] w5 w6 := by rw [hw6]; exact ((((Upd.refl [p0] w5).setCell (by simp) _).setCell (by simp) _).setCell (by simp) _).setCell (by simp) _
      rw [← hw6]
      clear hw6
      have z0 := R6.cell (i := 0) rfl
      have z1 := R6.cell (i := 1) rfl
      have z2 := R6.cell (i := 2) rfl
      have z3 := R6.cell (i := 3) rfl
      (try simp only [Exit.inBlock, Exit.then])
      refine bodyPost_ret (by rw [results_cell_tmp rfl]; go_simp; rfl) rfl ?_
      have hp := HP.out
      have ok5 := HOK5.out
      refine ⟨HB5.out.trans (U6.below HB5.out.size (fun k hk => by simp at hk; omega)), .inl ⟨HIS.out, o, by rw [HOE.out]; rfl, ⟨ok5.c0, ok5.k0, ok5.wl, ok5.wm, U6.reads ok5.wr (fun x hx => ?_), ok5.wi, ok5.bl, ok5.bm, U6.reads ok5.br (fun x hx => ?_), ok5.bb⟩, HF4.out.1, HF4.out.2.1, HF4.out.2.2.1, HF4.out.2.2.2⟩⟩
      · have := HVW.out x hx
        simp
        omega
      · have := HVBb.out x hx
        simp
        omega
    · have hE2 : chkE o = 2 := by
        unfold chkE at hE ⊢
        split
        · rename_i hx; rw [if_pos hx] at hE; exact absurd rfl hE
        · rfl
      have HNO := Lib.hid (show ¬ isObj l from fun h => hE (HISO.out.1 h))
      rw [hE2] at HCK4
      clear hE hE2
      go_wp2_with fail
      refine HCK4.out.mono ?_
      rintro e w5 ⟨rfl, b5⟩
      have R05 : Row w5 p0 25 [.int .i64 0, .int .i64 0, .slice none 0 0, .slice none 0 0] := (b5.block p0 HR04.out.lt).trans HR04.out
      have HB5 := Lib.hid (bNext HB4.out b5)
      clear b5 j0 j1 j2 j3 HCK4
      have o0 := R05.cell (i := 0) rfl
      have o1 := R05.cell (i := 1) rfl
      have o2 := R05.cell (i := 2) rfl
      have o3 := R05.cell (i := 3) rfl
      have f0 := R05.free 0
      have f1 := R05.free 1
      have f2 := R05.free 2
      have f3 := R05.free 3
      go_wp2
      obtain ⟨w6, hw6⟩ : ∃ z, z = (((w5.setCell ⟨p0, 0, none⟩ (.int .i64 0)).setCell ⟨p0, 1, none⟩ (.int .i64 0)).setCell ⟨p0, 2, none⟩ (.slice none 0 0)).setCell ⟨p0, 3, none⟩ (.slice none 0 0) := ⟨_, rfl⟩
      have R6 : Row w6 p0 25 [.int .i64 0, .int .i64 0, .slice none 0 0, .slice none 0 0] := by rw [hw6]; exact (((R05.set 0 _).set 1 _).set 2 _).set 3 _
      have U6 : Upd [p0] w5 w6 := by rw [hw6]; exact ((((Upd.refl [p0] w5).setCell (by simp) _).setCell (by simp) _).setCell (by simp) _).setCell (by simp) _
      rw [← hw6]
      clear hw6
      have z0 := R6.cell (i := 0) rfl
      have z1 := R6.cell (i := 1) rfl
      have z2 := R6.cell (i := 2) rfl
      have z3 := R6.cell (i := 3) rfl
      (try simp only [Exit.inBlock, Exit.then])
      refine bodyPost_ret (by rw [results_cell_tmp rfl]; go_simp; rfl) rfl ?_
      have hp := HP.out.1
      exact ⟨HB5.out.trans (U6.below HB5.out.size (fun k hk => by simp at hk; omega)), .inr ⟨HNO.out, rfl⟩⟩
  · have hry : Reads w2 (some ⟨b, of + 12, none⟩) (c - 12) ((l.drop 12).map (Value.int .u8)) := by
      have hh := HR.out.below HBEL.out
      rw [← List.take_append_drop 12 l, List.map_append] at hh
      have := reads_rightW (c' := c - 12) hh
      rwa [List.length_map, List.length_take, Nat.min_eq_left (by omega)] at this
    have HCL := Lib.hid (c_CopyW (some ⟨b, of + 12, none⟩) m (c - 12) (l.drop 12) w2 (by simp; omega) hry (by omega))
    rw [HW2.out] at HCL
    clear hry hpos hlen
    go_wp2_with fail
    refine HCL.out.mono ?_
    rw [← HW2.out]
    clear HCL hcc hge0 hge1 hge2 q3
    rintro e w3 ⟨v3, rfl, own3, b3⟩
    have hdl : (l.drop 12).length = m := by have := HLEN.out; simp; omega
    rw [hdl] at own3
    obtain ⟨va, vc, rfl, hrv, hvc, hvb⟩ := owns_reads own3
    have hvm := owns_cap own3
    obtain ⟨e0, e1, e2⟩ := HP.out
    have R1 : Row w3 p1 25 [.int .i64 C, .int .i64 K, .slice none 0 0, .slice none 0 0] := (b3.block p1 (by omega)).trans HROW.out
    have R0 : Row w3 p0 25 [.int .i64 0, .int .i64 0, .slice none 0 0, .slice none 0 0] := (b3.block p0 (by omega)).trans HROW0.out
    rw [← e1, ← e0]
    have kc3 := R1.cell (i := 3) rfl
    have kf3 := R1.free 3
    obtain ⟨w4, hw4⟩ : ∃ z, z = w3.setCell ⟨p1, 3, none⟩ (.slice va m vc) := ⟨_, rfl⟩
    have HR14 : Hid (Row w4 p1 25 [.int .i64 C, .int .i64 K, .slice none 0 0, .slice va m vc]) := by rw [hw4]; exact R1.set 3 _
    have HR04 : Hid (Row w4 p0 25 [.int .i64 0, .int .i64 0, .slice none 0 0, .slice none 0 0]) := by rw [hw4]; exact R0.setOther (p := ⟨p1, 3, none⟩) (by show p1 ≠ p0; omega) _
    have HB4 : Hid (Below w.heap.size w w4) := by rw [hw4]; exact (bNext HBEL.out b3).setCell (p := ⟨p1, 3, none⟩) (by show w.heap.size ≤ p1; omega) _
    have hrv' : Reads w4 va vc ((l.drop 12).map (Value.int .u8)) := by
      rw [hw4]
      refine ((Upd.refl [p1] w3).setCell (p := ⟨p1, 3, none⟩) (by simp) _).reads hrv (fun x hx => ?_)
      have := (hvb x hx).1
      simp
      omega
    obtain ⟨o, ho⟩ : ∃ o : ObjD, o = ⟨C, K, none, 0, 0, [], va, m, vc, l.drop 12⟩ := ⟨_, rfl⟩
    have HVBb : Hid (∀ x, o.ba = some x → w2.heap.size ≤ x.block) := fun x hx => (hvb x (by rw [ho] at hx; exact hx)).1
    have HVW : Hid (∀ x, o.wa = some x → w2.heap.size ≤ x.block) := fun x hx => by rw [ho] at hx; cases hx
    have hok : o.ok w4 := by
      rw [ho]
      have hcr := HCR.out.1
      have hkr := HCR.out.2
      exact ⟨by dsimp only; omega, by dsimp only; omega, rfl, ⟨Nat.le_refl _, by dsimp only; omega⟩, Reads.nil w4, fun x hx => by simp at hx, hdl.symm, ⟨hvc, hvm⟩, hrv', fun x hx => HBY.out x (List.mem_of_mem_drop hx)⟩
    have HOE := Lib.hid ho
    have HISO := Lib.hid (show isObj l ↔ chkE o = 0 from by
      rw [HISO0.out]
      unfold chkE
      rw [HOE.out]
      dsimp only
      split
      · rename_i hx; exact ⟨fun _ => rfl, fun _ => hx⟩
      · rename_i hx; exact ⟨fun h => absurd h hx, fun h => by cases h⟩)
    have HF := Lib.hid (show isObj l → (o.cls = decC l ∧ o.kind = decK l ∧ o.W = decW l ∧ o.B = decB l) from fun h => by
      rw [HOE.out]
      obtain ⟨g1, g2⟩ := HD.out h
      exact ⟨HCK.out.1, HCK.out.2.1, g1.symm, g2.symm⟩)
    have HOK4 := Lib.hid hok
    have HN8 := Lib.hid (show m ≤ 100000 from by omega)
    subst hw4
    clear hok ho hrv hrv' hvc hvb hvm own3 b3 hdl e0 e1 e2 R1 R0
    have HCK4 := Lib.hid (r_Check o (w3.setCell ⟨p1, 3, none⟩ (.slice va m vc)) HOK4.out (by rw [HOE.out]; dsimp only; omega) (by rw [HOE.out]; dsimp only; have := HN8.out; omega))
    have hv : o.val = .agg #[.int .i64 C, .int .i64 K, .slice none 0 0, .slice va m vc] := by rw [HOE.out]; rfl
    rw [hv] at HCK4
    clear hv
    have j0 := HR14.out.cell (i := 0) rfl
    have j1 := HR14.out.cell (i := 1) rfl
    have j2 := HR14.out.cell (i := 2) rfl
    have j3 := HR14.out.cell (i := 3) rfl
    by_cases hE : chkE o = 0
    · have HIS := Lib.hid (HISO.out.2 hE)
      have HF4 := Lib.hid (HF.out HIS.out)
      rw [hE] at HCK4
      clear hE
      go_wp2_with fail
      refine HCK4.out.mono ?_
      rintro e w5 ⟨rfl, b5⟩
      have R15 : Row w5 p1 25 [.int .i64 C, .int .i64 K, .slice none 0 0, .slice va m vc] := (b5.block p1 HR14.out.lt).trans HR14.out
      have R05 : Row w5 p0 25 [.int .i64 0, .int .i64 0, .slice none 0 0, .slice none 0 0] := (b5.block p0 HR04.out.lt).trans HR04.out
      have HB5 := Lib.hid (bNext HB4.out b5)
      have HOK5 := Lib.hid (HOK4.out.below b5)
      clear b5 j0 j1 j2 j3 HCK4
      have j0 := R15.cell (i := 0) rfl
      have j1 := R15.cell (i := 1) rfl
      have j2 := R15.cell (i := 2) rfl
      have j3 := R15.cell (i := 3) rfl
      have o0 := R05.cell (i := 0) rfl
      have o1 := R05.cell (i := 1) rfl
      have o2 := R05.cell (i := 2) rfl
      have o3 := R05.cell (i := 3) rfl
      have f0 := R05.free 0
      have f1 := R05.free 1
      have f2 := R05.free 2
      have f3 := R05.free 3
      go_wp2
      obtain ⟨w6, hw6⟩ : ∃ z, z = (((w5.setCell ⟨p0, 0, none⟩ (.int .i64 C)).setCell ⟨p0, 1, none⟩ (.int .i64 K)).setCell ⟨p0, 2, none⟩ (.slice none 0 0)).setCell ⟨p0, 3, none⟩ (.slice va m vc) := ⟨_, rfl⟩
      have R6 : Row w6 p0 25 [.int .i64 C, .int .i64 K, .slice none 0 0, .slice va m vc] := by rw [hw6]; exact (((R05.set 0 _).set 1 _).set 2 _).set 3 _
      have U6 : Upd [p0] w5 w6 := by rw [hw6]; exact ((((Upd.refl [p0] w5).setCell (by simp) _).setCell (by simp) _).setCell (by simp) _).setCell (by simp) _
      rw [← hw6]
      clear hw6
      have z0 := R6.cell (i := 0) rfl
      have z1 := R6.cell (i := 1) rfl
      have z2 := R6.cell (i := 2) rfl
      have z3 := R6.cell (i := 3) rfl
      (try simp only [Exit.inBlock, Exit.then])
      refine bodyPost_ret (by rw [results_cell_tmp rfl]; go_simp; rfl) rfl ?_
      have hp := HP.out
      have ok5 := HOK5.out
      refine ⟨HB5.out.trans (U6.below HB5.out.size (fun k hk => by simp at hk; omega)), .inl ⟨HIS.out, o, by rw [HOE.out]; rfl, ⟨ok5.c0, ok5.k0, ok5.wl, ok5.wm, U6.reads ok5.wr (fun x hx => ?_), ok5.wi, ok5.bl, ok5.bm, U6.reads ok5.br (fun x hx => ?_), ok5.bb⟩, HF4.out.1, HF4.out.2.1, HF4.out.2.2.1, HF4.out.2.2.2⟩⟩
      · have := HVW.out x hx
        simp
        omega
      · have := HVBb.out x hx
        simp
        omega
    · have hE2 : chkE o = 2 := by
        unfold chkE at hE ⊢
        split
        · rename_i hx; rw [if_pos hx] at hE; exact absurd rfl hE
        · rfl
      have HNO := Lib.hid (show ¬ isObj l from fun h => hE (HISO.out.1 h))
      rw [hE2] at HCK4
      clear hE hE2
      go_wp2_with fail
      refine HCK4.out.mono ?_
      rintro e w5 ⟨rfl, b5⟩
      have R05 : Row w5 p0 25 [.int .i64 0, .int .i64 0, .slice none 0 0, .slice none 0 0] := (b5.block p0 HR04.out.lt).trans HR04.out
      have HB5 := Lib.hid (bNext HB4.out b5)
      clear b5 j0 j1 j2 j3 HCK4
      have o0 := R05.cell (i := 0) rfl
      have o1 := R05.cell (i := 1) rfl
      have o2 := R05.cell (i := 2) rfl
      have o3 := R05.cell (i := 3) rfl
      have f0 := R05.free 0
      have f1 := R05.free 1
      have f2 := R05.free 2
      have f3 := R05.free 3
      go_wp2
      obtain ⟨w6, hw6⟩ : ∃ z, z = (((w5.setCell ⟨p0, 0, none⟩ (.int .i64 0)).setCell ⟨p0, 1, none⟩ (.int .i64 0)).setCell ⟨p0, 2, none⟩ (.slice none 0 0)).setCell ⟨p0, 3, none⟩ (.slice none 0 0) := ⟨_, rfl⟩
      have R6 : Row w6 p0 25 [.int .i64 0, .int .i64 0, .slice none 0 0, .slice none 0 0] := by rw [hw6]; exact (((R05.set 0 _).set 1 _).set 2 _).set 3 _
      have U6 : Upd [p0] w5 w6 := by rw [hw6]; exact ((((Upd.refl [p0] w5).setCell (by simp) _).setCell (by simp) _).setCell (by simp) _).setCell (by simp) _
      rw [← hw6]
      clear hw6
      have z0 := R6.cell (i := 0) rfl
      have z1 := R6.cell (i := 1) rfl
      have z2 := R6.cell (i := 2) rfl
      have z3 := R6.cell (i := 3) rfl
      (try simp only [Exit.inBlock, Exit.then])
      refine bodyPost_ret (by rw [results_cell_tmp rfl]; go_simp; rfl) rfl ?_
      have hp := HP.out.1
      exact ⟨HB5.out.trans (U6.below HB5.out.size (fun k hk => by simp at hk; omega)), .inr ⟨HNO.out, rfl⟩⟩

end Go.Proofs.Ytdedidjobjdekaa
