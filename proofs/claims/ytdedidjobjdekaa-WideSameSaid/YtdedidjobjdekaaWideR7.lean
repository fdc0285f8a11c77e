/-
  Contracts of the document's package websterref05: Decode, its two good ways. (Written by r7gen.py.)
-/
import Derived.Test.YtdedidjobjdekaaWideR6
namespace Go.Proofs.Ytdedidjobjdekaa
open Go.RowKit
set_option linter.unusedVariables false
set_option maxHeartbeats 2000000

theorem c_CopyW (a : Option Addr) (n c : Nat) (l : List Int) (w : World) (e0 : n = l.length) (h : Reads w a c (l.map (Value.int .u8))) (hm : n ≤ 1000000000) :
    Calls Try.prog 16 #[.slice a n c] w (MadeBytes w l) := by
  subst e0
  go_enter Try.func16, Try.ntmps16
  go_wp2_with (at_builtin; refine wpList_app rfl _ _ 23 rfl w.heap.size 5 (.int .u8 0) 1 1 Try.underlying23 inf_u8 rfl (by decide) _ 0 [] rfl (World.ownsRow_nil _ _ _ _) a l.length c _ rfl (by simp) h (ints_one _ _) (by unfold maxLen; omega) (by omega) (Nat.le_refl _) ?_)
  intro v1 w1 own1 gr1
  have bel1 : Below w.heap.size w w1 := (Below.refl _ _).grown gr1 (Nat.le_refl _) (fun k hk => by cases hk)
  clear gr1
  go_wp2
  go_ret
  exact ⟨v1, rfl, own1, bel1⟩

theorem r_Dec1 (a : Option Addr) (n c : Nat) (l : List Int) (w : World) (e0 : n = l.length) (h : Reads w a c (l.map (Value.int .u8))) (hb : Byt l) (hm : n ≤ 100000) (hn : 12 ≤ n) (h1 : decK l = 1) (h2 : 0 ≤ getV l 8 ∧ getV l 8 ≤ 1000) (h3 : (n : Int) = 12 + 4 * getV l 8) : Calls Try.prog 22 #[.slice a n c] w (DecPost l w) := by
  subst e0
  have HG := Lib.hid (fun w' (h' : Reads w' a c (l.map (Value.int .u8))) p (hp : -9223372036854775808 ≤ p ∧ p ≤ 9223372036854775807) => r_Get a l.length c l p w' rfl (by omega) h' hb hp.1 hp.2)
  have HR := Lib.hid h
  clear h
  obtain ⟨C, hC⟩ : ∃ C, C = getV l 0 := ⟨_, rfl⟩
  obtain ⟨K, hK⟩ : ∃ K, K = getV l 4 := ⟨_, rfl⟩
  obtain ⟨N, hN⟩ : ∃ N, N = getV l 8 := ⟨_, rfl⟩
  have hCr : -2147483648 ≤ C ∧ C ≤ 2147483647 := by rw [hC]; exact getV_range (p := 0)
  have hKr : -2147483648 ≤ K ∧ K ≤ 2147483647 := by rw [hK]; exact getV_range (p := 4)
  have hNr : -2147483648 ≤ N ∧ N ≤ 2147483647 := by rw [hN]; exact getV_range (p := 8)
  have HCR := Lib.hid (And.intro hCr hKr)
  have HCK := Lib.hid (And.intro hC (And.intro hK hN))
  clear hC hK hN hCr
  have key : getE l.length 0 = 0 ∧ getE l.length 4 = 0 ∧ getE l.length 8 = 0 := ⟨getE_yes (by omega), getE_yes (by omega), getE_yes (by omega)⟩
  have EE := Lib.hid key
  clear key
  have HREF := Lib.hid (isObj_iff hb)
  have hK1 : K = 1 := by rw [HCK.out.2.1]; exact h1
  subst hK1
  have hN0 : N = getV l 8 := HCK.out.2.2
  rw [← hN0] at h2 h3
  obtain ⟨m, rfl⟩ : ∃ m : Nat, N = m := ⟨N.toNat, by omega⟩
  have hm1 : m ≤ 1000 := by omega
  have hlen : l.length = 12 + 4 * m := by omega
  have hdW : decW l = words l 12 m := by unfold decW; rw [if_pos h1]; congr 1; omega
  have hdB : decB l = [] := by unfold decB; rw [if_neg (by omega)]
  have HISO0 := Lib.hid (show isObj l ↔ okObj C 1 (words l 12 m) [] from by
    rw [HREF.out]
    unfold isRef
    rw [hdW, hdB, ← hN0, h1]
    have hc : decC l = C := HCK.out.1.symm
    rw [hc]
    exact ⟨fun h => h.2.2.2, fun h => ⟨by omega, ⟨by omega, by omega⟩, .inl ⟨rfl, by omega⟩, h⟩⟩)
  have HD := Lib.hid (And.intro hdW (And.intro hdB h1))
  have HLEN := Lib.hid hlen
  have hge0 : ((m : Int) < 0) = False := eq_false (by omega)
  have hge1 : ((m : Int) > 1000) = False := eq_false (by omega)
  have hge2 : ((1000 : Int) < m) = False := eq_false (by omega)
  have q1 : ((l.length : Int) == 12 + 4 * (m : Int)) = true := by simp; omega
  have q2 : ((l.length : Int) != 12 + 4 * (m : Int)) = false := by simp; omega
  clear h1 h2 h3 hN0 hdW hdB hlen hb
  obtain ⟨w2, hw2⟩ : ∃ z, z = ((w.alloc (.cells #[.int .i64 0, .int .i64 0, .slice none 0 0, .slice none 0 0] 25)).alloc (.cells #[.int .i64 C, .int .i64 1, .slice none 0 0, .slice none 0 0] 25)) := ⟨_, rfl⟩
  have hrow : Row w2 (w.heap.size + 1) 25 [.int .i64 C, .int .i64 1, .slice none 0 0, .slice none 0 0] := by
    rw [hw2]
    have := Row.made (w.alloc (.cells #[.int .i64 0, .int .i64 0, .slice none 0 0, .slice none 0 0] 25)) [.int .i64 C, .int .i64 1, .slice none 0 0, .slice none 0 0] 25
    simpa using this
  have hrow0 : Row w2 w.heap.size 25 [.int .i64 0, .int .i64 0, .slice none 0 0, .slice none 0 0] := by
    rw [hw2]
    exact (Row.made w [.int .i64 0, .int .i64 0, .slice none 0 0, .slice none 0 0] 25).alloc _
  have hbel : Below w.heap.size w w2 := by rw [hw2]; exact bAlloc ((Below.refl _ w).alloc (Nat.le_refl _) _)
  have hsz : w2.heap.size = w.heap.size + 2 := by rw [hw2]; simp
  have HW2 := Lib.hid hw2
  have HROW := Lib.hid hrow
  have HROW0 := Lib.hid hrow0
  have HBEL := Lib.hid hbel
  obtain ⟨p0, hp0⟩ : ∃ p, p = w.heap.size := ⟨_, rfl⟩
  obtain ⟨p1, hp1⟩ : ∃ p, p = w.heap.size + 1 := ⟨_, rfl⟩
  rw [← hp1] at HROW
  rw [← hp0] at HROW0
  have HP := Lib.hid (And.intro hp0 (And.intro hp1 hsz))
  clear hrow hrow0 hbel hw2 hsz hp0 hp1
  go_enter Try.func22, Try.ntmps22
  go_wp2_with fail
  refine (HG.out _ ((HR.out.alloc _)) 0 (by decide)).mono ?_
  rintro e w' ⟨rfl, rfl⟩
  rw [← HCK.out.1, EE.out.1]
  go_wp2_with fail
  refine (HG.out _ ((HR.out.alloc _)) 4 (by decide)).mono ?_
  rintro e w' ⟨rfl, rfl⟩
  rw [← HCK.out.2.1, EE.out.2.1]
  go_wp2_with fail
  refine (HG.out _ ((HR.out.alloc _)) 8 (by decide)).mono ?_
  rintro e w' ⟨rfl, rfl⟩
  rw [← HCK.out.2.2, EE.out.2.2]
  dsimp only
  go_wp2
  rw [← HW2.out, ← HP.out.2.1, ← HP.out.1]
  clear hge0 hge1 hge2 q1 q2
  go_loopw [11] (fun i wr => ∃ (k : Nat) (v : Value), k ≤ m ∧ i = .int .i64 k ∧ Hid (Row wr p1 25 [.int .i64 C, .int .i64 1, v, .slice none 0 0]) ∧ Hid (Row wr p0 25 [.int .i64 0, .int .i64 0, .slice none 0 0, .slice none 0 0]) ∧ Hid (wr.ownsRow w2.heap.size 3 1 v k ((words l 12 k).map (Value.int .i64))) ∧ Hid (Below w.heap.size w wr) ∧ w2.heap.size ≤ wr.heap.size) (fun i _ => m - (intOf i).toNat)
  case atStart => exact ⟨0, .slice none 0 0, Nat.zero_le _, rfl, HROW.out, HROW0.out, World.ownsRow_nil _ _ _ _, HBEL.out, Nat.le_refl _⟩
  case round =>
    obtain ⟨k, v, hk, rfl, HR1, HR0, HO, HB, hsz⟩ := hrel
    by_cases hlt : k < m
    · obtain ⟨va, vc, rfl, -, -, -⟩ := owns_reads HO.out
      have kc := HR1.out.cell (i := 2) rfl
      have kf := HR1.out.free 2
      obtain ⟨x, hx⟩ : ∃ x, x = getV l (12 + 4 * (k : Int)) := ⟨_, rfl⟩
      have HGk := Lib.hid (HG.out wr (HR.out.below HB.out) (12 + 4 * (k : Int)) (by omega))
      rw [← hx] at HGk
      have HX := Lib.hid hx
      clear hx
      go_wp2_with (first
        | (go_at_call 43; refine HGk.out.mono ?_; rintro e w' ⟨rfl, rfl⟩)
        | (at_builtin; refine wpList_app rfl _ _ 22 rfl w2.heap.size 3 (.int .i64 0) 1 8 Try.underlying22 inf_intW rfl (by decide) _ _ _ rfl (HO.out.alloc _) _ 1 1 [.int .i64 x] rfl rfl (Reads.madeAt rfl) (by simp [Value.oneCell']) (by unfold maxLen; omega) (by omega) (by simp; omega) ?_))
      intro v' w3 own3 gr3
      have hlo := HO.out.lt
      have b3 : Below w2.heap.size wr w3 := ((Below.refl w2.heap.size wr).alloc hsz _).grown gr3 (by simp; omega) (fun k hk => (hlo k hk).1)
      obtain ⟨e0, e1, e2⟩ := HP.out
      have R1 : Row w3 p1 25 [.int .i64 C, .int .i64 1, .slice va k vc, .slice none 0 0] := (b3.block p1 (by omega)).trans HR1.out
      have R0 : Row w3 p0 25 [.int .i64 0, .int .i64 0, .slice none 0 0, .slice none 0 0] := (b3.block p0 (by omega)).trans HR0.out
      obtain ⟨va', vc', rfl, -, -, hvb⟩ := owns_reads own3
      have hsz3 : w2.heap.size ≤ w3.heap.size := Nat.le_trans hsz b3.size
      have kc3 := R1.cell (i := 2) rfl
      have kf3 := R1.free 2
      have HW : Hid (words l 12 (k + 1) = words l 12 k ++ [x]) := by
        rw [HX.out]
        show words l 12 k ++ [getV l ((12 + 4 * k : Nat) : Int)] = _
        rw [show ((12 + 4 * k : Nat) : Int) = 12 + 4 * (k : Int) from by omega]
      have HO4 : Hid ((w3.setCell ⟨p1, 2, none⟩ (.slice va' (k + 1) vc')).ownsRow w2.heap.size 3 1 (.slice va' (k + 1) vc') (k + 1) ((words l 12 (k + 1)).map (Value.int .i64))) := by
        rw [HW.out, List.map_append]
        refine ownsSame own3 (fun q hq => Below.heap_setCell _ _ _ _ ?_)
        have := (own3.lt q hq).1
        show q ≠ p1
        omega
      have HR14 := Lib.hid (R1.set 2 (.slice va' (k + 1) vc'))
      have HR04 := Lib.hid (R0.setOther (p := ⟨p1, 2, none⟩) (by show p1 ≠ p0; omega) (.slice va' (k + 1) vc'))
      have HB4 := Lib.hid ((HB.out.trans (b3.mono (by omega))).setCell (p := ⟨p1, 2, none⟩) (by show w.heap.size ≤ p1; omega) (.slice va' (k + 1) vc'))
      clear own3 gr3 hlo b3 R1 R0 hvb kc kf HGk HX e0 e1 e2
      go_wp2
      go_roundw
      case rel => exact ⟨k + 1, _, by omega, by go_num, HR14.out, HR04.out, HO4.out, HB4.out, by simpa using hsz3⟩
      case measure => simp [intOf]; omega
    · obtain rfl : k = m := by omega
      obtain ⟨va, vc, rfl, hrv, hvc, hvb⟩ := owns_reads HO.out
      have hvm := owns_cap HO.out
      obtain ⟨o, ho⟩ : ∃ o : ObjD, o = ⟨C, 1, va, k, vc, words l 12 k, none, 0, 0, []⟩ := ⟨_, rfl⟩
      have HVW : Hid (∀ x, o.wa = some x → w2.heap.size ≤ x.block) := fun x hx => (hvb x (by rw [ho] at hx; exact hx)).1
      have HVBb : Hid (∀ x, o.ba = some x → w2.heap.size ≤ x.block) := fun x hx => by rw [ho] at hx; cases hx
      have hok : o.ok wr := by
        rw [ho]
        have hcr := HCR.out.1
        refine ⟨by dsimp only; omega, by dsimp only; omega, by dsimp only; rw [words_len], ⟨hvc, hvm⟩, hrv, fun x hx => ?_, rfl, ⟨Nat.le_refl _, by dsimp only; omega⟩, Reads.nil wr, Byt.nil⟩
        have := words_range l 12 k x hx
        constructor <;> omega
      have HOE := Lib.hid ho
      have HISO := Lib.hid (show isObj l ↔ chkE o = 0 from by
        rw [HISO0.out]
        unfold chkE
        rw [HOE.out]
        dsimp only
        split
        · rename_i hx; exact ⟨fun _ => rfl, fun _ => hx⟩
        · rename_i hx; exact ⟨fun h => absurd h hx, fun h => by cases h⟩)
      have HF := Lib.hid (show isObj l → (o.cls = decC l ∧ o.kind = decK l ∧ o.W = decW l ∧ o.B = decB l) from fun _ => by
        rw [HOE.out]
        exact ⟨HCK.out.1, HD.out.2.2.symm, HD.out.1.symm, HD.out.2.1.symm⟩)
      obtain ⟨w4, rfl⟩ : ∃ z, z = wr := ⟨_, rfl⟩
      have HOK4 := Lib.hid hok
      have HR14 := HR1
      have HR04 := HR0
      have HB4 := HB
      clear hok ho hrv hvc hvb hvm HO hlt HR1 HR0 HB
      have HCK4 := Lib.hid (r_Check o w4 HOK4.out (by rw [HOE.out]; dsimp only; omega) (by rw [HOE.out]; dsimp only; omega))
      have hv : o.val = .agg #[.int .i64 C, .int .i64 1, .slice va k vc, .slice none 0 0] := by rw [HOE.out]; rfl
      rw [hv] at HCK4
      clear hv
      have j0 := HR14.out.cell (i := 0) rfl
      have j1 := HR14.out.cell (i := 1) rfl
      have j2 := HR14.out.cell (i := 2) rfl
      have j3 := HR14.out.cell (i := 3) rfl
      by_cases hE : chkE o = 0
      · have HIS := Lib.hid (HISO.out.2 hE)
        have HF4 := Lib.hid (HF.out HIS.out)
        rw [hE] at HCK4
        clear hE
        go_wp2_with fail
        refine HCK4.out.mono ?_
        rintro e w5 ⟨rfl, b5⟩
        have R15 : Row w5 p1 25 [.int .i64 C, .int .i64 1, .slice va k vc, .slice none 0 0] := (b5.block p1 HR14.out.lt).trans HR14.out
        have R05 : Row w5 p0 25 [.int .i64 0, .int .i64 0, .slice none 0 0, .slice none 0 0] := (b5.block p0 HR04.out.lt).trans HR04.out
        have HB5 := Lib.hid (bNext HB4.out b5)
        have HOK5 := Lib.hid (HOK4.out.below b5)
        clear b5 j0 j1 j2 j3 HCK4
        have j0 := R15.cell (i := 0) rfl
        have j1 := R15.cell (i := 1) rfl
        have j2 := R15.cell (i := 2) rfl
        have j3 := R15.cell (i := 3) rfl
        have o0 := R05.cell (i := 0) rfl
        have o1 := R05.cell (i := 1) rfl
        have o2 := R05.cell (i := 2) rfl
        have o3 := R05.cell (i := 3) rfl
        have f0 := R05.free 0
        have f1 := R05.free 1
        have f2 := R05.free 2
        have f3 := R05.free 3
        go_wp2
        obtain ⟨w6, hw6⟩ : ∃ z, z = (((w5.setCell ⟨p0, 0, none⟩ (.int .i64 C)).setCell ⟨p0, 1, none⟩ (.int .i64 1)).setCell ⟨p0, 2, none⟩ (.slice va k vc)).setCell ⟨p0, 3, none⟩ (.slice none 0 0) := ⟨_, rfl⟩
        have R6 : Row w6 p0 25 [.int .i64 C, .int .i64 1, .slice va k vc, .slice none 0 0] := by rw [hw6]; exact (((R05.set 0 _).set 1 _).set 2 _).set 3 _
        have U6 : Upd [p0] w5 w6 := by rw [hw6]; exact ((((Upd.refl [p0] w5).setCell (by simp) _).setCell (by simp) _).setCell (by simp) _).setCell (by simp) _
        rw [← hw6]
        clear hw6
        have z0 := R6.cell (i := 0) rfl
        have z1 := R6.cell (i := 1) rfl
        have z2 := R6.cell (i := 2) rfl
        have z3 := R6.cell (i := 3) rfl
        (try simp only [Exit.inBlock, Exit.then])
        refine bodyPost_ret (by rw [results_cell_tmp rfl]; go_simp; rfl) rfl ?_
        have hp := HP.out
        have ok5 := HOK5.out
        refine ⟨HB5.out.trans (U6.below HB5.out.size (fun k hk => by simp at hk; omega)), .inl ⟨HIS.out, o, by rw [HOE.out]; rfl, ⟨ok5.c0, ok5.k0, ok5.wl, ok5.wm, U6.reads ok5.wr (fun x hx => ?_), ok5.wi, ok5.bl, ok5.bm, U6.reads ok5.br (fun x hx => ?_), ok5.bb⟩, HF4.out.1, HF4.out.2.1, HF4.out.2.2.1, HF4.out.2.2.2⟩⟩
        · have := HVW.out x hx
          simp
          omega
        · have := HVBb.out x hx
          simp
          omega
      · have hE2 : chkE o = 2 := by
          unfold chkE at hE ⊢
          split
          · rename_i hx; rw [if_pos hx] at hE; exact absurd rfl hE
          · rfl
        have HNO := Lib.hid (show ¬ isObj l from fun h => hE (HISO.out.1 h))
        rw [hE2] at HCK4
        clear hE hE2
        go_wp2_with fail
        refine HCK4.out.mono ?_
        rintro e w5 ⟨rfl, b5⟩
        have R05 : Row w5 p0 25 [.int .i64 0, .int .i64 0, .slice none 0 0, .slice none 0 0] := (b5.block p0 HR04.out.lt).trans HR04.out
        have HB5 := Lib.hid (bNext HB4.out b5)
        clear b5 j0 j1 j2 j3 HCK4
        have o0 := R05.cell (i := 0) rfl
        have o1 := R05.cell (i := 1) rfl
        have o2 := R05.cell (i := 2) rfl
        have o3 := R05.cell (i := 3) rfl
        have f0 := R05.free 0
        have f1 := R05.free 1
        have f2 := R05.free 2
        have f3 := R05.free 3
        go_wp2
        obtain ⟨w6, hw6⟩ : ∃ z, z = (((w5.setCell ⟨p0, 0, none⟩ (.int .i64 0)).setCell ⟨p0, 1, none⟩ (.int .i64 0)).setCell ⟨p0, 2, none⟩ (.slice none 0 0)).setCell ⟨p0, 3, none⟩ (.slice none 0 0) := ⟨_, rfl⟩
        have R6 : Row w6 p0 25 [.int .i64 0, .int .i64 0, .slice none 0 0, .slice none 0 0] := by rw [hw6]; exact (((R05.set 0 _).set 1 _).set 2 _).set 3 _
        have U6 : Upd [p0] w5 w6 := by rw [hw6]; exact ((((Upd.refl [p0] w5).setCell (by simp) _).setCell (by simp) _).setCell (by simp) _).setCell (by simp) _
        rw [← hw6]
        clear hw6
        have z0 := R6.cell (i := 0) rfl
        have z1 := R6.cell (i := 1) rfl
        have z2 := R6.cell (i := 2) rfl
        have z3 := R6.cell (i := 3) rfl
        (try simp only [Exit.inBlock, Exit.then])
        refine bodyPost_ret (by rw [results_cell_tmp rfl]; go_simp; rfl) rfl ?_
        have hp := HP.out.1
        exact ⟨HB5.out.trans (U6.below HB5.out.size (fun k hk => by simp at hk; omega)), .inr ⟨HNO.out, rfl⟩⟩

end Go.Proofs.Ytdedidjobjdekaa
