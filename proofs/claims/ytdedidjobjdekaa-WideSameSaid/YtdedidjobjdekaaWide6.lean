/-
  Contracts of package wide: Decode.
-/
import Derived.Test.YtdedidjobjdekaaWide5
import Derived.Laws.ResultCell
namespace Go.Proofs.Ytdedidjobjdekaa
open Go.RowKit
set_option linter.unusedVariables false
set_option maxHeartbeats 400000

def ObjD.nothing : ObjD := ⟨0, 0, none, 0, 0, [], none, 0, 0, []⟩

theorem c_DecShort (a : Option Addr) (n c : Nat) (w : World) (hn : n < 12) : Calls Try.prog 14 #[.slice a n c] w fun e w' => e = .returned (.tuple #[ObjD.nothing.val, .int .i64 5]) ∧ Below w.heap.size w w' := by
  go_enter Try.func14, Try.ntmps14
  go_wp2
  (try simp only [Exit.inBlock, Exit.then])
  refine bodyPost_ret (by rw [results_cell_tmp rfl]; go_simp; rfl) rfl ?_
  exact ⟨rfl, (Below.refl _ _).alloc (Nat.le_refl _) _⟩

theorem words_range (b : List Int) (p : Nat) : ∀ k, ∀ x ∈ words b p k, -2147483648 ≤ x ∧ x ≤ 2147483647
  | 0, x, h => by simp [words] at h
  | k + 1, x, h => by
    rw [words] at h
    rcases List.mem_append.1 h with h | h
    · exact words_range b p k x h
    · simp only [List.mem_singleton] at h
      rw [h]; exact getV_range

def DecPost (l : List Int) (w : World) (e : Ending) (w' : World) : Prop :=
  Below w.heap.size w w' ∧ ((isObj l ∧ ∃ o : ObjD, e = .returned (.tuple #[o.val, .int .i64 0]) ∧ o.ok w' ∧ o.cls = decC l ∧ o.kind = decK l ∧ o.W = decW l ∧ o.B = decB l) ∨ (¬ isObj l ∧ e = .returned (.tuple #[ObjD.nothing.val, .int .i64 5])))

/-- Decode, where the kind is that of words. -/
theorem c_Dec1 (a : Option Addr) (n c : Nat) (l : List Int) (w : World) (e0 : n = l.length) (h : Reads w a c (l.map (Value.int .u8))) (hb : Byt l) (hn : 12 ≤ n) (hc : n ≤ c) (hm : n ≤ 100000) (k1 : decK l = 1) : Calls Try.prog 14 #[.slice a n c] w (DecPost l w) := by
  subst e0
  have HG := Lib.hid (fun w' (h' : Reads w' a c (l.map (Value.int .u8))) p (hp : -9223372036854775808 ≤ p ∧ p ≤ 9223372036854775807) => c_Get a l.length c l p w' rfl hc (by omega) h' hb hp.1 hp.2)
  have HR := Lib.hid h
  clear h
  obtain ⟨C, hC⟩ : ∃ C, C = getV l 0 := ⟨_, rfl⟩
  have K1 : getV l 4 = 1 := k1
  obtain ⟨Kn, hKn⟩ : ∃ Kn, Kn = (l.length - 12) / 4 := ⟨_, rfl⟩
  have hKl : 12 + 4 * Kn ≤ l.length := by omega
  have hKu : l.length < 16 + 4 * Kn := by omega
  have hdW : decW l = words l 12 Kn := by unfold decW; rw [if_pos k1, hKn]
  have hdB : decB l = [] := by unfold decB; rw [if_neg (by omega)]
  have hdK : decK l = 1 := k1
  have HDD := Lib.hid (And.intro hdW (And.intro hdB hdK))
  clear k1 hKn hdW hdB hdK
  go_enter Try.func14, Try.ntmps14
  go_wp2_with fail
  refine (HG.out _ ((HR.out.alloc _)) 0 (by decide)).mono ?_
  rintro e w' ⟨rfl, rfl⟩
  rw [← hC]
  have HCC := Lib.hid hC
  clear hC
  go_wp2_with fail
  refine (HG.out _ ((HR.out.alloc _)) 4 (by decide)).mono ?_
  rintro e w' ⟨rfl, rfl⟩
  rw [K1]
  go_wp2_with fail
  obtain ⟨w2, hw2⟩ : ∃ z, z = ((w.alloc (.cells #[.int .i64 0, .int .i64 0, .slice none 0 0, .slice none 0 0] 25)).alloc (.cells #[.int .i64 C, .int .i64 1, .slice none 0 0, .slice none 0 0] 25)) := ⟨_, rfl⟩
  have hrow : Row w2 (w.heap.size + 1) 25 [.int .i64 C, .int .i64 1, .slice none 0 0, .slice none 0 0] := by
    rw [hw2]
    have := Row.made (w.alloc (.cells #[.int .i64 0, .int .i64 0, .slice none 0 0, .slice none 0 0] 25)) [.int .i64 C, .int .i64 1, .slice none 0 0, .slice none 0 0] 25
    simpa using this
  have hrow0 : Row w2 w.heap.size 25 [.int .i64 0, .int .i64 0, .slice none 0 0, .slice none 0 0] := by
    rw [hw2]
    exact (Row.made w [.int .i64 0, .int .i64 0, .slice none 0 0, .slice none 0 0] 25).alloc _
  have hbel : Below w.heap.size w w2 := by rw [hw2]; exact bAlloc ((Below.refl _ w).alloc (Nat.le_refl _) _)
  have hsz : w2.heap.size = w.heap.size + 2 := by rw [hw2]; simp
  rw [← hw2]
  have HROW := Lib.hid hrow
  have HROW0 := Lib.hid hrow0
  have HBEL := Lib.hid hbel
  obtain ⟨p0, hp0⟩ : ∃ p, p = w.heap.size := ⟨_, rfl⟩
  obtain ⟨p1, hp1⟩ : ∃ p, p = w.heap.size + 1 := ⟨_, rfl⟩
  rw [← hp1] at HROW ⊢
  rw [← hp0] at HROW0 ⊢
  have HP := Lib.hid (And.intro hp0 (And.intro hp1 hsz))
  clear hrow hrow0 hbel hw2 hsz hp0 hp1
  go_loopw [9] (fun i wr => ∃ (k : Nat) (v : Value), k ≤ Kn ∧ i = .int .i64 (12 + 4 * (k : Int)) ∧ Hid (Row wr p1 25 [.int .i64 C, .int .i64 1, v, .slice none 0 0]) ∧ Hid (Row wr p0 25 [.int .i64 0, .int .i64 0, .slice none 0 0, .slice none 0 0]) ∧ Hid (wr.ownsRow w2.heap.size 3 1 v k ((words l 12 k).map (Value.int .i64))) ∧ Hid (Below w.heap.size w wr) ∧ w2.heap.size ≤ wr.heap.size) (fun i _ => 12 + 4 * Kn + 4 - (intOf i).toNat)
  case atStart => exact ⟨0, .slice none 0 0, Nat.zero_le _, rfl, HROW.out, HROW0.out, World.ownsRow_nil _ _ _ _, HBEL.out, Nat.le_refl _⟩
  case round =>
    obtain ⟨k, v, hk, rfl, HR1, HR0, HO, HB, hsz⟩ := hrel
    by_cases hlt : k < Kn
    · have hat : (12 : Int) + 4 * (k : Int) ≤ (l.length : Int) - 4 := by omega
      obtain ⟨va, vc, rfl, -, -, -⟩ := owns_reads HO.out
      have kc := HR1.out.cell (i := 2) rfl
      have kf := HR1.out.free 2
      obtain ⟨x, hx⟩ : ∃ x, x = getV l (12 + 4 * (k : Int)) := ⟨_, rfl⟩
      have HGk := Lib.hid (HG.out wr (HR.out.below HB.out) (12 + 4 * (k : Int)) (by omega))
      rw [← hx] at HGk
      have HX := Lib.hid hx
      clear hx
      go_wp2_with (first
        | (go_at_call 32; refine HGk.out.mono ?_; rintro e w' ⟨rfl, rfl⟩)
        | (at_builtin; refine wpList_app rfl _ _ 22 rfl w2.heap.size 3 (.int .i64 0) 1 8 Try.underlying22 inf_intW rfl (by decide) _ _ _ rfl (HO.out.alloc _) _ 1 1 [.int .i64 x] rfl rfl (Reads.madeAt rfl) (by simp [Value.oneCell']) (by unfold maxLen; omega) (by omega) (by simp; omega) ?_))
      intro v' w3 own3 gr3
      have hlo := HO.out.lt
      have b3 : Below w2.heap.size wr w3 := ((Below.refl w2.heap.size wr).alloc hsz _).grown gr3 (by simp; omega) (fun k hk => (hlo k hk).1)
      obtain ⟨e0, e1, e2⟩ := HP.out
      have R1 : Row w3 p1 25 [.int .i64 C, .int .i64 1, .slice va k vc, .slice none 0 0] := (b3.block p1 (by omega)).trans HR1.out
      have R0 : Row w3 p0 25 [.int .i64 0, .int .i64 0, .slice none 0 0, .slice none 0 0] := (b3.block p0 (by omega)).trans HR0.out
      obtain ⟨va', vc', rfl, -, -, hvb⟩ := owns_reads own3
      have hsz3 : w2.heap.size ≤ w3.heap.size := Nat.le_trans hsz b3.size
      have kc3 := R1.cell (i := 2) rfl
      have kf3 := R1.free 2
      have HW : Hid (words l 12 (k + 1) = words l 12 k ++ [x]) := by
        rw [HX.out]
        show words l 12 k ++ [getV l ((12 + 4 * k : Nat) : Int)] = _
        rw [show ((12 + 4 * k : Nat) : Int) = 12 + 4 * (k : Int) from by omega]
      have HO4 : Hid ((w3.setCell ⟨p1, 2, none⟩ (.slice va' (k + 1) vc')).ownsRow w2.heap.size 3 1 (.slice va' (k + 1) vc') (k + 1) ((words l 12 (k + 1)).map (Value.int .i64))) := by
        rw [HW.out, List.map_append]
        refine ownsSame own3 (fun q hq => Below.heap_setCell _ _ _ _ ?_)
        have := (own3.lt q hq).1
        show q ≠ p1
        omega
      have HR14 := Lib.hid (R1.set 2 (.slice va' (k + 1) vc'))
      have HR04 := Lib.hid (R0.setOther (p := ⟨p1, 2, none⟩) (by show p1 ≠ p0; omega) (.slice va' (k + 1) vc'))
      have HB4 := Lib.hid ((HB.out.trans (b3.mono (by omega))).setCell (p := ⟨p1, 2, none⟩) (by show w.heap.size ≤ p1; omega) (.slice va' (k + 1) vc'))
      clear own3 gr3 hlo b3 R1 R0 hvb kc kf HGk HX e0 e1 e2
      go_wp2
      go_roundw
      case rel => exact ⟨k + 1, _, by omega, by go_num, HR14.out, HR04.out, HO4.out, HB4.out, by simpa using hsz3⟩
      case measure => simp [intOf]; omega
    · obtain rfl : Kn = k := by omega
      have hat : ¬ (12 : Int) + 4 * (Kn : Int) ≤ (l.length : Int) - 4 := by omega
      obtain ⟨va, vc, rfl, hrv, hvc, hvb⟩ := owns_reads HO.out
      have HVB := Lib.hid (fun x hx => (hvb x hx).1)
      clear hvb
      have hvm : vc ≤ 9223372036854775807 := by
        rcases HO.out.2 with ⟨h, _⟩ | ⟨g, cap, cur, hv, _, _, _, hm', _⟩
        · cases h; omega
        · cases hv; unfold maxLen at hm'; omega
      obtain ⟨o, ho⟩ : ∃ o : ObjD, o = ⟨C, 1, va, Kn, vc, words l 12 Kn, none, 0, 0, []⟩ := ⟨_, rfl⟩
      have hok : o.ok wr := by
        rw [ho]
        have hcr : -2147483648 ≤ C ∧ C ≤ 2147483647 := by rw [HCC.out]; exact getV_range (p := 0)
        refine ⟨by dsimp only; omega, by dsimp only; omega, by dsimp only; rw [words_len], ⟨hvc, hvm⟩, hrv, fun x hx => ?_, rfl, ⟨Nat.le_refl _, by dsimp only; omega⟩, Reads.nil wr, Byt.nil⟩
        have := words_range l 12 Kn x hx
        constructor <;> omega
      have HE := Lib.hid (c_Encode o wr hok (by rw [ho]; dsimp only; omega))
      have hv : o.val = .agg #[.int .i64 C, .int .i64 1, .slice va Kn vc, .slice none 0 0] := by rw [ho]; rfl
      rw [hv] at HE
      have HOK := Lib.hid hok
      have HOE := Lib.hid ho
      have j0 := HR1.out.cell (i := 0) rfl
      have j1 := HR1.out.cell (i := 1) rfl
      have j2 := HR1.out.cell (i := 2) rfl
      have j3 := HR1.out.cell (i := 3) rfl
      obtain ⟨wA, rfl⟩ : ∃ z, z = wr := ⟨_, rfl⟩
      clear hrv hvc hvm hok hv ho hlt hk
      go_wp2_with fail
      refine HE.out.mono ?_
      rintro e w4 ⟨v4, rfl, own4, b4⟩
      obtain ⟨a4, c4, rfl, hr4, -, -⟩ := owns_reads own4
      have R1 : Row w4 p1 25 [.int .i64 C, .int .i64 1, .slice va Kn vc, .slice none 0 0] := (b4.block p1 HR1.out.lt).trans HR1.out
      have R0 : Row w4 p0 25 [.int .i64 0, .int .i64 0, .slice none 0 0, .slice none 0 0] := (b4.block p0 HR0.out.lt).trans HR0.out
      have HR4 := Lib.hid hr4
      have HOK4 := Lib.hid (HOK.out.below b4)
      have HB4 := Lib.hid (bNext HB.out b4)
      have hle4 : (encO o).length ≤ 100000 := by
        unfold encO
        split
        · rename_i hok
          rw [encB_len, HOE.out]
          dsimp only
          rw [words_len]
          simp only [List.length_nil]
          omega
        · simp
      have HLE := Lib.hid hle4
      have HEQ := Lib.hid (c_EqualB a4 a (encO o).length l.length c4 c (encO o) l w4 rfl rfl hr4 (HR.out.below HB4.out) (by omega) (by omega))
      clear own4 hr4 b4 j0 j1 j2 j3 HE hle4
      have hISO : isObj l ↔ (chkE o = 0 ∧ encO o = l) := by
        have e1 : o.cls = decC l := by rw [HOE.out]; exact HCC.out
        have e2 : o.kind = decK l := by rw [HOE.out]; exact HDD.out.2.2.symm
        have e3 : o.W = decW l := by rw [HOE.out]; exact HDD.out.1.symm
        have e4 : o.B = decB l := by rw [HOE.out]; exact HDD.out.2.1.symm
        unfold isObj chkE encO
        rw [e1, e2, e3, e4]
        by_cases hk : okObj (decC l) (decK l) (decW l) (decB l)
        · rw [if_pos hk, if_pos hk]
          exact ⟨fun h => ⟨rfl, h.2.2⟩, fun h => ⟨hn, hk, h.2⟩⟩
        · rw [if_neg hk]
          exact ⟨fun h => absurd h.2.1 hk, fun h => by cases h.1⟩
      have HISO := Lib.hid hISO
      clear hISO
      obtain ⟨n4, hn4⟩ : ∃ z, z = (encO o).length := ⟨_, rfl⟩
      rw [← hn4] at HEQ ⊢
      clear hn4 HLE
      by_cases hE : chkE o = 0
      · rw [hE]
        by_cases hq : encO o = l
        · rw [decide_eq_true hq] at HEQ
          have HIS := Lib.hid (HISO.out.2 ⟨hE, hq⟩)
          clear hE hq
          go_wp2_with fail
          refine HEQ.out.mono ?_
          rintro e w5 ⟨rfl, b5⟩
          have R15 : Row w5 p1 25 [.int .i64 C, .int .i64 1, .slice va Kn vc, .slice none 0 0] := (b5.block p1 R1.lt).trans R1
          have R05 : Row w5 p0 25 [.int .i64 0, .int .i64 0, .slice none 0 0, .slice none 0 0] := (b5.block p0 R0.lt).trans R0
          have i0 := R15.cell (i := 0) rfl
          have i1 := R15.cell (i := 1) rfl
          have i2 := R15.cell (i := 2) rfl
          have i3 := R15.cell (i := 3) rfl
          have o0 := R05.cell (i := 0) rfl
          have o1 := R05.cell (i := 1) rfl
          have o2 := R05.cell (i := 2) rfl
          have o3 := R05.cell (i := 3) rfl
          have f0 := R05.free 0
          have f1 := R05.free 1
          have f2 := R05.free 2
          have f3 := R05.free 3
          go_wp2
          obtain ⟨w6, hw6⟩ : ∃ z, z = (((w5.setCell ⟨p0, 0, none⟩ (.int .i64 C)).setCell ⟨p0, 1, none⟩ (.int .i64 1)).setCell ⟨p0, 2, none⟩ (.slice va Kn vc)).setCell ⟨p0, 3, none⟩ (.slice none 0 0) := ⟨_, rfl⟩
          have R6 : Row w6 p0 25 [.int .i64 C, .int .i64 1, .slice va Kn vc, .slice none 0 0] := by rw [hw6]; exact (((R05.set 0 _).set 1 _).set 2 _).set 3 _
          have U6 : Upd [p0] w5 w6 := by rw [hw6]; exact ((((Upd.refl [p0] w5).setCell (by simp) _).setCell (by simp) _).setCell (by simp) _).setCell (by simp) _
          rw [← hw6]
          clear hw6
          have z0 := R6.cell (i := 0) rfl
          have z1 := R6.cell (i := 1) rfl
          have z2 := R6.cell (i := 2) rfl
          have z3 := R6.cell (i := 3) rfl
          (try simp only [Exit.inBlock, Exit.then])
          refine bodyPost_ret (by rw [results_cell_tmp rfl]; go_simp; rfl) rfl ?_
          have hp := HP.out
          have HB5 := Lib.hid (bNext HB4.out b5)
          have ok5 := HOK4.out.below b5
          have hva : o.wa = va := by rw [HOE.out]
          have hba : o.ba = none := by rw [HOE.out]
          refine ⟨HB5.out.trans (U6.below HB5.out.size (fun k hk => by simp at hk; omega)), .inl ⟨HIS.out, o, by rw [HOE.out]; rfl, ⟨ok5.c0, ok5.k0, ok5.wl, ok5.wm, U6.reads ok5.wr (fun x hx => ?_), ok5.wi, ok5.bl, ok5.bm, U6.reads ok5.br (fun x hx => ?_), ok5.bb⟩, by rw [HOE.out]; exact HCC.out, by rw [HOE.out]; exact HDD.out.2.2.symm, by rw [HOE.out]; exact HDD.out.1.symm, by rw [HOE.out]; exact HDD.out.2.1.symm⟩⟩
          · rw [hva] at hx
            have := HVB.out x hx
            simp
            omega
          · rw [hba] at hx; cases hx
        · rw [decide_eq_false hq] at HEQ
          have HNO := Lib.hid (show ¬ isObj l from fun h => hq (HISO.out.1 h).2)
          clear hE hq
          go_wp2_with fail
          refine HEQ.out.mono ?_
          rintro e w5 ⟨rfl, b5⟩
          have R05 : Row w5 p0 25 [.int .i64 0, .int .i64 0, .slice none 0 0, .slice none 0 0] := (b5.block p0 R0.lt).trans R0
          have HB5 := Lib.hid (bNext HB4.out b5)
          have o0 := R05.cell (i := 0) rfl
          have o1 := R05.cell (i := 1) rfl
          have o2 := R05.cell (i := 2) rfl
          have o3 := R05.cell (i := 3) rfl
          have f0 := R05.free 0
          have f1 := R05.free 1
          have f2 := R05.free 2
          have f3 := R05.free 3
          go_wp2
          obtain ⟨w6, hw6⟩ : ∃ z, z = (((w5.setCell ⟨p0, 0, none⟩ (.int .i64 0)).setCell ⟨p0, 1, none⟩ (.int .i64 0)).setCell ⟨p0, 2, none⟩ (.slice none 0 0)).setCell ⟨p0, 3, none⟩ (.slice none 0 0) := ⟨_, rfl⟩
          have R6 : Row w6 p0 25 [.int .i64 0, .int .i64 0, .slice none 0 0, .slice none 0 0] := by rw [hw6]; exact (((R05.set 0 _).set 1 _).set 2 _).set 3 _
          have U6 : Upd [p0] w5 w6 := by rw [hw6]; exact ((((Upd.refl [p0] w5).setCell (by simp) _).setCell (by simp) _).setCell (by simp) _).setCell (by simp) _
          rw [← hw6]
          clear hw6
          have z0 := R6.cell (i := 0) rfl
          have z1 := R6.cell (i := 1) rfl
          have z2 := R6.cell (i := 2) rfl
          have z3 := R6.cell (i := 3) rfl
          (try simp only [Exit.inBlock, Exit.then])
          refine bodyPost_ret (by rw [results_cell_tmp rfl]; go_simp; rfl) rfl ?_
          have hp := HP.out.1
          exact ⟨HB5.out.trans (U6.below HB5.out.size (fun k hk => by simp at hk; omega)), .inr ⟨HNO.out, rfl⟩⟩
      · have hE2 : chkE o = 2 := by
          unfold chkE at hE ⊢
          split
          · rename_i hx; rw [if_pos hx] at hE; exact absurd rfl hE
          · rfl
        rw [hE2]
        have HNO := Lib.hid (show ¬ isObj l from fun h => hE (HISO.out.1 h).1)
        clear hE hE2
        obtain ⟨w5, rfl⟩ : ∃ z, z = w4 := ⟨_, rfl⟩
        have R05 := R0
        have HB5 := HB4
        have o0 := R05.cell (i := 0) rfl
        have o1 := R05.cell (i := 1) rfl
        have o2 := R05.cell (i := 2) rfl
        have o3 := R05.cell (i := 3) rfl
        have f0 := R05.free 0
        have f1 := R05.free 1
        have f2 := R05.free 2
        have f3 := R05.free 3
        go_wp2
        obtain ⟨w6, hw6⟩ : ∃ z, z = (((w5.setCell ⟨p0, 0, none⟩ (.int .i64 0)).setCell ⟨p0, 1, none⟩ (.int .i64 0)).setCell ⟨p0, 2, none⟩ (.slice none 0 0)).setCell ⟨p0, 3, none⟩ (.slice none 0 0) := ⟨_, rfl⟩
        have R6 : Row w6 p0 25 [.int .i64 0, .int .i64 0, .slice none 0 0, .slice none 0 0] := by rw [hw6]; exact (((R05.set 0 _).set 1 _).set 2 _).set 3 _
        have U6 : Upd [p0] w5 w6 := by rw [hw6]; exact ((((Upd.refl [p0] w5).setCell (by simp) _).setCell (by simp) _).setCell (by simp) _).setCell (by simp) _
        rw [← hw6]
        clear hw6
        have z0 := R6.cell (i := 0) rfl
        have z1 := R6.cell (i := 1) rfl
        have z2 := R6.cell (i := 2) rfl
        have z3 := R6.cell (i := 3) rfl
        (try simp only [Exit.inBlock, Exit.then])
        refine bodyPost_ret (by rw [results_cell_tmp rfl]; go_simp; rfl) rfl ?_
        have hp := HP.out.1
        exact ⟨HB5.out.trans (U6.below HB5.out.size (fun k hk => by simp at hk; omega)), .inr ⟨HNO.out, rfl⟩⟩

end Go.Proofs.Ytdedidjobjdekaa
