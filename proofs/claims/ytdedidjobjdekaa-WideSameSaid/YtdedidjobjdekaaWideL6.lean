/-
  The law WideBack. (Written by w6gen.py.)
-/
import Derived.Test.YtdedidjobjdekaaWideL5
namespace Go.Proofs.Ytdedidjobjdekaa
open Go.RowKit Go.ChangeShapes Go.WideShapes Go.ChangeAt
set_option linter.unusedVariables false
set_option maxHeartbeats 4000000
set_option maxRecDepth 10000

theorem getV_take {l : List Int} {p k : Nat} (h : p + 4 ≤ k) (hk : k ≤ l.length) : getV (l.take k) (p : Int) = getV l (p : Int) := by
  have hd : ∀ i, i < k → (l.take k).getD i 0 = l.getD i 0 := fun i hi => by
    rw [List.getD_eq_getElem?_getD, List.getD_eq_getElem?_getD, List.getElem?_take, if_pos hi]
  rw [getV_in (by rw [List.length_take]; omega), getV_in (by omega), hd _ (by omega), hd _ (by omega), hd _ (by omega), hd _ (by omega)]
theorem getV_append {l m : List Int} {p : Nat} (h : p + 4 ≤ l.length) : getV (l ++ m) (p : Int) = getV l (p : Int) := by
  have := getV_take (l := l ++ m) (p := p) (k := l.length) h (by simp)
  rw [List.take_left] at this
  exact this.symm
theorem take_byt {l : List Int} (h : Byt l) (k : Nat) : Byt (l.take k) := fun x hx => h x (List.mem_of_mem_take hx)

theorem isObj_take {l : List Int} (hb : Byt l) (h : isObj l) {k : Nat} (hk : k < l.length) : ¬ isObj (l.take k) := fun h2 => by
  have r1 := (isObj_iff hb).1 h
  have r2 := (isObj_iff (take_byt hb k)).1 h2
  have hlen : (l.take k).length = k := by rw [List.length_take]; omega
  have h12 := r2.1
  rw [hlen] at h12
  have e8 := getV_take (l := l) (p := 8) (k := k) (by omega) (by omega)
  have e4 := getV_take (l := l) (p := 4) (k := k) (by omega) (by omega)
  have q1 := r1.2.2.1
  have q2 := r2.2.2.1
  have e4' : decK (l.take k) = decK l := e4
  have e8' : getV (l.take k) 8 = getV l 8 := e8
  rw [e4', e8', hlen] at q2
  omega
theorem isObj_more {l : List Int} (hb : Byt l) (h : isObj l) {m : Int} (hm : 0 ≤ m ∧ m ≤ 255) : ¬ isObj (l ++ [m]) := fun h2 => by
  have hb2 : Byt (l ++ [m]) := hb.append (fun x hx => by simp at hx; omega)
  have := isObj_take hb2 h2 (k := l.length) (by simp)
  rw [List.take_left] at this
  exact this h

theorem at_mod (a : Int) (n : Nat) (hn : 0 < n) (hs : n ≤ 8000) : ∃ k : Nat, wrap64 ((IntKind.u64.wrap a).tmod (n : Int)) = (k : Int) ∧ k < n := by
  have h0 : 0 ≤ IntKind.u64.wrap a := by rw [IntKind.wrap_u64]; omega
  refine ⟨(IntKind.u64.wrap a % (n : Int)).toNat, ?_, ?_⟩
  · rw [Int.tmod_eq_emod_of_nonneg h0]
    have h1 : 0 ≤ IntKind.u64.wrap a % (n : Int) := Int.emod_nonneg _ (by omega)
    have h2 : IntKind.u64.wrap a % (n : Int) < n := Int.emod_lt_of_pos _ (by omega)
    rw [Int.toNat_of_nonneg h1]
    generalize IntKind.u64.wrap a % (n : Int) = y at *
    unfold wrap64
    omega
  · have h1 : 0 ≤ IntKind.u64.wrap a % (n : Int) := Int.emod_nonneg _ (by omega)
    have h2 : IntKind.u64.wrap a % (n : Int) < n := Int.emod_lt_of_pos _ (by omega)
    omega

theorem law_WideBack (o : ObjD) (a1 : Option Addr) (len1 cap1 : Nat) (z1 : List Int) (a2 a3 : Int) (w : World) (h : o.ok w) (w1 : Came .u8 w a1 len1 cap1 z1) (w2 : (Lit.int .i64 a2).wf = true) (w3 : (Lit.int .u8 a3).wf = true) : Calls Try.prog 3 #[o.val, .slice a1 len1 cap1, .int .i64 a2, .int .u8 a3] w fun e w' => e = .returned (.bool true) ∧ Below w.heap.size w w' := by
  obtain ⟨l, el, hc0, hm0, hr0, hw0⟩ := w1.reads
  have hl : Byt l := fun x hx => bounds_u8 (hw0 x hx)
  have hat := bounds_i64 w2
  have hmo := bounds_u8 w3
  obtain ⟨at_, rfl⟩ : ∃ z, z = a2 := ⟨_, rfl⟩
  obtain ⟨more, rfl⟩ : ∃ z, z = a3 := ⟨_, rfl⟩
  clear w1 hw0 w2 w3
  have hval : o.val = .agg #[.int .i64 o.cls, .int .i64 o.kind, .slice o.wa o.wn o.wc, .slice o.ba o.bn o.bc] := rfl
  have HL := Lib.hid (fun w => c_Long o w)
  rw [hval] at HL ⊢
  have HB0 := Lib.hid (show Below w.heap.size w (w.alloc (.cells #[.int .i64 o.cls, .int .i64 o.kind, .slice o.wa o.wn o.wc, .slice o.ba o.bn o.bc] 25)) from (Below.refl _ _).alloc (Nat.le_refl _) _)
  have HROW := Lib.hid (Row.made w [.int .i64 o.cls, .int .i64 o.kind, .slice o.wa o.wn o.wc, .slice o.ba o.bn o.bc] 25)
  have HH := Lib.hid h
  have HV := Lib.hid hval
  have HELL := Lib.hid el
  have HRB := Lib.hid hr0
  have HLB := Lib.hid hl
  have HCB := Lib.hid hc0
  have HAT := Lib.hid hat
  have HMO := Lib.hid hmo
  clear h hval el hr0 hl hc0 hm0 hat hmo
  by_cases hl : o.wn > 1200 ∨ o.bn > 1200
  · rw [decide_eq_true hl] at HL
    clear hl
    go_enter Try.func3, Try.ntmps3
    go_wp2_with fail
    refine (HL.out _).mono ?_
    rintro e w1 ⟨rfl, b1⟩
    have HB1 := Lib.hid (bNext HB0.out b1)
    clear b1
    go_wp2_with fail
    refine (c_Known _).mono ?_
    rintro e w2 ⟨rfl, b2⟩
    have HB2 := Lib.hid (bNext HB1.out b2)
    clear b2
    go_wp2
    go_ret
    exact ⟨rfl, HB2.out⟩
  · rw [decide_eq_false hl] at HL
    have HLN := Lib.hid hl
    clear hl
    by_cases hbig : len1 > 6000
    · have q1 : ((6000 : Int) < len1) = True := eq_true (by omega)
      have q2 : ((len1 : Int) > 6000) = True := eq_true (by omega)
      have q3 : (6000 < len1) = True := eq_true (by omega)
      go_enter Try.func3, Try.ntmps3
      go_wp2_with fail
      refine (HL.out _).mono ?_
      rintro e w1 ⟨rfl, b1⟩
      have HB1 := Lib.hid (bNext HB0.out b1)
      clear b1
      go_wp2_with fail
      refine (c_Known _).mono ?_
      rintro e w2 ⟨rfl, b2⟩
      have HB2 := Lib.hid (bNext HB1.out b2)
      clear b2
      go_wp2
      go_ret
      exact ⟨rfl, HB2.out⟩
    · have q1 : ((6000 : Int) < len1) = False := eq_false (by omega)
      have q2 : ((len1 : Int) > 6000) = False := eq_false (by omega)
      have q3 : (6000 < len1) = False := eq_false (by omega)
      have HLN1 := Lib.hid hbig
      clear hbig
      obtain ⟨p, hp⟩ : ∃ p, p = w.heap.size := ⟨_, rfl⟩
      have HP := Lib.hid hp
      clear hp
      go_enter Try.func3, Try.ntmps3
      go_wp2_with fail
      refine (HL.out _).mono ?_
      rintro e w1 ⟨rfl, b1⟩
      have HB1 := Lib.hid (bNext HB0.out b1)
      have R1 : Row w1 p 25 [.int .i64 o.cls, .int .i64 o.kind, .slice o.wa o.wn o.wc, .slice o.ba o.bn o.bc] := by rw [HP.out]; exact (b1.block _ HROW.out.lt).trans HROW.out
      have HR1 := Lib.hid R1
      have i0 := HR1.out.cell (i := 0) rfl
      have i1 := HR1.out.cell (i := 1) rfl
      have i2 := HR1.out.cell (i := 2) rfl
      have i3 := HR1.out.cell (i := 3) rfl
      rw [← HP.out]
      clear b1 R1 HROW
      have HC := Lib.hid (c_Encode o w1 (HH.out.below HB1.out) (by have := HLN.out; omega))
      rw [HV.out] at HC
      go_wp2_with fail
      refine HC.out.mono ?_
      clear HC
      rintro e w2 ⟨v2, rfl, own2, b2⟩
      obtain ⟨a2, c2, rfl, hr2, hc2, hv2⟩ := owns_reads own2
      have HB2 := Lib.hid (bNext HB1.out b2)
      have HRX := Lib.hid hr2
      have HR2 : Hid (Row w2 p 25 [.int .i64 o.cls, .int .i64 o.kind, .slice o.wa o.wn o.wc, .slice o.ba o.bn o.bc]) := (b2.block _ HR1.out.lt).trans HR1.out
      have HC2 := Lib.hid hc2
      clear own2 hr2 hv2 hc2 b2 i0 i1 i2 i3 HR1
      by_cases hok : okObj o.cls o.kind o.W o.B
      · have hE : chkE o = 0 := by unfold chkE; rw [if_pos hok]
        have hx : encO o = encB o.cls o.kind o.W o.B := by unfold encO; rw [if_pos hok]
        have hlen := encB_len o.cls o.kind o.W o.B
        have hio := isObj_enc hok
        have hde := dec_enc hok
        rw [hE]
        rw [← hx] at hlen hio hde
        have hbyt : Byt (encO o) := encO_byt HH.out.bb
        obtain ⟨L, hL⟩ : ∃ L, L = encO o := ⟨_, rfl⟩
        rw [← hL] at hlen hio hde hbyt HRX HC2 ⊢
        have hl8 : L.length ≤ 8000 := by
          have h1 := HLN.out
          have h2 := HH.out.wl
          have h3 := HH.out.bl
          omega
        obtain ⟨n, hn⟩ : ∃ n, n = L.length := ⟨_, rfl⟩
        rw [← hn] at hl8 hlen HC2 ⊢
        have hn12 : 12 ≤ n := by omega
        have HN := Lib.hid hn
        have HOK := Lib.hid hok
        have HIO := Lib.hid hio
        have HDE := Lib.hid hde
        have HBY := Lib.hid hbyt
        have HD := Lib.hid (c_Decode a2 n c2 L w2 hn HRX.out hbyt HC2.out (by omega))
        clear hE hx hlen hio hde hbyt hL hok hn
        go_wp2_with fail
        refine HD.out.mono ?_
        clear HD
        rintro e w3 hp3
        obtain ⟨x, rfl, ok3, hx, b3⟩ := decPost_to hp3
        rw [show decErr L = 0 from by unfold decErr; rw [if_pos HIO.out], show x.val = .agg #[.int .i64 x.cls, .int .i64 x.kind, .slice x.wa x.wn x.wc, .slice x.ba x.bn x.bc] from rfl]
        obtain ⟨w4, hw4⟩ : ∃ z, z = (w3.alloc (.cells #[.int .i64 x.cls, .int .i64 x.kind, .slice x.wa x.wn x.wc, .slice x.ba x.bn x.bc] 25)) := ⟨_, rfl⟩
        have b4 : Below w3.heap.size w3 w4 := by rw [hw4]; exact (Below.refl _ w3).alloc (Nat.le_refl _) _
        have b24 : Below w2.heap.size w2 w4 := bNext b3 b4
        obtain ⟨p9, hp9⟩ : ∃ z, z = w3.heap.size := ⟨_, rfl⟩
        have HXR : Row w4 p9 25 [.int .i64 x.cls, .int .i64 x.kind, .slice x.wa x.wn x.wc, .slice x.ba x.bn x.bc] := by rw [hw4, hp9]; exact Row.made w3 _ _
        have HR4 : Hid (Row w4 p 25 [.int .i64 o.cls, .int .i64 o.kind, .slice o.wa o.wn o.wc, .slice o.ba o.bn o.bc]) := (b24.block _ HR2.out.lt).trans HR2.out
        have HB4 := Lib.hid (bNext HB2.out b24)
        have HRX4 := Lib.hid (HRX.out.below b24)
        unfold decO at hx
        rw [if_pos HIO.out, HDE.out.1, HDE.out.2.1, HDE.out.2.2.1, HDE.out.2.2.2] at hx
        have hxl : x.wn ≤ 100000 := by
          have h1 := ok3.wl
          have h2 := HLN.out
          have h3 := HH.out.wl
          rw [hx.2.2.1] at h1
          omega
        have HS := Lib.hid (r_WSame x o w4 (ok3.below b4) (HH.out.below HB4.out) (by omega) (by have := HLN.out; omega))
        rw [decide_eq_true hx, HV.out, show x.val = .agg #[.int .i64 x.cls, .int .i64 x.kind, .slice x.wa x.wn x.wc, .slice x.ba x.bn x.bc] from rfl] at HS
        have i0 := HR4.out.cell (i := 0) rfl
        have i1 := HR4.out.cell (i := 1) rfl
        have i2 := HR4.out.cell (i := 2) rfl
        have i3 := HR4.out.cell (i := 3) rfl
        have j0 := HXR.cell (i := 0) rfl
        have j1 := HXR.cell (i := 1) rfl
        have j2 := HXR.cell (i := 2) rfl
        have j3 := HXR.cell (i := 3) rfl
        have hnlt : ((n : Int) < 12) = False := eq_false (by omega)
        have hnlt2 : (n < 12) = False := eq_false (by omega)
        rw [hw4] at i0 i1 i2 i3 j0 j1 j2 j3 HS
        rw [hp9] at j0 j1 j2 j3
        have HW4 := Lib.hid hw4
        clear hp3 ok3 hx b3 hw4 b4 b24 hp9 HXR hxl HR2 HB2 HRX
        go_wp2_with fail
        refine HS.out.mono ?_
        rw [← HW4.out]
        clear HS i0 i1 i2 i3 j0 j1 j2 j3
        rintro e w5 ⟨rfl, b5⟩
        have HB5 := Lib.hid (bNext HB4.out b5)
        have HR5 : Hid (Row w5 p 25 [.int .i64 o.cls, .int .i64 o.kind, .slice o.wa o.wn o.wc, .slice o.ba o.bn o.bc]) := (b5.block _ HR4.out.lt).trans HR4.out
        have HRX5 := Lib.hid (HRX4.out.below b5)
        clear b5 HR4 HB4 HRX4
        obtain ⟨k, hk, hkn⟩ := at_mod at_ n (by omega) hl8
        have hkc : k ≤ c2 := by have := HC2.out; omega
        have hlk : (L.take k).length = k := by rw [List.length_take]; have := HN.out; omega
        have HD := Lib.hid (c_Decode a2 k c2 (L.take k) w5 hlk.symm (by rw [List.map_take]; exact reads_pre HRX5.out k) (take_byt HBY.out k) hkc (by omega))
        have HNK := Lib.hid (isObj_take HBY.out HIO.out (k := k) (by have := HN.out; omega))
        clear hlk
        go_wp2_with fail
        refine HD.out.mono ?_
        clear HD hk
        rintro e w6 hp6
        obtain ⟨y, rfl, ok6, hy, b6⟩ := decPost_to hp6
        unfold decO at hy
        rw [if_neg HNK.out] at hy
        rw [show decErr (L.take k) = 5 from by unfold decErr; rw [if_neg HNK.out], hy, show ObjD.nothing.val = .agg #[.int .i64 0, .int .i64 0, .slice none 0 0, .slice none 0 0] from rfl]
        obtain ⟨w7, hw7⟩ : ∃ z, z = (w6.alloc (.cells #[.int .i64 0, .int .i64 0, .slice none 0 0, .slice none 0 0] 25)) := ⟨_, rfl⟩
        have b7 : Below w6.heap.size w6 w7 := by rw [hw7]; exact (Below.refl _ w6).alloc (Nat.le_refl _) _
        have b57 : Below w5.heap.size w5 w7 := bNext b6 b7
        have HR7 : Hid (Row w7 p 25 [.int .i64 o.cls, .int .i64 o.kind, .slice o.wa o.wn o.wc, .slice o.ba o.bn o.bc]) := (b57.block _ HR5.out.lt).trans HR5.out
        have HB7 := Lib.hid (bNext HB5.out b57)
        have HRX7 := Lib.hid (HRX5.out.below b57)
        have HCP := Lib.hid (c_CopyW a2 n c2 L w7 HN.out HRX7.out (by omega))
        rw [hw7] at HCP
        have HW7 := Lib.hid hw7
        clear hp6 ok6 hy b6 hw7 b7 b57 HR5 HB5 HRX5 hkc hkn HNK
        go_wp2_with fail
        refine HCP.out.mono ?_
        clear HCP
        rw [← HW7.out]
        rintro e w8 ⟨v8, rfl, own8, b8⟩
        rw [← HN.out] at own8
        have hsz8 := b8.size
        have HO8 := Lib.hid own8
        have HB78 := Lib.hid b8
        clear own8 b8
        go_wp2_with (at_builtin; refine wpList_app rfl _ _ 23 rfl w7.heap.size 5 (.int .u8 0) 1 1 Try.underlying23 inf_u8 rfl (by decide) _ _ _ rfl (HO8.out.alloc _) _ 1 1 [.int .u8 more] rfl rfl (Reads.madeAt rfl) (by simp [Value.oneCell']) (by unfold maxLen; omega) (by omega) (by simp; omega) ?_)
        intro v9 w9 own9 gr9
        have hlo8 := HO8.out.lt
        have b79 : Below w7.heap.size w7 w9 := HB78.out.trans (((Below.refl w7.heap.size w8).alloc hsz8 _).grown gr9 (by simp; omega) (fun k hk => (hlo8 k hk).1))
        have HR9 : Hid (Row w9 p 25 [.int .i64 o.cls, .int .i64 o.kind, .slice o.wa o.wn o.wc, .slice o.ba o.bn o.bc]) := (b79.block _ HR7.out.lt).trans HR7.out
        have HB9 := Lib.hid (bNext HB7.out b79)
        have HRX9 := Lib.hid (HRX7.out.below b79)
        obtain ⟨a9, c9, rfl, hr9, hc9, -⟩ := owns_reads own9
        rw [show L.map (Value.int .u8) ++ [Value.int .u8 more] = (L ++ [more]).map (Value.int .u8) from by simp] at hr9
        have HD := Lib.hid (c_Decode a9 (n + 1) c9 (L ++ [more]) w9 (by rw [List.length_append, HN.out]; rfl) hr9 (HBY.out.append (fun x hx => by have := HMO.out; simp at hx; omega)) hc9 (by omega))
        have HNM := Lib.hid (isObj_more HBY.out HIO.out HMO.out)
        clear gr9 hlo8 own9 hr9 hc9 b79 HR7 HB7 HRX7 HO8 HB78 hsz8
        go_wp2_with fail
        refine HD.out.mono ?_
        clear HD
        rintro e w10 hp10
        obtain ⟨y2, rfl, ok10, hy2, b10⟩ := decPost_to hp10
        unfold decO at hy2
        rw [if_neg HNM.out] at hy2
        rw [show decErr (L ++ [more]) = 5 from by unfold decErr; rw [if_neg HNM.out], hy2, show ObjD.nothing.val = .agg #[.int .i64 0, .int .i64 0, .slice none 0 0, .slice none 0 0] from rfl]
        obtain ⟨w11, hw11⟩ : ∃ z, z = (w10.alloc (.cells #[.int .i64 0, .int .i64 0, .slice none 0 0, .slice none 0 0] 25)) := ⟨_, rfl⟩
        have b11 : Below w9.heap.size w9 w11 := by rw [hw11]; exact bNext b10 ((Below.refl _ w10).alloc (Nat.le_refl _) _)
        have HR11 : Hid (Row w11 p 25 [.int .i64 o.cls, .int .i64 o.kind, .slice o.wa o.wn o.wc, .slice o.ba o.bn o.bc]) := (b11.block _ HR9.out.lt).trans HR9.out
        have HB11 := Lib.hid (bNext HB9.out b11)
        have HRX11 := Lib.hid (HRX9.out.below b11)
        have HWW := Lib.hid (c_WWord a2 n c2 L at_ w11 HN.out HRX11.out HBY.out HC2.out (by omega))
        have hWE : wordE L at_ = if o.kind ≠ 1 then 2 else if at_ < 0 ∨ at_ ≥ (o.wn : Int) then 4 else 0 := by
          unfold wordE
          rw [if_neg (not_not_intro HIO.out), HDE.out.2.1, HDE.out.2.2.1, ← HH.out.wl]
        have HWE := Lib.hid hWE
        rw [hw11] at HWW
        have HW11 := Lib.hid hw11
        clear hp10 ok10 hy2 b10 hw11 b11 HR9 HB9 HRX9 HNM hWE
        go_wp2_with fail
        refine HWW.out.mono ?_
        clear HWW
        rw [← HW11.out]
        rintro e w12 ⟨rfl, b12⟩
        have HR12 : Hid (Row w12 p 25 [.int .i64 o.cls, .int .i64 o.kind, .slice o.wa o.wn o.wc, .slice o.ba o.bn o.bc]) := (b12.block _ HR11.out.lt).trans HR11.out
        have HB12 := Lib.hid (bNext HB11.out b12)
        clear b12 HR11 HRX11 HB11
        have i1 := HR12.out.cell (i := 1) rfl
        have i2 := HR12.out.cell (i := 2) rfl
        by_cases hk1 : o.kind = 1
        · have k1 : (o.kind == 1) = true := by rw [hk1]; rfl
          have k2 : (o.kind == 2) = false := by rw [hk1]; rfl
          by_cases ha0 : at_ < 0
          · have hE4 : wordE L at_ = 4 := by rw [HWE.out, if_neg (not_not_intro hk1), if_pos (.inl ha0)]
            have hV4 : wordV L at_ = 0 := by unfold wordV; rw [hE4]; rfl
            have g0 : (at_ ≥ 0) = False := eq_false (by omega)
            have g1 : (0 ≤ at_) = False := eq_false (by omega)
            rw [hE4, hV4]
            clear hE4 hV4 ha0 hk1
            have HDt := Lib.hid (c_Decode a1 len1 cap1 l w12 HELL.out (HRB.out.below HB12.out) HLB.out HCB.out (by have := HLN1.out; omega))
            go_wp2_with fail
            refine HDt.out.mono ?_
            clear HDt
            rintro e wt1 hpt
            obtain ⟨yt, rfl, okt, hyt, bt1⟩ := decPost_to hpt
            rw [show yt.val = .agg #[.int .i64 yt.cls, .int .i64 yt.kind, .slice yt.wa yt.wn yt.wc, .slice yt.ba yt.bn yt.bc] from rfl]
            obtain ⟨wt2, hwt2⟩ : ∃ z, z = (wt1.alloc (.cells #[.int .i64 yt.cls, .int .i64 yt.kind, .slice yt.wa yt.wn yt.wc, .slice yt.ba yt.bn yt.bc] 25)) := ⟨_, rfl⟩
            have bt2 : Below wt1.heap.size wt1 wt2 := by rw [hwt2]; exact (Below.refl _ wt1).alloc (Nat.le_refl _) _
            have HBt2 := Lib.hid (bNext (bNext HB12.out bt1) bt2)
            have HOKt := Lib.hid (okt.below bt2)
            have HLt := Lib.hid (decO_len hyt okt (by have := HLN1.out; have := HELL.out; omega))
            have hRt : Row wt2 wt1.heap.size 25 [.int .i64 yt.cls, .int .i64 yt.kind, .slice yt.wa yt.wn yt.wc, .slice yt.ba yt.bn yt.bc] := by rw [hwt2]; exact Row.made wt1 _ _
            have u0 := hRt.cell (i := 0) rfl
            have u1 := hRt.cell (i := 1) rfl
            have u2 := hRt.cell (i := 2) rfl
            have u3 := hRt.cell (i := 3) rfl
            rw [hwt2] at u0 u1 u2 u3
            have HWt2 := Lib.hid hwt2
            clear hpt okt bt1 bt2 hRt hwt2
            unfold decO at hyt
            unfold decErr
            by_cases hit : isObj l
            · rw [if_pos hit] at hyt ⊢
              have hkt : okObj yt.cls yt.kind yt.W yt.B := by rw [hyt.1, hyt.2.1, hyt.2.2.1, hyt.2.2.2]; exact hit.2.1
              have hEt : chkE yt = 0 := by unfold chkE; rw [if_pos hkt]
              have hxt : encO yt = l := by unfold encO; rw [if_pos hkt, hyt.1, hyt.2.1, hyt.2.2.1, hyt.2.2.2]; exact hit.2.2
              have HEt := Lib.hid (c_Encode yt wt2 HOKt.out (by have := HLt.out; omega))
              unfold EncPost at HEt
              rw [hEt, hxt, show yt.val = .agg #[.int .i64 yt.cls, .int .i64 yt.kind, .slice yt.wa yt.wn yt.wc, .slice yt.ba yt.bn yt.bc] from rfl, HWt2.out] at HEt
              clear hyt hit hkt hEt hxt
              go_wp2_with fail
              refine HEt.out.mono ?_
              clear HEt
              rw [← HWt2.out]
              rintro e wt3 ⟨vt3, rfl, ownt3, bt3⟩
              obtain ⟨at3, ct3, rfl, hrt3, -, -⟩ := owns_reads ownt3
              have HBt3 := Lib.hid (bNext HBt2.out bt3)
              have HSt := Lib.hid (c_Same at3 a1 l.length len1 ct3 cap1 l l wt3 rfl HELL.out hrt3 (HRB.out.below HBt3.out) HLB.out HLB.out)
              rw [decide_eq_true rfl] at HSt
              rw [← HELL.out] at HSt ⊢
              clear ownt3 hrt3 bt3 u0 u1 u2 u3
              go_wp2_with fail
              refine HSt.out.mono ?_
              clear HSt
              rintro e wt4 ⟨rfl, rfl⟩
              go_wp2_with fail
              refine (c_Known _).mono ?_
              rintro e wt5 ⟨rfl, bt5⟩
              have HBt5 := Lib.hid (bNext HBt3.out bt5)
              clear bt5
              go_wp2
              go_ret
              exact ⟨rfl, HBt5.out⟩
            · rw [if_neg hit] at hyt ⊢
              rw [hyt] at u0 HWt2 ⊢
              unfold ObjD.nothing at u0 HWt2 ⊢
              dsimp only at u0 HWt2 ⊢
              clear u1 u2 u3 hyt hit HOKt HLt
              go_wp2_with fail
              rw [← HWt2.out]
              refine (c_Known _).mono ?_
              rintro e wt5 ⟨rfl, bt5⟩
              have HBt5 := Lib.hid (bNext HBt2.out bt5)
              clear bt5
              go_wp2
              go_ret
              exact ⟨rfl, HBt5.out⟩
          · have g0 : (at_ ≥ 0) = True := eq_true (by omega)
            have g1 : (0 ≤ at_) = True := eq_true (by omega)
            by_cases ha1 : at_ ≥ (o.wn : Int)
            · have hE4 : wordE L at_ = 4 := by rw [HWE.out, if_neg (not_not_intro hk1), if_pos (.inr ha1)]
              have hV4 : wordV L at_ = 0 := by unfold wordV; rw [hE4]; rfl
              have g2 : (at_ < (o.wn : Int)) = False := eq_false (by omega)
              rw [hE4, hV4]
              clear hE4 hV4 ha0 hk1 ha1
              have HDt := Lib.hid (c_Decode a1 len1 cap1 l w12 HELL.out (HRB.out.below HB12.out) HLB.out HCB.out (by have := HLN1.out; omega))
              go_wp2_with fail
              refine HDt.out.mono ?_
              clear HDt
              rintro e wt1 hpt
              obtain ⟨yt, rfl, okt, hyt, bt1⟩ := decPost_to hpt
              rw [show yt.val = .agg #[.int .i64 yt.cls, .int .i64 yt.kind, .slice yt.wa yt.wn yt.wc, .slice yt.ba yt.bn yt.bc] from rfl]
              obtain ⟨wt2, hwt2⟩ : ∃ z, z = (wt1.alloc (.cells #[.int .i64 yt.cls, .int .i64 yt.kind, .slice yt.wa yt.wn yt.wc, .slice yt.ba yt.bn yt.bc] 25)) := ⟨_, rfl⟩
              have bt2 : Below wt1.heap.size wt1 wt2 := by rw [hwt2]; exact (Below.refl _ wt1).alloc (Nat.le_refl _) _
              have HBt2 := Lib.hid (bNext (bNext HB12.out bt1) bt2)
              have HOKt := Lib.hid (okt.below bt2)
              have HLt := Lib.hid (decO_len hyt okt (by have := HLN1.out; have := HELL.out; omega))
              have hRt : Row wt2 wt1.heap.size 25 [.int .i64 yt.cls, .int .i64 yt.kind, .slice yt.wa yt.wn yt.wc, .slice yt.ba yt.bn yt.bc] := by rw [hwt2]; exact Row.made wt1 _ _
              have u0 := hRt.cell (i := 0) rfl
              have u1 := hRt.cell (i := 1) rfl
              have u2 := hRt.cell (i := 2) rfl
              have u3 := hRt.cell (i := 3) rfl
              rw [hwt2] at u0 u1 u2 u3
              have HWt2 := Lib.hid hwt2
              clear hpt okt bt1 bt2 hRt hwt2
              unfold decO at hyt
              unfold decErr
              by_cases hit : isObj l
              · rw [if_pos hit] at hyt ⊢
                have hkt : okObj yt.cls yt.kind yt.W yt.B := by rw [hyt.1, hyt.2.1, hyt.2.2.1, hyt.2.2.2]; exact hit.2.1
                have hEt : chkE yt = 0 := by unfold chkE; rw [if_pos hkt]
                have hxt : encO yt = l := by unfold encO; rw [if_pos hkt, hyt.1, hyt.2.1, hyt.2.2.1, hyt.2.2.2]; exact hit.2.2
                have HEt := Lib.hid (c_Encode yt wt2 HOKt.out (by have := HLt.out; omega))
                unfold EncPost at HEt
                rw [hEt, hxt, show yt.val = .agg #[.int .i64 yt.cls, .int .i64 yt.kind, .slice yt.wa yt.wn yt.wc, .slice yt.ba yt.bn yt.bc] from rfl, HWt2.out] at HEt
                clear hyt hit hkt hEt hxt
                go_wp2_with fail
                refine HEt.out.mono ?_
                clear HEt
                rw [← HWt2.out]
                rintro e wt3 ⟨vt3, rfl, ownt3, bt3⟩
                obtain ⟨at3, ct3, rfl, hrt3, -, -⟩ := owns_reads ownt3
                have HBt3 := Lib.hid (bNext HBt2.out bt3)
                have HSt := Lib.hid (c_Same at3 a1 l.length len1 ct3 cap1 l l wt3 rfl HELL.out hrt3 (HRB.out.below HBt3.out) HLB.out HLB.out)
                rw [decide_eq_true rfl] at HSt
                rw [← HELL.out] at HSt ⊢
                clear ownt3 hrt3 bt3 u0 u1 u2 u3
                go_wp2_with fail
                refine HSt.out.mono ?_
                clear HSt
                rintro e wt4 ⟨rfl, rfl⟩
                go_wp2_with fail
                refine (c_Known _).mono ?_
                rintro e wt5 ⟨rfl, bt5⟩
                have HBt5 := Lib.hid (bNext HBt3.out bt5)
                clear bt5
                go_wp2
                go_ret
                exact ⟨rfl, HBt5.out⟩
              · rw [if_neg hit] at hyt ⊢
                rw [hyt] at u0 HWt2 ⊢
                unfold ObjD.nothing at u0 HWt2 ⊢
                dsimp only at u0 HWt2 ⊢
                clear u1 u2 u3 hyt hit HOKt HLt
                go_wp2_with fail
                rw [← HWt2.out]
                refine (c_Known _).mono ?_
                rintro e wt5 ⟨rfl, bt5⟩
                have HBt5 := Lib.hid (bNext HBt2.out bt5)
                clear bt5
                go_wp2
                go_ret
                exact ⟨rfl, HBt5.out⟩
            · have hE4 : wordE L at_ = 0 := by rw [HWE.out, if_neg (not_not_intro hk1), if_neg (by omega)]
              obtain ⟨m, rfl⟩ : ∃ m : Nat, at_ = m := ⟨at_.toNat, by omega⟩
              have hmw : m < o.wn := by omega
              have hV4 : wordV L (m : Int) = o.W.getD m 0 := by unfold wordV; rw [hE4, if_pos rfl, HDE.out.2.2.1]; rfl
              obtain ⟨b0, o0, hb0, _, hc0⟩ := (HH.out.wr.below HB12.out).at (by simp; have := HH.out.wl; omega)
              have kc0 := hc0 m _ (getD_map8 (by have := HH.out.wl; omega))
              rw [hb0] at i2
              have g3 : ((m : Int) < (o.wn : Int)) = True := eq_true (by omega)
              have g4 : (m < o.wn) = True := eq_true (by omega)
              rw [hE4, hV4]
              clear hE4 hV4 ha0 hk1 ha1 hc0 hb0 g0 g1 hmw
              generalize o.W.getD m 0 = x9 at *
              have HDt := Lib.hid (c_Decode a1 len1 cap1 l w12 HELL.out (HRB.out.below HB12.out) HLB.out HCB.out (by have := HLN1.out; omega))
              go_wp2_with fail
              refine HDt.out.mono ?_
              clear HDt
              rintro e wt1 hpt
              obtain ⟨yt, rfl, okt, hyt, bt1⟩ := decPost_to hpt
              rw [show yt.val = .agg #[.int .i64 yt.cls, .int .i64 yt.kind, .slice yt.wa yt.wn yt.wc, .slice yt.ba yt.bn yt.bc] from rfl]
              obtain ⟨wt2, hwt2⟩ : ∃ z, z = (wt1.alloc (.cells #[.int .i64 yt.cls, .int .i64 yt.kind, .slice yt.wa yt.wn yt.wc, .slice yt.ba yt.bn yt.bc] 25)) := ⟨_, rfl⟩
              have bt2 : Below wt1.heap.size wt1 wt2 := by rw [hwt2]; exact (Below.refl _ wt1).alloc (Nat.le_refl _) _
              have HBt2 := Lib.hid (bNext (bNext HB12.out bt1) bt2)
              have HOKt := Lib.hid (okt.below bt2)
              have HLt := Lib.hid (decO_len hyt okt (by have := HLN1.out; have := HELL.out; omega))
              have hRt : Row wt2 wt1.heap.size 25 [.int .i64 yt.cls, .int .i64 yt.kind, .slice yt.wa yt.wn yt.wc, .slice yt.ba yt.bn yt.bc] := by rw [hwt2]; exact Row.made wt1 _ _
              have u0 := hRt.cell (i := 0) rfl
              have u1 := hRt.cell (i := 1) rfl
              have u2 := hRt.cell (i := 2) rfl
              have u3 := hRt.cell (i := 3) rfl
              rw [hwt2] at u0 u1 u2 u3
              have HWt2 := Lib.hid hwt2
              clear hpt okt bt1 bt2 hRt hwt2
              unfold decO at hyt
              unfold decErr
              by_cases hit : isObj l
              · rw [if_pos hit] at hyt ⊢
                have hkt : okObj yt.cls yt.kind yt.W yt.B := by rw [hyt.1, hyt.2.1, hyt.2.2.1, hyt.2.2.2]; exact hit.2.1
                have hEt : chkE yt = 0 := by unfold chkE; rw [if_pos hkt]
                have hxt : encO yt = l := by unfold encO; rw [if_pos hkt, hyt.1, hyt.2.1, hyt.2.2.1, hyt.2.2.2]; exact hit.2.2
                have HEt := Lib.hid (c_Encode yt wt2 HOKt.out (by have := HLt.out; omega))
                unfold EncPost at HEt
                rw [hEt, hxt, show yt.val = .agg #[.int .i64 yt.cls, .int .i64 yt.kind, .slice yt.wa yt.wn yt.wc, .slice yt.ba yt.bn yt.bc] from rfl, HWt2.out] at HEt
                clear hyt hit hkt hEt hxt
                go_wp2_with fail
                refine HEt.out.mono ?_
                clear HEt
                rw [← HWt2.out]
                rintro e wt3 ⟨vt3, rfl, ownt3, bt3⟩
                obtain ⟨at3, ct3, rfl, hrt3, -, -⟩ := owns_reads ownt3
                have HBt3 := Lib.hid (bNext HBt2.out bt3)
                have HSt := Lib.hid (c_Same at3 a1 l.length len1 ct3 cap1 l l wt3 rfl HELL.out hrt3 (HRB.out.below HBt3.out) HLB.out HLB.out)
                rw [decide_eq_true rfl] at HSt
                rw [← HELL.out] at HSt ⊢
                clear ownt3 hrt3 bt3 u0 u1 u2 u3
                go_wp2_with fail
                refine HSt.out.mono ?_
                clear HSt
                rintro e wt4 ⟨rfl, rfl⟩
                go_wp2_with fail
                refine (c_Known _).mono ?_
                rintro e wt5 ⟨rfl, bt5⟩
                have HBt5 := Lib.hid (bNext HBt3.out bt5)
                clear bt5
                go_wp2
                go_ret
                exact ⟨rfl, HBt5.out⟩
              · rw [if_neg hit] at hyt ⊢
                rw [hyt] at u0 HWt2 ⊢
                unfold ObjD.nothing at u0 HWt2 ⊢
                dsimp only at u0 HWt2 ⊢
                clear u1 u2 u3 hyt hit HOKt HLt
                go_wp2_with fail
                rw [← HWt2.out]
                refine (c_Known _).mono ?_
                rintro e wt5 ⟨rfl, bt5⟩
                have HBt5 := Lib.hid (bNext HBt2.out bt5)
                clear bt5
                go_wp2
                go_ret
                exact ⟨rfl, HBt5.out⟩
        · have k1 : (o.kind == 1) = false := by simpa using hk1
          have hk2 : o.kind = 2 := by
            rcases HOK.out.2 with ⟨h, _⟩ | ⟨h, _⟩
            · exact absurd h hk1
            · exact h
          have k2 : (o.kind == 2) = true := by rw [hk2]; rfl
          have hE4 : wordE L at_ = 2 := by rw [HWE.out, if_pos hk1]
          have hV4 : wordV L at_ = 0 := by unfold wordV; rw [hE4]; rfl
          rw [hE4, hV4]
          clear hE4 hV4 hk1 hk2
          have HDt := Lib.hid (c_Decode a1 len1 cap1 l w12 HELL.out (HRB.out.below HB12.out) HLB.out HCB.out (by have := HLN1.out; omega))
          go_wp2_with fail
          refine HDt.out.mono ?_
          clear HDt
          rintro e wt1 hpt
          obtain ⟨yt, rfl, okt, hyt, bt1⟩ := decPost_to hpt
          rw [show yt.val = .agg #[.int .i64 yt.cls, .int .i64 yt.kind, .slice yt.wa yt.wn yt.wc, .slice yt.ba yt.bn yt.bc] from rfl]
          obtain ⟨wt2, hwt2⟩ : ∃ z, z = (wt1.alloc (.cells #[.int .i64 yt.cls, .int .i64 yt.kind, .slice yt.wa yt.wn yt.wc, .slice yt.ba yt.bn yt.bc] 25)) := ⟨_, rfl⟩
          have bt2 : Below wt1.heap.size wt1 wt2 := by rw [hwt2]; exact (Below.refl _ wt1).alloc (Nat.le_refl _) _
          have HBt2 := Lib.hid (bNext (bNext HB12.out bt1) bt2)
          have HOKt := Lib.hid (okt.below bt2)
          have HLt := Lib.hid (decO_len hyt okt (by have := HLN1.out; have := HELL.out; omega))
          have hRt : Row wt2 wt1.heap.size 25 [.int .i64 yt.cls, .int .i64 yt.kind, .slice yt.wa yt.wn yt.wc, .slice yt.ba yt.bn yt.bc] := by rw [hwt2]; exact Row.made wt1 _ _
          have u0 := hRt.cell (i := 0) rfl
          have u1 := hRt.cell (i := 1) rfl
          have u2 := hRt.cell (i := 2) rfl
          have u3 := hRt.cell (i := 3) rfl
          rw [hwt2] at u0 u1 u2 u3
          have HWt2 := Lib.hid hwt2
          clear hpt okt bt1 bt2 hRt hwt2
          unfold decO at hyt
          unfold decErr
          by_cases hit : isObj l
          · rw [if_pos hit] at hyt ⊢
            have hkt : okObj yt.cls yt.kind yt.W yt.B := by rw [hyt.1, hyt.2.1, hyt.2.2.1, hyt.2.2.2]; exact hit.2.1
            have hEt : chkE yt = 0 := by unfold chkE; rw [if_pos hkt]
            have hxt : encO yt = l := by unfold encO; rw [if_pos hkt, hyt.1, hyt.2.1, hyt.2.2.1, hyt.2.2.2]; exact hit.2.2
            have HEt := Lib.hid (c_Encode yt wt2 HOKt.out (by have := HLt.out; omega))
            unfold EncPost at HEt
            rw [hEt, hxt, show yt.val = .agg #[.int .i64 yt.cls, .int .i64 yt.kind, .slice yt.wa yt.wn yt.wc, .slice yt.ba yt.bn yt.bc] from rfl, HWt2.out] at HEt
            clear hyt hit hkt hEt hxt
            go_wp2_with fail
            refine HEt.out.mono ?_
            clear HEt
            rw [← HWt2.out]
            rintro e wt3 ⟨vt3, rfl, ownt3, bt3⟩
            obtain ⟨at3, ct3, rfl, hrt3, -, -⟩ := owns_reads ownt3
            have HBt3 := Lib.hid (bNext HBt2.out bt3)
            have HSt := Lib.hid (c_Same at3 a1 l.length len1 ct3 cap1 l l wt3 rfl HELL.out hrt3 (HRB.out.below HBt3.out) HLB.out HLB.out)
            rw [decide_eq_true rfl] at HSt
            rw [← HELL.out] at HSt ⊢
            clear ownt3 hrt3 bt3 u0 u1 u2 u3
            go_wp2_with fail
            refine HSt.out.mono ?_
            clear HSt
            rintro e wt4 ⟨rfl, rfl⟩
            go_wp2_with fail
            refine (c_Known _).mono ?_
            rintro e wt5 ⟨rfl, bt5⟩
            have HBt5 := Lib.hid (bNext HBt3.out bt5)
            clear bt5
            go_wp2
            go_ret
            exact ⟨rfl, HBt5.out⟩
          · rw [if_neg hit] at hyt ⊢
            rw [hyt] at u0 HWt2 ⊢
            unfold ObjD.nothing at u0 HWt2 ⊢
            dsimp only at u0 HWt2 ⊢
            clear u1 u2 u3 hyt hit HOKt HLt
            go_wp2_with fail
            rw [← HWt2.out]
            refine (c_Known _).mono ?_
            rintro e wt5 ⟨rfl, bt5⟩
            have HBt5 := Lib.hid (bNext HBt2.out bt5)
            clear bt5
            go_wp2
            go_ret
            exact ⟨rfl, HBt5.out⟩
      · have hE : chkE o = 2 := by unfold chkE; rw [if_neg hok]
        rw [hE]
        generalize (encO o).length = n at *
        clear hE hok
        have HDt := Lib.hid (c_Decode a1 len1 cap1 l w2 HELL.out (HRB.out.below HB2.out) HLB.out HCB.out (by have := HLN1.out; omega))
        go_wp2_with fail
        refine HDt.out.mono ?_
        clear HDt
        rintro e wt1 hpt
        obtain ⟨yt, rfl, okt, hyt, bt1⟩ := decPost_to hpt
        rw [show yt.val = .agg #[.int .i64 yt.cls, .int .i64 yt.kind, .slice yt.wa yt.wn yt.wc, .slice yt.ba yt.bn yt.bc] from rfl]
        obtain ⟨wt2, hwt2⟩ : ∃ z, z = (wt1.alloc (.cells #[.int .i64 yt.cls, .int .i64 yt.kind, .slice yt.wa yt.wn yt.wc, .slice yt.ba yt.bn yt.bc] 25)) := ⟨_, rfl⟩
        have bt2 : Below wt1.heap.size wt1 wt2 := by rw [hwt2]; exact (Below.refl _ wt1).alloc (Nat.le_refl _) _
        have HBt2 := Lib.hid (bNext (bNext HB2.out bt1) bt2)
        have HOKt := Lib.hid (okt.below bt2)
        have HLt := Lib.hid (decO_len hyt okt (by have := HLN1.out; have := HELL.out; omega))
        have hRt : Row wt2 wt1.heap.size 25 [.int .i64 yt.cls, .int .i64 yt.kind, .slice yt.wa yt.wn yt.wc, .slice yt.ba yt.bn yt.bc] := by rw [hwt2]; exact Row.made wt1 _ _
        have u0 := hRt.cell (i := 0) rfl
        have u1 := hRt.cell (i := 1) rfl
        have u2 := hRt.cell (i := 2) rfl
        have u3 := hRt.cell (i := 3) rfl
        rw [hwt2] at u0 u1 u2 u3
        have HWt2 := Lib.hid hwt2
        clear hpt okt bt1 bt2 hRt hwt2
        unfold decO at hyt
        unfold decErr
        by_cases hit : isObj l
        · rw [if_pos hit] at hyt ⊢
          have hkt : okObj yt.cls yt.kind yt.W yt.B := by rw [hyt.1, hyt.2.1, hyt.2.2.1, hyt.2.2.2]; exact hit.2.1
          have hEt : chkE yt = 0 := by unfold chkE; rw [if_pos hkt]
          have hxt : encO yt = l := by unfold encO; rw [if_pos hkt, hyt.1, hyt.2.1, hyt.2.2.1, hyt.2.2.2]; exact hit.2.2
          have HEt := Lib.hid (c_Encode yt wt2 HOKt.out (by have := HLt.out; omega))
          unfold EncPost at HEt
          rw [hEt, hxt, show yt.val = .agg #[.int .i64 yt.cls, .int .i64 yt.kind, .slice yt.wa yt.wn yt.wc, .slice yt.ba yt.bn yt.bc] from rfl, HWt2.out] at HEt
          clear hyt hit hkt hEt hxt
          go_wp2_with fail
          refine HEt.out.mono ?_
          clear HEt
          rw [← HWt2.out]
          rintro e wt3 ⟨vt3, rfl, ownt3, bt3⟩
          obtain ⟨at3, ct3, rfl, hrt3, -, -⟩ := owns_reads ownt3
          have HBt3 := Lib.hid (bNext HBt2.out bt3)
          have HSt := Lib.hid (c_Same at3 a1 l.length len1 ct3 cap1 l l wt3 rfl HELL.out hrt3 (HRB.out.below HBt3.out) HLB.out HLB.out)
          rw [decide_eq_true rfl] at HSt
          rw [← HELL.out] at HSt ⊢
          clear ownt3 hrt3 bt3 u0 u1 u2 u3
          go_wp2_with fail
          refine HSt.out.mono ?_
          clear HSt
          rintro e wt4 ⟨rfl, rfl⟩
          go_wp2_with fail
          refine (c_Known _).mono ?_
          rintro e wt5 ⟨rfl, bt5⟩
          have HBt5 := Lib.hid (bNext HBt3.out bt5)
          clear bt5
          go_wp2
          go_ret
          exact ⟨rfl, HBt5.out⟩
        · rw [if_neg hit] at hyt ⊢
          rw [hyt] at u0 HWt2 ⊢
          unfold ObjD.nothing at u0 HWt2 ⊢
          dsimp only at u0 HWt2 ⊢
          clear u1 u2 u3 hyt hit HOKt HLt
          go_wp2_with fail
          rw [← HWt2.out]
          refine (c_Known _).mono ?_
          rintro e wt5 ⟨rfl, bt5⟩
          have HBt5 := Lib.hid (bNext HBt2.out bt5)
          clear bt5
          go_wp2
          go_ret
          exact ⟨rfl, HBt5.out⟩

end Go.Proofs.Ytdedidjobjdekaa
