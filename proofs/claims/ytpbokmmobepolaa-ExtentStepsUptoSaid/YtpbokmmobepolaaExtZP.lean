/-
  The law ExtentSteps. (Written by exlawsteps.py.)
-/
import Derived.Test.YtpbokmmobepolaaExtZO
namespace Go.Proofs.Ytpbokmmobepolaa
open Go.RowKit Go.Maps
set_option linter.unusedVariables false
set_option maxHeartbeats 8000000
set_option maxRecDepth 100000

theorem len_cnt (ds : List Do3) : ds.length ≤ cntD ds := by
  induction ds with
  | nil => exact Nat.zero_le _
  | cons d ds ih => unfold cntD at ih ⊢; simp only [List.map_cons, List.sum_cons, List.length_cons]; omega
theorem n_cnt {ds : List Do3} {d : Do3} (h : d ∈ ds) : d.n ≤ 64 * cntD ds := by
  induction ds with
  | nil => cases h
  | cons e ds ih =>
    unfold cntD at ih ⊢
    simp only [List.map_cons, List.sum_cons]
    rcases List.mem_cons.1 h with rfl | h
    · omega
    · have := ih h; omega

theorem law_ExtentSteps (a0 : Int) (a1 : Option Addr) (len1 cap1 : Nat) (ds : List Do3) (w : World) (w0 : (Lit.int .i64 a0).wf = true) (w1 : Do3s w a1 len1 cap1 ds) (hs : cntD ds ≤ 1000000) :
    Calls Try.prog 7 #[.int .i64 a0, .slice a1 len1 cap1] w fun e w' => e = .returned (.bool true) ∧ Below w.heap.size w w' := by
  obtain ⟨b0, b1⟩ := bounds_i64 w0
  obtain ⟨rfl, hc1, hm1, hr, hok⟩ := w1
  have HR := Lib.hid hr
  have HOK := Lib.hid hok
  unfold maxLen at hm1
  have HLO := Lib.hid (c_long (c := cap1) hr hs (fun d hd => by have := n_cnt hd; omega))
  have HLC := Lib.hid (len_cnt ds)
  have HNC := Lib.hid (fun (d : Do3) (hd : d ∈ ds) => n_cnt hd)
  clear hr hok w0
  by_cases hA : 300 < a0 ∧ a0 ≤ 20000
  · obtain ⟨h1, h2⟩ := hA
    go_enter Try.func7, Try.ntmps7
    go_wp2_with fail
    refine (c_known04 _).mono ?_
    rintro e w' ⟨rfl, bk⟩
    go_wp2
    go_ret
    exact ⟨rfl, bk⟩
  by_cases hB : (80 : Int) < (cntD ds : Nat)
  · rw [decide_eq_true hB] at HLO
    by_cases h1 : 300 < a0
    · have h2 : 20000 < a0 := by omega
      clear hA
      go_enter Try.func7, Try.ntmps7
      go_wp2_with fail
      refine HLO.out.mono ?_
      rintro e w' ⟨rfl, rfl⟩
      go_wp2_with fail
      refine (c_known04 _).mono ?_
      rintro e w' ⟨rfl, bk⟩
      go_wp2
      go_ret
      exact ⟨rfl, bk⟩
    · clear hA
      go_enter Try.func7, Try.ntmps7
      go_wp2_with fail
      refine HLO.out.mono ?_
      rintro e w' ⟨rfl, rfl⟩
      go_wp2_with fail
      refine (c_known04 _).mono ?_
      rintro e w' ⟨rfl, bk⟩
      go_wp2
      go_ret
      exact ⟨rfl, bk⟩
  rw [decide_eq_false hB] at HLO
  by_cases h1 : 300 < a0
  · have h2 : 20000 < a0 := by omega
    clear hA
    go_enter Try.func7, Try.ntmps7
    go_wp2_with fail
    refine HLO.out.mono ?_
    rintro e w' ⟨rfl, rfl⟩
    go_wp2_with fail
    refine (c_ENewNo a0 _ b0 b1 (.inr h2)).mono ?_
    rintro e w' ⟨rfl, rfl⟩
    go_wp2_with fail
    refine (c_known04 _).mono ?_
    rintro e w' ⟨rfl, bk⟩
    go_wp2
    go_ret
    exact ⟨rfl, bk⟩
  clear hA
  by_cases h2 : a0 < 0
  · go_enter Try.func7, Try.ntmps7
    go_wp2_with fail
    refine HLO.out.mono ?_
    rintro e w' ⟨rfl, rfl⟩
    go_wp2_with fail
    refine (c_ENewNo a0 _ b0 b1 (.inl h2)).mono ?_
    rintro e w' ⟨rfl, rfl⟩
    go_wp2_with fail
    refine (c_known04 _).mono ?_
    rintro e w' ⟨rfl, bk⟩
    go_wp2
    go_ret
    exact ⟨rfl, bk⟩
  obtain ⟨N, rfl⟩ := Int.eq_ofNat_of_zero_le (show 0 ≤ a0 by omega)
  have hN : N ≤ 300 := by omega
  have hcn : cntD ds ≤ 80 := by omega
  go_enter Try.func7, Try.ntmps7
  go_wp2_with fail
  refine HLO.out.mono ?_
  rintro e w' ⟨rfl, rfl⟩
  clear hB HLO b0 b1 h1 h2
  go_wp2_with fail
  refine (gNew N _ (by omega)).mono ?_
  rintro e v0 ⟨I, rfl, hg, hi, hb⟩
  have HG := Lib.hid hg
  have HI := Lib.hid hi
  have HB := Lib.hid hb
  generalize hM : w.heap.size = M at *
  have HM := Lib.hid hM
  clear hg hi hb hM
  have HI2 : Hid (∀ j ∈ I.all, j < v0.heap.size) := HG.out.lt
  have HDL : Hid (ds.length ≤ 80) := Nat.le_trans HLC.out hcn
  have HDN : Hid (∀ d ∈ ds, d.n ≤ 6000) := fun d hd => by have := HNC.out d hd; omega
  clear HLC HNC hs hcn
  go_wp2
  go_loopw [7, 8, 9] (fun v7 v8 i wr => ∃ (j : Nat) (rs : List RwB) (T : List Ext) (ra : Option Addr) (rn rc : Nat), j ≤ ds.length ∧ i = .int .i64 j ∧ v7 = .slice ra rn rc ∧ Hid (RoundAt wr I N v0.heap.size j rs ra rn rc T v8) ∧ Hid (Upd I.all v0 wr)) (fun _ _ i _ => ds.length - (intOf i).toNat)
  case atStart => exact ⟨0, [], [], none, 0, 0, Nat.zero_le _, rfl, rfl, ⟨HG.out, RowsAt.nil _ _, World.ownsRow_nil _ _ _ _, Nat.le_refl _, fun t ht => (by cases ht), fun k hk => (by cases hk)⟩, Upd.refl _ _⟩
  case round =>
    obtain ⟨j, rs, T, ra, rn, rc, hj, rfl, rfl, HRA, HU⟩ := hrel
    obtain ⟨ta, tc, hv8, -, htb, -, -, htl⟩ := owns_exts HRA.out.own
    subst hv8
    have HTB := Lib.hid htb
    have HTL := Lib.hid htl
    have hbw : Below w.heap.size w wr := by rw [HM.out]; exact HB.out.trans (HU.out.below (by have h1 := HB.out.size; have h2 := HM.out; omega) HI.out)
    have HBW := Lib.hid hbw
    clear htb htl hbw
    by_cases hlt : j < ds.length
    · obtain ⟨b, off, rfl, hb, c0, c1, c2⟩ := do_cells (HR.out.below HBW.out) hlt
      have hdok := HOK.out _ (List.getElem_mem hlt)
      have hdn := HDN.out _ (List.getElem_mem hlt)
      have hbM : b < w.heap.size := by
        obtain ⟨b', off', e, hb', -⟩ := do_cells HR.out hlt
        cases e
        exact hb'
      obtain ⟨d, hd⟩ : ∃ d, d = ds[j] := ⟨_, rfl⟩
      rw [← hd] at c0 c1 c2 hdok hdn
      obtain ⟨-, -, e0, hcap, -, hdr, hby⟩ := hdok
      have HD := Lib.hid hd
      have HE := Lib.hid e0
      have HDR := Lib.hid hdr
      have HBY : Hid (Byt d.l) := fun z hz => bounds_u8 (hby z hz)
      have HC2 := Lib.hid c2
      have HC0 := Lib.hid c0
      have HBM := Lib.hid hbM
      obtain ⟨X, hX⟩ : ∃ z, z = wr.heap.size := ⟨_, rfl⟩
      obtain ⟨W1, hW⟩ : ∃ z, z = wr.alloc (.cells #[.int .i64 (-1), .int .i64 0, .int .i64 0] 34) := ⟨_, rfl⟩
      have bW : Below wr.heap.size wr W1 := by rw [hW]; exact (Below.refl _ _).alloc (Nat.le_refl _) _
      have rX : Row W1 X 34 [.int .i64 (-1), .int .i64 0, .int .i64 0] := by rw [hW, hX]; exact Row.made wr _ _
      have kc1 : W1.cell? ⟨b, off + j * 3 + 1, none⟩ = some (.int .i64 d.num) := cellKeep bW c1
      have HB1 := Lib.hid bW
      have HKC := Lib.hid kc1
      have HRX := Lib.hid rX
      have HW1 := Lib.hid hW
      have HXX := Lib.hid hX
      clear hd e0 hdr hby hbM hb c0 c1 c2 hX hW bW rX kc1
      refine wp_seq_k (fun K1 hK1 => ?_)
      have HK1 := Lib.hid hK1
      clear hK1
      go_wp2
      refine HK1.out _ _ ?_
      refine wp_seq_k (fun K2 hK2 => ?_)
      have HK2 := Lib.hid hK2
      clear hK2
      refine wp_block ?_
      refine wp_seq_k (fun K3 hK3 => ?_)
      have HK3 := Lib.hid hK3
      clear hK3
      go_wp2
      rw [← HW1.out, ← HXX.out]
      clear HW1
      refine HK3.out _ _ ?_
      clear HK1 HK3
      refine wp_seq_k (fun K4 hK4 => ?_)
      have HK4 := Lib.hid hK4
      clear hK4
      refine unit14 hlt HKC.out (HTB.out.below HB1.out) HRX.out ?_
      intro t66 t67 t68 t69 t70 t71 t72 t73 t74 t75 t76 t77 t78 t79 t80 t81 t82 t83 t84 t85 t86 t87 t88 t89 w2 x hx2
      refine HK4.out _ _ ?_
      clear HK4
      refine wp_seq_k (fun K10 hK10 => ?_)
      have HK10 := Lib.hid hK10
      clear hK10
      go_wp2
      refine HK10.out _ _ ?_
      clear HK10
      refine wp_seq_k (fun K11 hK11 => ?_)
      have HK11 := Lib.hid hK11
      clear hK11
      go_wp2
      refine HK11.out _ _ ?_
      clear HK11
      refine wp_seq_k (fun K12 hK12 => ?_)
      have HK12 := Lib.hid hK12
      clear hK12
      go_wp2
      refine HK12.out _ _ ?_
      clear HK12
      refine wp_seq_k (fun K13 hK13 => ?_)
      have HK13 := Lib.hid hK13
      clear hK13
      go_wp2
      refine HK13.out _ _ ?_
      clear HK13
      refine wp_seq_k (fun K14 hK14 => ?_)
      have HK14 := Lib.hid hK14
      clear hK14
      go_wp2
      refine HK14.out _ _ ?_
      clear HK14
      obtain ⟨W3, hW3⟩ : ∃ z, z = w2.alloc (.cells #[.int .i64 0, .int .i64 0, .int .i64 0] 34) := ⟨_, rfl⟩
      obtain ⟨W4, hW4⟩ : ∃ z, z = W3.alloc (.cells #[.int .i64 0, .int .i64 0, .int .i64 0] 34) := ⟨_, rfl⟩
      obtain ⟨X12, hX12⟩ : ∃ z, z = w2.heap.size := ⟨_, rfl⟩
      obtain ⟨X13, hX13⟩ : ∃ z, z = w2.heap.size + 1 := ⟨_, rfl⟩
      have hs3 : W3.heap.size = w2.heap.size + 1 := by rw [hW3]; simp
      have bW3 : Below w2.heap.size w2 W3 := by rw [hW3]; exact (Below.refl _ _).alloc (Nat.le_refl _) _
      have bW4 : Below W3.heap.size W3 W4 := by rw [hW4]; exact (Below.refl _ _).alloc (Nat.le_refl _) _
      have r12 : Row W3 X12 34 [.int .i64 0, .int .i64 0, .int .i64 0] := by rw [hW3, hX12]; exact Row.made w2 _ _
      have r13 : Row W4 X13 34 [.int .i64 0, .int .i64 0, .int .i64 0] := by rw [hW4, hX13, ← hs3]; exact Row.made W3 _ _
      rw [← hW3, ← hW4, ← hX13, ← hX12]
      clear hW3 hW4
      obtain ⟨hu2, hx10, hxT⟩ := hx2
      have u4 : Upd [X] wr W4 := (((Upd.of_below HB1.out).trans hu2).trans (.of_below bW3)).trans (.of_below bW4)
      have hXX := HXX.out
      have hsz2 : wr.heap.size + 1 ≤ w2.heap.size := by have h1 := HRX.out.lt; have h2 := hu2.size; omega
      have hsz4 : w2.heap.size + 1 ≤ W4.heap.size := by have h2 := bW4.size; omega
      have hBr := HU.out.size
      have hMv := HB.out.size
      have hMM := HM.out
      have hXn : X ∉ I.all := fun hm => by have := HI2.out _ hm; omega
      have hb4 : Below w.heap.size w W4 := bNext HBW.out (u4.below (Nat.le_refl _) (fun q hq => by simp at hq; omega))
      obtain ⟨b', off', eb, hb', k0, k1, k2⟩ := do_cells (HR.out.below hb4) hlt
      rw [← HD.out] at k0 k1 k2
      cases eb
      have hbM := HBM.out
      have frn : rn ≤ 300 := HRA.out.len hN
      have frw : RowsAt W4 v0.heap.size ra rn rc rs := HRA.out.rows.keep' u4 (fun h0 z hz hm => by have := HRA.out.rows.lt h0 z hz; simp at hm; omega) (fun r hr h0 z hz hm => by have := (HRA.out.rows.oks r hr).lt h0 z hz; simp at hm; omega)
      have fsg : SG W4 I (Lof rs) N j := HRA.out.sg.keep u4 (fun q hq hm => hXn (by simp at hm; rw [← hm]; exact hq))
      have f10 : Row W4 X 34 (exC x) := (hx10.keep (l := []) (.of_below bW3) (by simp)).keep (l := []) (.of_below bW4) (by simp)
      have f12 : Row W4 X12 34 [.int .i64 0, .int .i64 0, .int .i64 0] := r12.keep (l := []) (.of_below bW4) (by simp)
      have ffar : ∀ q ∈ [X12, X13], (0 < rn → ∀ y, ra = some y → y.block ≠ q) ∧ ∀ r ∈ rs, 0 < r.n → ∀ y, r.a = some y → y.block ≠ q := fun q hq => ⟨fun h0 z hz e => by have := HRA.out.rows.lt h0 z hz; simp at hq; omega, fun r hr h0 z hz e => by have := (HRA.out.rows.oks r hr).lt h0 z hz; simp at hq; omega⟩
      have fnot : ∀ q, q < w.heap.size → q ∉ I.all ++ [X12, X13] := fun q hq hm => by
        rcases List.mem_append.1 hm with h1 | h1
        · have := HI.out _ h1; omega
        · simp at h1; omega
      have fcell : ∀ w', Upd (I.all ++ [X12, X13]) W4 w' → w'.cell? ⟨b, off + j * 3 + 2, none⟩ = some (.slice d.a d.n d.c) := fun w' u => upd_cell u k2 (fnot _ hbM)
      have fdr : ∀ w', Upd (I.all ++ [X12, X13]) W4 w' → Reads w' d.a d.c (d.l.map (Value.int .u8)) := fun w' u => reads_keep (HDR.out.below hb4) u (fun h0 z hz => fnot _ (readBlock HDR.out h0 z hz))
      have fxo : exOk x := hxT.elim (fun h1 => by rw [h1]; exact ⟨rfl, rfl, rfl⟩) (fun h1 => HRA.out.oks x h1)
      have fjk : j ≤ 1000 := by have := HDL.out; omega
      have HU4 := Lib.hid u4
      have HSZ := Lib.hid (And.intro hsz2 hsz4)
      have HX12 := Lib.hid (And.intro hX12 hX13)
      refine wp_seq_k (fun K6 hK6 => ?_)
      refine u21all hN fjk frn hlt (by omega) fsg frw f12 r13 f10 HI2.out ⟨by omega, by omega, by omega⟩ ⟨by omega, by omega, by omega⟩ ffar k0 fcell HE.out (by omega) HBY.out hcap fdr (argOut HDR.out HE.out HM.out HI.out) fxo (fun _ _ _ _ _ h => h) ?_
      clear k0 k1 k2 hb' hb4 frw fsg f10 f12 ffar fnot fcell fdr fxo r12 r13 bW3 bW4 hu2 hx10 hxT u4
      intro t16 t17 t18 t93 t94 t95 t96 t97 t98 t99 t100 t101 t102 t103 t104 t105 t106 t107 t108 t109 t110 t111 t112 t113 t114 t115 t116 t117 t118 t119 t120 t121 t122 t123 t124 t125 t126 t127 t128 t129 t130 t131 t132 t133 t134 t135 t136 t137 t138 t139 t140 t141 t142 t143 t144 t145 t146 t147 t148 t149 t150 t151 t152 t153 t154 t155 t156 t157 t158 t159 t160 t161 t162 t163 t164 t165 t166 t167 t168 t169 t170 t171 t172 t173 t174 t175 t176 t177 t178 t179 t180 t181 t182 t183 t184 w5 y f na nn nc rs' hso
      refine hK6 _ _ ?_
      have hu5 : Upd I.all wr w5 := Upd.new (m := X :: (I.all ++ [X12, X13])) ((HU4.out.mono (by simp)).trans (hso.upd.mono (fun q hq => List.mem_cons_of_mem _ hq))) (fun q hq => by
        rcases List.mem_cons.1 hq with h1 | h1
        · right; omega
        · rcases List.mem_append.1 h1 with h2 | h2
          · exact .inl h2
          · right; simp at h2; omega)
      have hnn : nn ≤ 1000 := by
        have h1 := hso.rows.len
        have h2 := hso.sg.sum
        have h3 := sum_ge (Lof rs')
        have h4 : (Lof rs').length = rs'.length := by simp [Lof]
        omega
      have hfew := HRA.out.few
      refine unit38 hN hnn (by omega) (by have := hu5.size; omega) hso.sg hso.rows hso.y12 hso.y13 (hu5.ownsAbove HRA.out.own HI2.out) ?_
      intro t185 t186 t187 t188 t189 t190 t191 t192 t193 t194 t195 t196 t197 t198 t199 t200 t201 t202 t203 t204 t205 t206 t207 w6 v8 h8
      refine HK2.out _ _ ?_
      obtain ⟨T', hra, hu6⟩ := HRA.out.next HU.out rfl HI2.out hBr (by omega) hu5 hso h8
      have HRN := Lib.hid hra
      have HU6 := Lib.hid hu6
      clear h8 hso hu5 hnn hfew hK6 hra hu6
      go_wp2
      go_roundw
      case rel => exact ⟨j + 1, rs', T', na, nn, nc, by omega, by go_num, rfl, HRN.out, HU6.out⟩
      case measure => simp [intOf]; omega
    · obtain rfl : j = ds.length := by omega
      have HRW := Lib.hid HRA.out.rows
      have hrn := HRA.out.len hN
      have HRL := Lib.hid HRA.out.rows.len
      have HSG := Lib.hid HRA.out.sg
      have hdl := HDL.out
      clear HRA HTB HTL HBW hlt hj
      go_wp2
      go_loopw [19] (fun i wr2 => ∃ m : Nat, m ≤ rn ∧ i = .int .i64 m ∧ Hid (SG wr2 I (Lof rs) N (ds.length + m)) ∧ Hid (RowsAt wr2 v0.heap.size ra rn rc rs) ∧ Hid (Upd I.all v0 wr2)) (fun i _ => rn - (intOf i).toNat)
      case atStart => exact ⟨0, Nat.zero_le _, rfl, HSG.out, HRW.out, HU.out⟩
      case round =>
        clear HSG HRW HU
        obtain ⟨m, hm, rfl, HSG, HRW, HU⟩ := hrel
        by_cases hlt : m < rn
        · have hlt2 : m < rs.length := by have := HRL.out; omega
          obtain ⟨b, off, rfl, hb, c0, c1, c2, c3⟩ := row_cells HRW.out hlt2
          have hml : rs[m].x ∈ Lof rs := List.mem_map.2 ⟨rs[m], List.getElem_mem hlt2, rfl⟩
          have hGE := gGet HSG.out hN (by omega) hml
          have hok := HRW.out.oks rs[m] (List.getElem_mem hlt2)
          obtain ⟨r, hr⟩ : ∃ z, z = rs[m] := ⟨_, rfl⟩
          rw [← hr] at c0 c1 c2 c3 hGE hok
          unfold exA at hGE
          have HGE := Lib.hid hGE
          have HRR := Lib.hid hr
          clear hGE hml hb c3 hr hok
          go_wp2_with fail
          refine HGE.out.mono ?_
          clear HGE c0 c1 c2
          rintro e w3 ⟨ga, gc, rfl, hgr, hgb, hg, ku⟩
          have HSG := Lib.hid hg
          have HGR := Lib.hid hgr
          have HRW := Lib.hid (HRW.out.keep ku HI2.out)
          have HU := Lib.hid (HU.out.trans ku)
          obtain ⟨b', off', e, -, -, -, -, c3⟩ := row_cells HRW.out hlt2
          cases e
          have hok := HRW.out.oks rs[m] (List.getElem_mem hlt2)
          rw [← HRR.out] at c3 hok
          have HOKR := Lib.hid hok
          clear hg hgr hgb ku hok
          go_wp2_with fail
          have hSM := c_Same ga r.a _ r.n gc r.c r.x.2 r.x.2 _ rfl HOKR.out.1 HGR.out HOKR.out.2.2.1 HOKR.out.2.2.2.1 HOKR.out.2.2.2.1
          rw [show decide (r.x.2 = r.x.2) = true from decide_eq_true rfl] at hSM
          refine hSM.mono ?_
          clear hSM
          rintro e w' ⟨rfl, rfl⟩
          go_wp2
          go_roundw
          case rel => exact ⟨m + 1, by omega, by go_num, HSG.out, HRW.out, HU.out⟩
          case measure => simp [intOf]; omega
        · go_wp2_with fail
          refine (gLen HSG.out).mono ?_
          rintro e w' ⟨rfl, rfl⟩
          have HBX : Hid (Below w.heap.size w wr) := by unfold Hid; rw [HM.out]; exact HB.out.trans (HU.out.below (by have h1 := HB.out.size; have h2 := HM.out; omega) HI.out)
          go_wp2_with fail
          refine (c_known04 _).mono ?_
          rintro e w' ⟨rfl, bk⟩
          have HFX := Lib.hid (bNext HBX.out bk)
          clear bk
          go_wp2
          go_ret
          exact ⟨rfl, HFX.out⟩

end Go.Proofs.Ytpbokmmobepolaa
