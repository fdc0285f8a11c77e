/-
  The law SchedOne. (Written by sonegen.py.)
-/
import Derived.Test.YtbkaafbkmcgfjaaSchedAK
namespace Go.Proofs.Ytbkaafbkmcgfjaa
open Go.RowKit
set_option linter.unusedVariables false
set_option maxHeartbeats 8000000
set_option maxRecDepth 20000

theorem law_SchedOne (a0 : Option Addr) (len0 cap0 : Nat) (ds : List Do8) (w : World) (w0 : Do8s w a0 len0 cap0 ds) :
    Calls Try.prog 6 #[.slice a0 len0 cap0] w fun e w' => e = .returned (.bool true) ∧ Below w.heap.size w w' := by
  obtain ⟨ed, hc0, hm0, hr0, -⟩ := w0
  unfold maxLen at hm0
  have ED := Lib.hid ed
  have HD := Lib.hid hr0
  clear ed hr0
  by_cases hl : 120 < len0
  · go_enter Try.func6, Try.ntmps6
    go_wp2_with fail
    refine (c_known20 _).mono ?_
    rintro e w' ⟨rfl, bk⟩
    go_wp2
    go_ret
    exact ⟨rfl, bk⟩
  go_enter Try.func6, Try.ntmps6
  go_wp2_with fail
  refine (x_New _).mono ?_
  rintro e w1 ⟨L1, rfl, hx, hb⟩
  have HX := Lib.hid hx
  have HB := Lib.hid hb
  clear hx hb
  have HDC := Lib.hid (fun (k : Nat) (hk : k < ds.length) => do_cells HD.out hk)
  generalize hM : w.heap.size = M at *
  have HM := Lib.hid hM
  clear hM HD
  obtain ⟨W, hW⟩ : ∃ W, W = w1.alloc (.cells #[.int .i64 0] 3) := ⟨_, rfl⟩
  obtain ⟨qp, hqp⟩ : ∃ q, q = w1.heap.size := ⟨_, rfl⟩
  have bW : Below w1.heap.size w1 W := by rw [hW]; exact (Below.refl _ _).alloc (Nat.le_refl _) _
  have hPO : PO M qp 1 L1.B 0 (prs newR) W := ⟨rfl, by
    have hr : Row W qp 3 [.int .i64 0] := by rw [hW, hqp]; exact Row.made w1 _ _
    exact hr.owns (by have h1 := HX.out.bs; omega) rfl (Nat.le_refl _) (by unfold maxLen; simp), fun hm => by have := HX.out.lt _ hm; omega⟩
  have HPO := Lib.hid hPO
  have HB := Lib.hid (bBel HB.out HX.out (Nat.le_refl _) bW)
  have HX := Lib.hid (HX.out.below bW)
  have HW := Lib.hid hW
  have HQ := Lib.hid hqp
  clear hPO bW hW hqp
  go_wp2_with fail
  rw [← HW.out, ← HQ.out]
  clear HW HQ
  go_loopw [4, 5, 6] (fun p s i wr => ∃ (k : Nat) (K : Lay) (x : RS) (bp cp n m : Nat), k ≤ len0 ∧ p = .slice (some ⟨bp, 0, none⟩) (n + 1) cp ∧ s = .int .i64 m ∧ i = .int .i64 k ∧ Hid (SX wr M M k K x) ∧ Hid (PO M bp cp K.B n (prs x) wr) ∧ Hid (x.sems.length = m) ∧ Hid (Below M w wr)) (fun _ _ i _ => len0 - (intOf i).toNat)
  case atStart => exact ⟨0, L1, newR, qp, 1, 0, 0, Nat.zero_le _, rfl, rfl, rfl, HX.out, HPO.out, rfl, HB.out⟩
  case round =>
    clear HX HPO HB
    obtain ⟨k, K, x, bp, cp, n, m, hk, rfl, rfl, rfl, HX, HPO, HMS, HB⟩ := hrel
    by_cases hlt : k < len0
    · obtain ⟨b, off, rfl, hb, hcell⟩ := HDC.out k (by have := ED.out; omega)
      have HCL := Lib.hid hcell
      generalize (doAt ds k).kind = kd at *
      generalize (doAt ds k).num = nm at *
      obtain ⟨c0, c1⟩ := HCL.out wr HB.out
      clear hcell
      have hn100 : n ≤ 100 := by have h1 := HX.out.inv.n; have h2 := HPO.out.1; rw [prs_len] at h2; omega
      have hm100 : m ≤ 100 := by have h1 := HX.out.inv.m; have h2 := HMS.out; omega
      go_wp2_with fail
      refine (x_done HX.out (by omega) kd nm).mono ?_
      rintro e wt ⟨K4, rfl, hx, hm⟩
      have HPO := Lib.hid (HPO.out.mov hm)
      have HB := Lib.hid (bMov HB.out HX.out (Nat.le_refl _) hm)
      have HX := Lib.hid hx
      clear hx hm c0 c1
      obtain ⟨c0, c1⟩ := HCL.out wt HB.out
      have HP1 := Lib.hid (st_prs x kd nm)
      have HS1 := Lib.hid (st_sems x kd nm)
      have HPL := Lib.hid (show x.P.length = n by have h2 := HPO.out.1; rwa [prs_len] at h2)
      obtain ⟨E, hE0⟩ : ∃ E, E = stE x kd nm := ⟨_, rfl⟩
      obtain ⟨V, hV0⟩ : ∃ V, V = stV x kd nm := ⟨_, rfl⟩
      rw [← hE0, ← hV0]
      have HE := Lib.hid hE0
      have HV := Lib.hid hV0
      clear hE0 hV0
      by_cases h1 : kd = 1
      · subst h1
        by_cases hE : stE x 1 nm = 0
        · as_aux_lemma =>
            obtain rfl : E = 0 := by rw [HE.out]; exact hE
            obtain ⟨n1, hn1⟩ : ∃ n1, n1 = n + 1 := ⟨_, rfl⟩
            have hVV : V = (n : Int) + 1 := by rw [HV.out, st_one x nm hE, HPL.out]
            have HV2 := Lib.hid hVV
            have hpr : prs (stR x 1 nm) = prs x ++ [nm] := by rw [HP1.out]; exact if_pos ⟨rfl, hE⟩
            have hsm : (stR x 1 nm).sems.length = m := by rw [HS1.out, if_neg (fun h => absurd h.1 (by decide)), HMS.out]
            have HPR := Lib.hid hpr
            have HMS := Lib.hid hsm
            have HN1 := Lib.hid hn1
            clear hE hpr hsm HP1 HS1 HE HV hn1 hVV
            generalize stR x 1 nm = x' at *
            have h1c : ∀ u ∈ [(.int .i64 nm : Value)], u.oneCell' = true := by intro u hu; simp at hu; subst hu; rfl
            go_wp2_with (at_builtin; refine wpList_appF rfl _ _ 35 rfl M 3 (.int .i64 0) 8 Try.underlying35 inf_int rfl _ (n + 1) _ rfl (HPO.out.2.1.alloc _) _ 1 1 [.int .i64 nm] rfl rfl (Reads.madeAt rfl) h1c (by unfold maxLen; omega) (by omega) (by have := HX.out.bs; simp; omega) ?_)
            intro v' wu own gr fr
            obtain ⟨bp1, cp1, rfl⟩ := own_some own (by omega)
            have U : Upd [bp] wt wu := ⟨gr.os, gr.tape, gr.output, Nat.le_trans (by simp) gr.size, fun k hk hn => (gr.block k (by simp; omega) (fun e => hn (by simp [Value.ownBlock] at e; simp [e]))).trans (heap_alloc_old wt _ hk)⟩
            have hPO : PO M bp1 cp1 K4.B n1 (prs x') wu := ⟨by rw [HPR.out, HN1.out]; simp; exact HPO.out.1, by rw [HPR.out, HN1.out, ← List.cons_append, List.map_append]; exact own, fun hm => by
              rcases fr bp1 rfl with h | h
              · have h2 : bp = bp1 := Option.some.inj h
                subst h2
                exact HPO.out.2.2 hm
              · have h1 := HX.out.lt _ hm
                have h2 : wt.heap.size ≤ bp1 := Nat.le_trans (by simp) h
                omega⟩
            have HB := Lib.hid (HB.out.trans (U.below HX.out.bs (by simp; exact HPO.out.lt.1)))
            have HX := Lib.hid (HX.out.keep U (by simp; exact HPO.out.2.2))
            have HPO := Lib.hid hPO
            clear own gr fr U hPO c0 c1 h1c
            obtain ⟨c0, c1⟩ := HCL.out wu HB.out
            obtain rfl : V = (n1 : Int) := by rw [HV2.out, HN1.out]; rfl
            have HNN1 := HN1.out
            rw [show n + 1 + 1 = n1 + 1 by rw [HN1.out]]
            have i0 : RowKit.wrap64 (n1 : Int) = n1 := by have h1 := HN1.out; unfold RowKit.wrap64; omega
            clear HNN1 HV2 HN1 HPR
            obtain ⟨wt2, hwt⟩ : ∃ z, z = wu := ⟨_, rfl⟩
            subst hwt
            obtain ⟨m1, hm1⟩ : ∃ m1, m1 = m := ⟨_, rfl⟩
            subst hm1
            have hA1 : actR x' ≤ n1 := by have h1 := act_le x'; have h2 := HPO.out.1; rw [prs_len] at h2; omega
            have hn101 : n1 ≤ 100 := by have h1 := HX.out.inv.n; have h2 := HPO.out.1; rw [prs_len] at h2; omega
            have hm101 : m1 ≤ 100 := by have h1 := HX.out.inv.m; have h2 := HMS.out; omega
            have HNL := Lib.hid (show x'.P.length = n1 by have h2 := HPO.out.1; rwa [prs_len] at h2)
            obtain ⟨A, hA⟩ : ∃ A, actR x' = A := ⟨_, rfl⟩
            rw [hA] at hA1
            have HA := Lib.hid hA
            clear hA
            go_wp2_with (at_make; refine wpList_mk rfl _ _ 35 rfl 3 (.int .i64 0) 8 Try.underlying35 inf_int rfl .i64 .i64 _ _ (n1 + 1) rfl rfl ?c1 ?c2 (by omega) (by unfold maxLen; omega) ?_)
            case c1 => omega
            case c2 => omega
            intro wm row upd
            obtain ⟨g, hg⟩ : ∃ g, g = wt2.heap.size := ⟨_, rfl⟩
            rw [← hg] at row ⊢
            have HG := Lib.hid hg
            clear hg c0 c1
            have HBU := Lib.hid (show Below wt2.heap.size wt2 wm from upd.below (Nat.le_refl _) (fun k hk => absurd hk List.not_mem_nil))
            have hOX : OX w M (k + 1) bp1 cp1 n1 g K4 x' (List.replicate (n1 + 1) 0) wm := ⟨HX.out.below HBU.out, HPO.out.below HBU.out, by rw [List.map_replicate]; exact row, fun hm => by have h1 := HX.out.lt _ hm; have h2 := HG.out; omega,
              by have h1 := HPO.out.lt; have h2 := HG.out; omega, by have h1 := HX.out.bs; have h2 := HG.out; omega, bBel HB.out HX.out (Nat.le_refl _) HBU.out⟩
            have HOX := Lib.hid hOX
            clear hOX row upd HBU HX HPO HB HG
            go_wp2_with fail
            have hAC := x_Active HOX.out.sx
            rw [HA.out] at hAC
            refine hAC.mono ?_
            clear hAC
            rintro e w' ⟨rfl, rfl⟩
            go_wp2_with fail
            have hAC := x_Active HOX.out.sx
            rw [HA.out] at hAC
            refine hAC.mono ?_
            clear hAC
            rintro e w' ⟨rfl, rfl⟩
            go_wp2_with fail
            have hAC := x_Active HOX.out.sx
            rw [HA.out] at hAC
            refine hAC.mono ?_
            clear hAC
            rintro e w' ⟨rfl, rfl⟩
            have s0 := HOX.out.seen (I := A) (by simp; omega)
            rw [(SeenAt.start n1).zero hA1 id] at s0
            have f0 := HOX.out.row.free A
            go_wp2_with fail
            have HSN : Hid (SeenAt n1 ((List.replicate (n1 + 1) 0).set A 1) (D2 x' 1 [])) := (SeenAt.start n1).inc hA1 (fun i h => h.elim) (.inl HA.out.symm)
            have HOX := Lib.hid (HOX.out.set A 1)
            clear s0 f0
            obtain ⟨ls, hls⟩ : ∃ ls, ls = (List.replicate (n1 + 1) (0 : Int)).set A 1 := ⟨_, rfl⟩
            rw [← hls] at HSN HOX
            obtain ⟨we, hwe⟩ : ∃ we, we = wm.setCell ⟨g, A, none⟩ (.int .i64 1) := ⟨_, rfl⟩
            rw [← hwe] at HOX ⊢
            clear hls hwe
            go_loopw [10] (fun p wr => ∃ (q : Nat) (ls : List Int), 1 ≤ q ∧ q ≤ 9 ∧ p = .int .i64 q ∧ Hid (OX w M (k + 1) bp1 cp1 n1 g K4 x' ls wr) ∧ Hid (SeenAt n1 ls (D2 x' q []))) (fun p _ => 9 - (intOf p).toNat)
            case atStart => exact ⟨1, ls, Nat.le_refl _, by omega, rfl, HOX.out, HSN.out⟩
            case round =>
              clear HOX HSN
              obtain ⟨q, ls, hq1, hq9, rfl, HOX, HSN⟩ := hrel
              by_cases hq : q ≤ 8
              · go_wp2_with fail
                refine (x_Ready HOX.out.sx (by omega) q (by omega) hq).mono ?_
                rintro e w6 ⟨v, rfl, own, b6⟩
                obtain ⟨ar, cr, rfl, hr, hcr, har⟩ := owns_reads own
                have HRB : Hid (∀ y, ar = some y → y.block ∉ [g]) := fun y hy hm => by
                  have h1 := (har y hy).1
                  have h2 := HOX.out.row.lt
                  simp at hm
                  omega
                have HRD := Lib.hid hr
                have HOX := Lib.hid (HOX.out.below b6)
                have HNN := Lib.hid (atL_len x' 2 q)
                obtain ⟨N, hN⟩ : ∃ N, N = (atL x' 2 q).length := ⟨_, rfl⟩
                rw [← hN] at hcr ⊢
                have HN := Lib.hid hN
                have hN100 : N ≤ 100 := by have h1 := HNN.out; have h2 := HNL.out; omega
                clear hN own b6 hr har
                go_wp2_with fail
                go_loopw [12] (fun i wr => ∃ (j : Nat) (ls : List Int), j ≤ N ∧ i = .int .i64 j ∧ Hid (OX w M (k + 1) bp1 cp1 n1 g K4 x' ls wr) ∧ Hid (SeenAt n1 ls (D2 x' q ((atL x' 2 q).take j))) ∧ Hid (Reads wr ar cr ((atL x' 2 q).map (Value.int .i64)))) (fun i _ => N - (intOf i).toNat)
                case atStart => exact ⟨0, ls, Nat.zero_le _, rfl, HOX.out, HSN.out, HRD.out⟩
                case round =>
                  clear HOX HSN HRD
                  obtain ⟨j, ls, hj, rfl, HOX, HSN, HRD⟩ := hrel
                  by_cases hjlt : j < N
                  · obtain ⟨I, A2, hI1, hI2, hA2, -, e1, e2, e3, e4, nd, dd⟩ := ready_nat HOX.out.sx.inv hq1 (by rw [← HN.out]; exact hjlt)
                    have hAA : A2 = A := e3.symm.trans HA.out
                    subst hAA
                    have HND := Lib.hid nd
                    have HDD := Lib.hid dd
                    obtain ⟨br, o, rfl, hbr, hcl⟩ := HRD.out.at (by simp; have := HN.out; omega)
                    have r0 := hcl j _ (getD_map8 (by rw [← HN.out]; exact hjlt))
                    rw [e1] at r0
                    have hIn : I ≤ n1 := by have := HNL.out; omega
                    have p0 := HOX.out.po.cell hIn
                    rw [e2] at p0
                    have p1 := HOX.out.po.cell hA1
                    obtain ⟨Q, hQ⟩ : ∃ Q, Q = (0 :: prs x').getD A2 0 := ⟨_, rfl⟩
                    rw [← hQ] at p1 e4
                    have HLL := Lib.hid HSN.out.1
                    have s0 := HOX.out.seen (I := I) (by rw [HLL.out]; omega)
                    rw [HSN.out.zero hIn HND.out] at s0
                    have f0 := HOX.out.row.free I
                    have i1 : ¬ ((I : Int) < 1) := by omega
                    have i2 : ¬ ((n1 : Int) + 1 ≤ (I : Int)) := by omega
                    have i3 : ¬ ((A2 : Int) = 0) := by omega
                    have i4 : ¬ (Q < (q : Int)) := by omega
                    have i5 : ((A2 : Int) == 0) = false := by simp; omega
                    have i6 : ¬ A2 = 0 := by omega
                    clear nd dd e1 e2 e3 hQ hcl
                    go_wp2_with fail
                    have hAC := x_Active HOX.out.sx
                    rw [HA.out] at hAC
                    refine hAC.mono ?_
                    clear hAC
                    rintro e w' ⟨rfl, rfl⟩
                    go_wp2_with fail
                    have hAC := x_Active HOX.out.sx
                    rw [HA.out] at hAC
                    refine hAC.mono ?_
                    clear hAC
                    rintro e w' ⟨rfl, rfl⟩
                    go_wp2_with fail
                    have HSN := Lib.hid (HSN.out.inc hIn (fun i h => D2_take h) HDD.out)
                    have u := HOX.out.upd I (.int .i64 1)
                    have HRD := Lib.hid (u.reads HRD.out HRB.out)
                    have HOX := Lib.hid (HOX.out.set I 1)
                    clear r0 p0 p1 s0 f0 u i1 i2 i3 i4 i5 i6 e4 HND HDD HLL
                    go_roundw
                    case rel => exact ⟨j + 1, ls.set I 1, by omega, by go_num, HOX.out, HSN.out, HRD.out⟩
                    case measure => simp [intOf]; omega
                  · go_wp2_with fail
                    go_roundw
                    case rel => exact ⟨q + 1, ls, by omega, by omega, by go_num, HOX.out, HSN.out.mono (fun i h => h.next)⟩
                    case measure => simp [intOf]; omega
              · have HSN := Lib.hid (HSN.out.mono (fun i h => h.wait))
                go_wp2_with fail
                go_loopw [13] (fun p wr => ∃ (q : Nat) (ls : List Int), q ≤ m1 ∧ p = .int .i64 ((q : Int) + 1) ∧ Hid (OX w M (k + 1) bp1 cp1 n1 g K4 x' ls wr) ∧ Hid (SeenAt n1 ls (D3 x' q []))) (fun p _ => m1 + 1 - (intOf p).toNat)
                case atStart => exact ⟨0, ls, Nat.zero_le _, rfl, HOX.out, HSN.out⟩
                case round =>
                  clear HOX HSN hq
                  obtain ⟨q, ls, hqm, rfl, HOX, HSN⟩ := hrel
                  by_cases hq : q < m1
                  · go_wp2_with fail
                    refine (x_Waiting HOX.out.sx (by omega) q (by have := HMS.out; omega)).mono ?_
                    rintro e w6 ⟨v, rfl, own, b6⟩
                    obtain ⟨ar, cr, rfl, hr, hcr, har⟩ := owns_reads own
                    have HRB : Hid (∀ y, ar = some y → y.block ∉ [g]) := fun y hy hm => by
                      have h1 := (har y hy).1
                      have h2 := HOX.out.row.lt
                      simp at hm
                      omega
                    have HRD := Lib.hid hr
                    have HOX := Lib.hid (HOX.out.below b6)
                    have HNN := Lib.hid (atL_len x' (3 + q) 0)
                    obtain ⟨N, hN⟩ : ∃ N, N = (atL x' (3 + q) 0).length := ⟨_, rfl⟩
                    obtain ⟨c, hc⟩ : ∃ c, c = x'.sems.getD q 0 := ⟨_, rfl⟩
                    rw [← hN] at hcr ⊢
                    rw [← hc]
                    have HN := Lib.hid hN
                    have HC := Lib.hid hc
                    have hN100 : N ≤ 100 := by have h1 := HNN.out; have h2 := HNL.out; omega
                    clear hN hc own b6 hr har
                    go_wp2_with fail
                    go_loopw [16] (fun i wr => ∃ (j : Nat) (ls : List Int), j ≤ N ∧ i = .int .i64 j ∧ Hid (OX w M (k + 1) bp1 cp1 n1 g K4 x' ls wr) ∧ Hid (SeenAt n1 ls (D3 x' q ((atL x' (3 + q) 0).take j))) ∧ Hid (Reads wr ar cr ((atL x' (3 + q) 0).map (Value.int .i64)))) (fun i _ => N - (intOf i).toNat)
                    case atStart => exact ⟨0, ls, Nat.zero_le _, rfl, HOX.out, HSN.out, HRD.out⟩
                    case round =>
                      clear HOX HSN HRD
                      obtain ⟨j, ls, hj, rfl, HOX, HSN, HRD⟩ := hrel
                      by_cases hjlt : j < N
                      · obtain ⟨I, hI1, hI2, e1, e2, nd, dd⟩ := wait_nat HOX.out.sx.inv (k := q) (by rw [← HN.out]; exact hjlt)
                        have HND := Lib.hid nd
                        have HDD := Lib.hid dd
                        obtain ⟨br, o, rfl, hbr, hcl⟩ := HRD.out.at (by simp; have := HN.out; omega)
                        have r0 := hcl j _ (getD_map8 (by rw [← HN.out]; exact hjlt))
                        rw [e1] at r0
                        have hIn : I ≤ n1 := by have := HNL.out; omega
                        have HLL := Lib.hid HSN.out.1
                        have s0 := HOX.out.seen (I := I) (by rw [HLL.out]; omega)
                        rw [HSN.out.zero hIn HND.out] at s0
                        have f0 := HOX.out.row.free I
                        have i1 : ¬ ((I : Int) < 1) := by omega
                        have i2 : ¬ ((n1 : Int) + 1 ≤ (I : Int)) := by omega
                        have i3 : ¬ (0 < (c : Int)) := by have := HC.out; omega
                        clear nd dd e1 e2 hcl
                        go_wp2_with fail
                        have HSN := Lib.hid (HSN.out.inc hIn (fun i h => D3_take h) HDD.out)
                        have u := HOX.out.upd I (.int .i64 1)
                        have HRD := Lib.hid (u.reads HRD.out HRB.out)
                        have HOX := Lib.hid (HOX.out.set I 1)
                        clear r0 s0 f0 u i1 i2 i3 HND HDD HLL
                        go_roundw
                        case rel => exact ⟨j + 1, ls.set I 1, by omega, by go_num, HOX.out, HSN.out, HRD.out⟩
                        case measure => simp [intOf]; omega
                      · go_wp2_with fail
                        go_roundw
                        case rel => exact ⟨q + 1, ls, by omega, by go_num, HOX.out, HSN.out.mono (fun i h => h.next)⟩
                        case measure => simp [intOf]; omega
                  · go_wp2_with fail
                    go_loopw [17] (fun p wr => ∃ (q : Nat), 1 ≤ q ∧ q ≤ n1 + 1 ∧ p = .int .i64 q ∧ Hid (OX w M (k + 1) bp1 cp1 n1 g K4 x' ls wr)) (fun p _ => n1 + 1 - (intOf p).toNat)
                    case atStart => exact ⟨1, Nat.le_refl _, by omega, rfl, HOX.out⟩
                    case round =>
                      clear HOX hq hqm
                      obtain ⟨u, hu1, hu2, rfl, HOX⟩ := hrel
                      by_cases hu : u < n1 + 1
                      · have hun : u ≤ n1 := by omega
                        have HLL := Lib.hid HSN.out.1
                        have s0 := HOX.out.seen (I := u) (by rw [HLL.out]; omega)
                        have h1 := (HSN.out.le hun).1
                        generalize ls.getD u 0 = S at s0 h1
                        have i1 : ¬ (1 < S) := by omega
                        go_wp2_with fail
                        go_roundw
                        case rel => exact ⟨u + 1, by omega, by omega, by go_num, HOX.out⟩
                        case measure => simp [intOf]; omega
                      · go_wp2_with fail
                        go_roundw
                        case rel => exact ⟨k + 1, K4, x', bp1, cp1, n1, m1, by omega, rfl, rfl, by go_num, HOX.out.sx, HOX.out.po, HMS.out, HOX.out.bel⟩
                        case measure => simp [intOf]; omega
        · have hEn : ¬ E = 0 := by rw [HE.out]; exact hE
          as_aux_lemma =>
            have hpr : prs (stR x 1 nm) = prs x := by rw [HP1.out]; exact if_neg (fun h => hE h.2)
            have hsm : (stR x 1 nm).sems.length = m := by rw [HS1.out, if_neg (fun h => absurd h.1 (by decide)), HMS.out]
            rw [← hpr] at HPO
            have HMS := Lib.hid hsm
            clear hpr hsm HP1 HS1 HPL HE HV
            generalize stR x 1 nm = x' at *
            obtain ⟨n1, hn1⟩ : ∃ n1, n1 = n := ⟨_, rfl⟩
            subst hn1
            obtain ⟨m1, hm1⟩ : ∃ m1, m1 = m := ⟨_, rfl⟩
            subst hm1
            obtain ⟨bp1, hbp⟩ : ∃ b, b = bp := ⟨_, rfl⟩
            subst hbp
            obtain ⟨cp1, hcp⟩ : ∃ b, b = cp := ⟨_, rfl⟩
            subst hcp
            have hA1 : actR x' ≤ n1 := by have h1 := act_le x'; have h2 := HPO.out.1; rw [prs_len] at h2; omega
            have hn101 : n1 ≤ 100 := by have h1 := HX.out.inv.n; have h2 := HPO.out.1; rw [prs_len] at h2; omega
            have hm101 : m1 ≤ 100 := by have h1 := HX.out.inv.m; have h2 := HMS.out; omega
            have HNL := Lib.hid (show x'.P.length = n1 by have h2 := HPO.out.1; rwa [prs_len] at h2)
            obtain ⟨A, hA⟩ : ∃ A, actR x' = A := ⟨_, rfl⟩
            rw [hA] at hA1
            have HA := Lib.hid hA
            clear hA
            go_wp2_with (at_make; refine wpList_mk rfl _ _ 35 rfl 3 (.int .i64 0) 8 Try.underlying35 inf_int rfl .i64 .i64 _ _ (n1 + 1) rfl rfl ?c1 ?c2 (by omega) (by unfold maxLen; omega) ?_)
            case c1 => omega
            case c2 => omega
            intro wm row upd
            obtain ⟨g, hg⟩ : ∃ g, g = wt.heap.size := ⟨_, rfl⟩
            rw [← hg] at row ⊢
            have HG := Lib.hid hg
            clear hg c0 c1
            have HBU := Lib.hid (show Below wt.heap.size wt wm from upd.below (Nat.le_refl _) (fun k hk => absurd hk List.not_mem_nil))
            have hOX : OX w M (k + 1) bp1 cp1 n1 g K4 x' (List.replicate (n1 + 1) 0) wm := ⟨HX.out.below HBU.out, HPO.out.below HBU.out, by rw [List.map_replicate]; exact row, fun hm => by have h1 := HX.out.lt _ hm; have h2 := HG.out; omega,
              by have h1 := HPO.out.lt; have h2 := HG.out; omega, by have h1 := HX.out.bs; have h2 := HG.out; omega, bBel HB.out HX.out (Nat.le_refl _) HBU.out⟩
            have HOX := Lib.hid hOX
            clear hOX row upd HBU HX HPO HB HG
            go_wp2_with fail
            have hAC := x_Active HOX.out.sx
            rw [HA.out] at hAC
            refine hAC.mono ?_
            clear hAC
            rintro e w' ⟨rfl, rfl⟩
            go_wp2_with fail
            have hAC := x_Active HOX.out.sx
            rw [HA.out] at hAC
            refine hAC.mono ?_
            clear hAC
            rintro e w' ⟨rfl, rfl⟩
            go_wp2_with fail
            have hAC := x_Active HOX.out.sx
            rw [HA.out] at hAC
            refine hAC.mono ?_
            clear hAC
            rintro e w' ⟨rfl, rfl⟩
            have s0 := HOX.out.seen (I := A) (by simp; omega)
            rw [(SeenAt.start n1).zero hA1 id] at s0
            have f0 := HOX.out.row.free A
            go_wp2_with fail
            have HSN : Hid (SeenAt n1 ((List.replicate (n1 + 1) 0).set A 1) (D2 x' 1 [])) := (SeenAt.start n1).inc hA1 (fun i h => h.elim) (.inl HA.out.symm)
            have HOX := Lib.hid (HOX.out.set A 1)
            clear s0 f0
            obtain ⟨ls, hls⟩ : ∃ ls, ls = (List.replicate (n1 + 1) (0 : Int)).set A 1 := ⟨_, rfl⟩
            rw [← hls] at HSN HOX
            obtain ⟨we, hwe⟩ : ∃ we, we = wm.setCell ⟨g, A, none⟩ (.int .i64 1) := ⟨_, rfl⟩
            rw [← hwe] at HOX ⊢
            clear hls hwe
            go_loopw [10] (fun p wr => ∃ (q : Nat) (ls : List Int), 1 ≤ q ∧ q ≤ 9 ∧ p = .int .i64 q ∧ Hid (OX w M (k + 1) bp1 cp1 n1 g K4 x' ls wr) ∧ Hid (SeenAt n1 ls (D2 x' q []))) (fun p _ => 9 - (intOf p).toNat)
            case atStart => exact ⟨1, ls, Nat.le_refl _, by omega, rfl, HOX.out, HSN.out⟩
            case round =>
              clear HOX HSN
              obtain ⟨q, ls, hq1, hq9, rfl, HOX, HSN⟩ := hrel
              by_cases hq : q ≤ 8
              · go_wp2_with fail
                refine (x_Ready HOX.out.sx (by omega) q (by omega) hq).mono ?_
                rintro e w6 ⟨v, rfl, own, b6⟩
                obtain ⟨ar, cr, rfl, hr, hcr, har⟩ := owns_reads own
                have HRB : Hid (∀ y, ar = some y → y.block ∉ [g]) := fun y hy hm => by
                  have h1 := (har y hy).1
                  have h2 := HOX.out.row.lt
                  simp at hm
                  omega
                have HRD := Lib.hid hr
                have HOX := Lib.hid (HOX.out.below b6)
                have HNN := Lib.hid (atL_len x' 2 q)
                obtain ⟨N, hN⟩ : ∃ N, N = (atL x' 2 q).length := ⟨_, rfl⟩
                rw [← hN] at hcr ⊢
                have HN := Lib.hid hN
                have hN100 : N ≤ 100 := by have h1 := HNN.out; have h2 := HNL.out; omega
                clear hN own b6 hr har
                go_wp2_with fail
                go_loopw [12] (fun i wr => ∃ (j : Nat) (ls : List Int), j ≤ N ∧ i = .int .i64 j ∧ Hid (OX w M (k + 1) bp1 cp1 n1 g K4 x' ls wr) ∧ Hid (SeenAt n1 ls (D2 x' q ((atL x' 2 q).take j))) ∧ Hid (Reads wr ar cr ((atL x' 2 q).map (Value.int .i64)))) (fun i _ => N - (intOf i).toNat)
                case atStart => exact ⟨0, ls, Nat.zero_le _, rfl, HOX.out, HSN.out, HRD.out⟩
                case round =>
                  clear HOX HSN HRD
                  obtain ⟨j, ls, hj, rfl, HOX, HSN, HRD⟩ := hrel
                  by_cases hjlt : j < N
                  · obtain ⟨I, A2, hI1, hI2, hA2, -, e1, e2, e3, e4, nd, dd⟩ := ready_nat HOX.out.sx.inv hq1 (by rw [← HN.out]; exact hjlt)
                    have hAA : A2 = A := e3.symm.trans HA.out
                    subst hAA
                    have HND := Lib.hid nd
                    have HDD := Lib.hid dd
                    obtain ⟨br, o, rfl, hbr, hcl⟩ := HRD.out.at (by simp; have := HN.out; omega)
                    have r0 := hcl j _ (getD_map8 (by rw [← HN.out]; exact hjlt))
                    rw [e1] at r0
                    have hIn : I ≤ n1 := by have := HNL.out; omega
                    have p0 := HOX.out.po.cell hIn
                    rw [e2] at p0
                    have p1 := HOX.out.po.cell hA1
                    obtain ⟨Q, hQ⟩ : ∃ Q, Q = (0 :: prs x').getD A2 0 := ⟨_, rfl⟩
                    rw [← hQ] at p1 e4
                    have HLL := Lib.hid HSN.out.1
                    have s0 := HOX.out.seen (I := I) (by rw [HLL.out]; omega)
                    rw [HSN.out.zero hIn HND.out] at s0
                    have f0 := HOX.out.row.free I
                    have i1 : ¬ ((I : Int) < 1) := by omega
                    have i2 : ¬ ((n1 : Int) + 1 ≤ (I : Int)) := by omega
                    have i3 : ¬ ((A2 : Int) = 0) := by omega
                    have i4 : ¬ (Q < (q : Int)) := by omega
                    have i5 : ((A2 : Int) == 0) = false := by simp; omega
                    have i6 : ¬ A2 = 0 := by omega
                    clear nd dd e1 e2 e3 hQ hcl
                    go_wp2_with fail
                    have hAC := x_Active HOX.out.sx
                    rw [HA.out] at hAC
                    refine hAC.mono ?_
                    clear hAC
                    rintro e w' ⟨rfl, rfl⟩
                    go_wp2_with fail
                    have hAC := x_Active HOX.out.sx
                    rw [HA.out] at hAC
                    refine hAC.mono ?_
                    clear hAC
                    rintro e w' ⟨rfl, rfl⟩
                    go_wp2_with fail
                    have HSN := Lib.hid (HSN.out.inc hIn (fun i h => D2_take h) HDD.out)
                    have u := HOX.out.upd I (.int .i64 1)
                    have HRD := Lib.hid (u.reads HRD.out HRB.out)
                    have HOX := Lib.hid (HOX.out.set I 1)
                    clear r0 p0 p1 s0 f0 u i1 i2 i3 i4 i5 i6 e4 HND HDD HLL
                    go_roundw
                    case rel => exact ⟨j + 1, ls.set I 1, by omega, by go_num, HOX.out, HSN.out, HRD.out⟩
                    case measure => simp [intOf]; omega
                  · go_wp2_with fail
                    go_roundw
                    case rel => exact ⟨q + 1, ls, by omega, by omega, by go_num, HOX.out, HSN.out.mono (fun i h => h.next)⟩
                    case measure => simp [intOf]; omega
              · have HSN := Lib.hid (HSN.out.mono (fun i h => h.wait))
                go_wp2_with fail
                go_loopw [13] (fun p wr => ∃ (q : Nat) (ls : List Int), q ≤ m1 ∧ p = .int .i64 ((q : Int) + 1) ∧ Hid (OX w M (k + 1) bp1 cp1 n1 g K4 x' ls wr) ∧ Hid (SeenAt n1 ls (D3 x' q []))) (fun p _ => m1 + 1 - (intOf p).toNat)
                case atStart => exact ⟨0, ls, Nat.zero_le _, rfl, HOX.out, HSN.out⟩
                case round =>
                  clear HOX HSN hq
                  obtain ⟨q, ls, hqm, rfl, HOX, HSN⟩ := hrel
                  by_cases hq : q < m1
                  · go_wp2_with fail
                    refine (x_Waiting HOX.out.sx (by omega) q (by have := HMS.out; omega)).mono ?_
                    rintro e w6 ⟨v, rfl, own, b6⟩
                    obtain ⟨ar, cr, rfl, hr, hcr, har⟩ := owns_reads own
                    have HRB : Hid (∀ y, ar = some y → y.block ∉ [g]) := fun y hy hm => by
                      have h1 := (har y hy).1
                      have h2 := HOX.out.row.lt
                      simp at hm
                      omega
                    have HRD := Lib.hid hr
                    have HOX := Lib.hid (HOX.out.below b6)
                    have HNN := Lib.hid (atL_len x' (3 + q) 0)
                    obtain ⟨N, hN⟩ : ∃ N, N = (atL x' (3 + q) 0).length := ⟨_, rfl⟩
                    obtain ⟨c, hc⟩ : ∃ c, c = x'.sems.getD q 0 := ⟨_, rfl⟩
                    rw [← hN] at hcr ⊢
                    rw [← hc]
                    have HN := Lib.hid hN
                    have HC := Lib.hid hc
                    have hN100 : N ≤ 100 := by have h1 := HNN.out; have h2 := HNL.out; omega
                    clear hN hc own b6 hr har
                    go_wp2_with fail
                    go_loopw [16] (fun i wr => ∃ (j : Nat) (ls : List Int), j ≤ N ∧ i = .int .i64 j ∧ Hid (OX w M (k + 1) bp1 cp1 n1 g K4 x' ls wr) ∧ Hid (SeenAt n1 ls (D3 x' q ((atL x' (3 + q) 0).take j))) ∧ Hid (Reads wr ar cr ((atL x' (3 + q) 0).map (Value.int .i64)))) (fun i _ => N - (intOf i).toNat)
                    case atStart => exact ⟨0, ls, Nat.zero_le _, rfl, HOX.out, HSN.out, HRD.out⟩
                    case round =>
                      clear HOX HSN HRD
                      obtain ⟨j, ls, hj, rfl, HOX, HSN, HRD⟩ := hrel
                      by_cases hjlt : j < N
                      · obtain ⟨I, hI1, hI2, e1, e2, nd, dd⟩ := wait_nat HOX.out.sx.inv (k := q) (by rw [← HN.out]; exact hjlt)
                        have HND := Lib.hid nd
                        have HDD := Lib.hid dd
                        obtain ⟨br, o, rfl, hbr, hcl⟩ := HRD.out.at (by simp; have := HN.out; omega)
                        have r0 := hcl j _ (getD_map8 (by rw [← HN.out]; exact hjlt))
                        rw [e1] at r0
                        have hIn : I ≤ n1 := by have := HNL.out; omega
                        have HLL := Lib.hid HSN.out.1
                        have s0 := HOX.out.seen (I := I) (by rw [HLL.out]; omega)
                        rw [HSN.out.zero hIn HND.out] at s0
                        have f0 := HOX.out.row.free I
                        have i1 : ¬ ((I : Int) < 1) := by omega
                        have i2 : ¬ ((n1 : Int) + 1 ≤ (I : Int)) := by omega
                        have i3 : ¬ (0 < (c : Int)) := by have := HC.out; omega
                        clear nd dd e1 e2 hcl
                        go_wp2_with fail
                        have HSN := Lib.hid (HSN.out.inc hIn (fun i h => D3_take h) HDD.out)
                        have u := HOX.out.upd I (.int .i64 1)
                        have HRD := Lib.hid (u.reads HRD.out HRB.out)
                        have HOX := Lib.hid (HOX.out.set I 1)
                        clear r0 s0 f0 u i1 i2 i3 HND HDD HLL
                        go_roundw
                        case rel => exact ⟨j + 1, ls.set I 1, by omega, by go_num, HOX.out, HSN.out, HRD.out⟩
                        case measure => simp [intOf]; omega
                      · go_wp2_with fail
                        go_roundw
                        case rel => exact ⟨q + 1, ls, by omega, by go_num, HOX.out, HSN.out.mono (fun i h => h.next)⟩
                        case measure => simp [intOf]; omega
                  · go_wp2_with fail
                    go_loopw [17] (fun p wr => ∃ (q : Nat), 1 ≤ q ∧ q ≤ n1 + 1 ∧ p = .int .i64 q ∧ Hid (OX w M (k + 1) bp1 cp1 n1 g K4 x' ls wr)) (fun p _ => n1 + 1 - (intOf p).toNat)
                    case atStart => exact ⟨1, Nat.le_refl _, by omega, rfl, HOX.out⟩
                    case round =>
                      clear HOX hq hqm
                      obtain ⟨u, hu1, hu2, rfl, HOX⟩ := hrel
                      by_cases hu : u < n1 + 1
                      · have hun : u ≤ n1 := by omega
                        have HLL := Lib.hid HSN.out.1
                        have s0 := HOX.out.seen (I := u) (by rw [HLL.out]; omega)
                        have h1 := (HSN.out.le hun).1
                        generalize ls.getD u 0 = S at s0 h1
                        have i1 : ¬ (1 < S) := by omega
                        go_wp2_with fail
                        go_roundw
                        case rel => exact ⟨u + 1, by omega, by omega, by go_num, HOX.out⟩
                        case measure => simp [intOf]; omega
                      · go_wp2_with fail
                        go_roundw
                        case rel => exact ⟨k + 1, K4, x', bp1, cp1, n1, m1, by omega, rfl, rfl, by go_num, HOX.out.sx, HOX.out.po, HMS.out, HOX.out.bel⟩
                        case measure => simp [intOf]; omega
      · by_cases h5 : kd = 5
        · subst h5
          by_cases hE : stE x 5 nm = 0
          · as_aux_lemma =>
              obtain rfl : E = 0 := by rw [HE.out]; exact hE
              obtain ⟨m1, hm1⟩ : ∃ m1, m1 = m + 1 := ⟨_, rfl⟩
              have hpr : prs (stR x 5 nm) = prs x := by rw [HP1.out]; exact if_neg (fun h => absurd h.1 (by decide))
              have hsm : (stR x 5 nm).sems.length = m1 := by rw [HS1.out, if_pos ⟨rfl, hE⟩, HMS.out, hm1]
              have hVV : V = (m1 : Int) := by rw [HV.out, st_five x nm hE, HMS.out, hm1]; rfl
              rw [← hpr] at HPO
              have HMS := Lib.hid hsm
              clear hpr hsm HP1 HS1 HPL HE HV hE hm1
              subst hVV
              generalize stR x 5 nm = x' at *
              obtain ⟨n1, hn1⟩ : ∃ n1, n1 = n := ⟨_, rfl⟩
              subst hn1
              obtain ⟨bp1, hbp⟩ : ∃ b, b = bp := ⟨_, rfl⟩
              subst hbp
              obtain ⟨cp1, hcp⟩ : ∃ b, b = cp := ⟨_, rfl⟩
              subst hcp
              have hA1 : actR x' ≤ n1 := by have h1 := act_le x'; have h2 := HPO.out.1; rw [prs_len] at h2; omega
              have hn101 : n1 ≤ 100 := by have h1 := HX.out.inv.n; have h2 := HPO.out.1; rw [prs_len] at h2; omega
              have hm101 : m1 ≤ 100 := by have h1 := HX.out.inv.m; have h2 := HMS.out; omega
              have HNL := Lib.hid (show x'.P.length = n1 by have h2 := HPO.out.1; rwa [prs_len] at h2)
              obtain ⟨A, hA⟩ : ∃ A, actR x' = A := ⟨_, rfl⟩
              rw [hA] at hA1
              have HA := Lib.hid hA
              clear hA
              go_wp2_with (at_make; refine wpList_mk rfl _ _ 35 rfl 3 (.int .i64 0) 8 Try.underlying35 inf_int rfl .i64 .i64 _ _ (n1 + 1) rfl rfl ?c1 ?c2 (by omega) (by unfold maxLen; omega) ?_)
              case c1 => omega
              case c2 => omega
              intro wm row upd
              obtain ⟨g, hg⟩ : ∃ g, g = wt.heap.size := ⟨_, rfl⟩
              rw [← hg] at row ⊢
              have HG := Lib.hid hg
              clear hg c0 c1
              have HBU := Lib.hid (show Below wt.heap.size wt wm from upd.below (Nat.le_refl _) (fun k hk => absurd hk List.not_mem_nil))
              have hOX : OX w M (k + 1) bp1 cp1 n1 g K4 x' (List.replicate (n1 + 1) 0) wm := ⟨HX.out.below HBU.out, HPO.out.below HBU.out, by rw [List.map_replicate]; exact row, fun hm => by have h1 := HX.out.lt _ hm; have h2 := HG.out; omega,
                by have h1 := HPO.out.lt; have h2 := HG.out; omega, by have h1 := HX.out.bs; have h2 := HG.out; omega, bBel HB.out HX.out (Nat.le_refl _) HBU.out⟩
              have HOX := Lib.hid hOX
              clear hOX row upd HBU HX HPO HB HG
              go_wp2_with fail
              have hAC := x_Active HOX.out.sx
              rw [HA.out] at hAC
              refine hAC.mono ?_
              clear hAC
              rintro e w' ⟨rfl, rfl⟩
              go_wp2_with fail
              have hAC := x_Active HOX.out.sx
              rw [HA.out] at hAC
              refine hAC.mono ?_
              clear hAC
              rintro e w' ⟨rfl, rfl⟩
              go_wp2_with fail
              have hAC := x_Active HOX.out.sx
              rw [HA.out] at hAC
              refine hAC.mono ?_
              clear hAC
              rintro e w' ⟨rfl, rfl⟩
              have s0 := HOX.out.seen (I := A) (by simp; omega)
              rw [(SeenAt.start n1).zero hA1 id] at s0
              have f0 := HOX.out.row.free A
              go_wp2_with fail
              have HSN : Hid (SeenAt n1 ((List.replicate (n1 + 1) 0).set A 1) (D2 x' 1 [])) := (SeenAt.start n1).inc hA1 (fun i h => h.elim) (.inl HA.out.symm)
              have HOX := Lib.hid (HOX.out.set A 1)
              clear s0 f0
              obtain ⟨ls, hls⟩ : ∃ ls, ls = (List.replicate (n1 + 1) (0 : Int)).set A 1 := ⟨_, rfl⟩
              rw [← hls] at HSN HOX
              obtain ⟨we, hwe⟩ : ∃ we, we = wm.setCell ⟨g, A, none⟩ (.int .i64 1) := ⟨_, rfl⟩
              rw [← hwe] at HOX ⊢
              clear hls hwe
              go_loopw [10] (fun p wr => ∃ (q : Nat) (ls : List Int), 1 ≤ q ∧ q ≤ 9 ∧ p = .int .i64 q ∧ Hid (OX w M (k + 1) bp1 cp1 n1 g K4 x' ls wr) ∧ Hid (SeenAt n1 ls (D2 x' q []))) (fun p _ => 9 - (intOf p).toNat)
              case atStart => exact ⟨1, ls, Nat.le_refl _, by omega, rfl, HOX.out, HSN.out⟩
              case round =>
                clear HOX HSN
                obtain ⟨q, ls, hq1, hq9, rfl, HOX, HSN⟩ := hrel
                by_cases hq : q ≤ 8
                · go_wp2_with fail
                  refine (x_Ready HOX.out.sx (by omega) q (by omega) hq).mono ?_
                  rintro e w6 ⟨v, rfl, own, b6⟩
                  obtain ⟨ar, cr, rfl, hr, hcr, har⟩ := owns_reads own
                  have HRB : Hid (∀ y, ar = some y → y.block ∉ [g]) := fun y hy hm => by
                    have h1 := (har y hy).1
                    have h2 := HOX.out.row.lt
                    simp at hm
                    omega
                  have HRD := Lib.hid hr
                  have HOX := Lib.hid (HOX.out.below b6)
                  have HNN := Lib.hid (atL_len x' 2 q)
                  obtain ⟨N, hN⟩ : ∃ N, N = (atL x' 2 q).length := ⟨_, rfl⟩
                  rw [← hN] at hcr ⊢
                  have HN := Lib.hid hN
                  have hN100 : N ≤ 100 := by have h1 := HNN.out; have h2 := HNL.out; omega
                  clear hN own b6 hr har
                  go_wp2_with fail
                  go_loopw [12] (fun i wr => ∃ (j : Nat) (ls : List Int), j ≤ N ∧ i = .int .i64 j ∧ Hid (OX w M (k + 1) bp1 cp1 n1 g K4 x' ls wr) ∧ Hid (SeenAt n1 ls (D2 x' q ((atL x' 2 q).take j))) ∧ Hid (Reads wr ar cr ((atL x' 2 q).map (Value.int .i64)))) (fun i _ => N - (intOf i).toNat)
                  case atStart => exact ⟨0, ls, Nat.zero_le _, rfl, HOX.out, HSN.out, HRD.out⟩
                  case round =>
                    clear HOX HSN HRD
                    obtain ⟨j, ls, hj, rfl, HOX, HSN, HRD⟩ := hrel
                    by_cases hjlt : j < N
                    · obtain ⟨I, A2, hI1, hI2, hA2, -, e1, e2, e3, e4, nd, dd⟩ := ready_nat HOX.out.sx.inv hq1 (by rw [← HN.out]; exact hjlt)
                      have hAA : A2 = A := e3.symm.trans HA.out
                      subst hAA
                      have HND := Lib.hid nd
                      have HDD := Lib.hid dd
                      obtain ⟨br, o, rfl, hbr, hcl⟩ := HRD.out.at (by simp; have := HN.out; omega)
                      have r0 := hcl j _ (getD_map8 (by rw [← HN.out]; exact hjlt))
                      rw [e1] at r0
                      have hIn : I ≤ n1 := by have := HNL.out; omega
                      have p0 := HOX.out.po.cell hIn
                      rw [e2] at p0
                      have p1 := HOX.out.po.cell hA1
                      obtain ⟨Q, hQ⟩ : ∃ Q, Q = (0 :: prs x').getD A2 0 := ⟨_, rfl⟩
                      rw [← hQ] at p1 e4
                      have HLL := Lib.hid HSN.out.1
                      have s0 := HOX.out.seen (I := I) (by rw [HLL.out]; omega)
                      rw [HSN.out.zero hIn HND.out] at s0
                      have f0 := HOX.out.row.free I
                      have i1 : ¬ ((I : Int) < 1) := by omega
                      have i2 : ¬ ((n1 : Int) + 1 ≤ (I : Int)) := by omega
                      have i3 : ¬ ((A2 : Int) = 0) := by omega
                      have i4 : ¬ (Q < (q : Int)) := by omega
                      have i5 : ((A2 : Int) == 0) = false := by simp; omega
                      have i6 : ¬ A2 = 0 := by omega
                      clear nd dd e1 e2 e3 hQ hcl
                      go_wp2_with fail
                      have hAC := x_Active HOX.out.sx
                      rw [HA.out] at hAC
                      refine hAC.mono ?_
                      clear hAC
                      rintro e w' ⟨rfl, rfl⟩
                      go_wp2_with fail
                      have hAC := x_Active HOX.out.sx
                      rw [HA.out] at hAC
                      refine hAC.mono ?_
                      clear hAC
                      rintro e w' ⟨rfl, rfl⟩
                      go_wp2_with fail
                      have HSN := Lib.hid (HSN.out.inc hIn (fun i h => D2_take h) HDD.out)
                      have u := HOX.out.upd I (.int .i64 1)
                      have HRD := Lib.hid (u.reads HRD.out HRB.out)
                      have HOX := Lib.hid (HOX.out.set I 1)
                      clear r0 p0 p1 s0 f0 u i1 i2 i3 i4 i5 i6 e4 HND HDD HLL
                      go_roundw
                      case rel => exact ⟨j + 1, ls.set I 1, by omega, by go_num, HOX.out, HSN.out, HRD.out⟩
                      case measure => simp [intOf]; omega
                    · go_wp2_with fail
                      go_roundw
                      case rel => exact ⟨q + 1, ls, by omega, by omega, by go_num, HOX.out, HSN.out.mono (fun i h => h.next)⟩
                      case measure => simp [intOf]; omega
                · have HSN := Lib.hid (HSN.out.mono (fun i h => h.wait))
                  go_wp2_with fail
                  go_loopw [13] (fun p wr => ∃ (q : Nat) (ls : List Int), q ≤ m1 ∧ p = .int .i64 ((q : Int) + 1) ∧ Hid (OX w M (k + 1) bp1 cp1 n1 g K4 x' ls wr) ∧ Hid (SeenAt n1 ls (D3 x' q []))) (fun p _ => m1 + 1 - (intOf p).toNat)
                  case atStart => exact ⟨0, ls, Nat.zero_le _, rfl, HOX.out, HSN.out⟩
                  case round =>
                    clear HOX HSN hq
                    obtain ⟨q, ls, hqm, rfl, HOX, HSN⟩ := hrel
                    by_cases hq : q < m1
                    · go_wp2_with fail
                      refine (x_Waiting HOX.out.sx (by omega) q (by have := HMS.out; omega)).mono ?_
                      rintro e w6 ⟨v, rfl, own, b6⟩
                      obtain ⟨ar, cr, rfl, hr, hcr, har⟩ := owns_reads own
                      have HRB : Hid (∀ y, ar = some y → y.block ∉ [g]) := fun y hy hm => by
                        have h1 := (har y hy).1
                        have h2 := HOX.out.row.lt
                        simp at hm
                        omega
                      have HRD := Lib.hid hr
                      have HOX := Lib.hid (HOX.out.below b6)
                      have HNN := Lib.hid (atL_len x' (3 + q) 0)
                      obtain ⟨N, hN⟩ : ∃ N, N = (atL x' (3 + q) 0).length := ⟨_, rfl⟩
                      obtain ⟨c, hc⟩ : ∃ c, c = x'.sems.getD q 0 := ⟨_, rfl⟩
                      rw [← hN] at hcr ⊢
                      rw [← hc]
                      have HN := Lib.hid hN
                      have HC := Lib.hid hc
                      have hN100 : N ≤ 100 := by have h1 := HNN.out; have h2 := HNL.out; omega
                      clear hN hc own b6 hr har
                      go_wp2_with fail
                      go_loopw [16] (fun i wr => ∃ (j : Nat) (ls : List Int), j ≤ N ∧ i = .int .i64 j ∧ Hid (OX w M (k + 1) bp1 cp1 n1 g K4 x' ls wr) ∧ Hid (SeenAt n1 ls (D3 x' q ((atL x' (3 + q) 0).take j))) ∧ Hid (Reads wr ar cr ((atL x' (3 + q) 0).map (Value.int .i64)))) (fun i _ => N - (intOf i).toNat)
                      case atStart => exact ⟨0, ls, Nat.zero_le _, rfl, HOX.out, HSN.out, HRD.out⟩
                      case round =>
                        clear HOX HSN HRD
                        obtain ⟨j, ls, hj, rfl, HOX, HSN, HRD⟩ := hrel
                        by_cases hjlt : j < N
                        · obtain ⟨I, hI1, hI2, e1, e2, nd, dd⟩ := wait_nat HOX.out.sx.inv (k := q) (by rw [← HN.out]; exact hjlt)
                          have HND := Lib.hid nd
                          have HDD := Lib.hid dd
                          obtain ⟨br, o, rfl, hbr, hcl⟩ := HRD.out.at (by simp; have := HN.out; omega)
                          have r0 := hcl j _ (getD_map8 (by rw [← HN.out]; exact hjlt))
                          rw [e1] at r0
                          have hIn : I ≤ n1 := by have := HNL.out; omega
                          have HLL := Lib.hid HSN.out.1
                          have s0 := HOX.out.seen (I := I) (by rw [HLL.out]; omega)
                          rw [HSN.out.zero hIn HND.out] at s0
                          have f0 := HOX.out.row.free I
                          have i1 : ¬ ((I : Int) < 1) := by omega
                          have i2 : ¬ ((n1 : Int) + 1 ≤ (I : Int)) := by omega
                          have i3 : ¬ (0 < (c : Int)) := by have := HC.out; omega
                          clear nd dd e1 e2 hcl
                          go_wp2_with fail
                          have HSN := Lib.hid (HSN.out.inc hIn (fun i h => D3_take h) HDD.out)
                          have u := HOX.out.upd I (.int .i64 1)
                          have HRD := Lib.hid (u.reads HRD.out HRB.out)
                          have HOX := Lib.hid (HOX.out.set I 1)
                          clear r0 s0 f0 u i1 i2 i3 HND HDD HLL
                          go_roundw
                          case rel => exact ⟨j + 1, ls.set I 1, by omega, by go_num, HOX.out, HSN.out, HRD.out⟩
                          case measure => simp [intOf]; omega
                        · go_wp2_with fail
                          go_roundw
                          case rel => exact ⟨q + 1, ls, by omega, by go_num, HOX.out, HSN.out.mono (fun i h => h.next)⟩
                          case measure => simp [intOf]; omega
                    · go_wp2_with fail
                      go_loopw [17] (fun p wr => ∃ (q : Nat), 1 ≤ q ∧ q ≤ n1 + 1 ∧ p = .int .i64 q ∧ Hid (OX w M (k + 1) bp1 cp1 n1 g K4 x' ls wr)) (fun p _ => n1 + 1 - (intOf p).toNat)
                      case atStart => exact ⟨1, Nat.le_refl _, by omega, rfl, HOX.out⟩
                      case round =>
                        clear HOX hq hqm
                        obtain ⟨u, hu1, hu2, rfl, HOX⟩ := hrel
                        by_cases hu : u < n1 + 1
                        · have hun : u ≤ n1 := by omega
                          have HLL := Lib.hid HSN.out.1
                          have s0 := HOX.out.seen (I := u) (by rw [HLL.out]; omega)
                          have h1 := (HSN.out.le hun).1
                          generalize ls.getD u 0 = S at s0 h1
                          have i1 : ¬ (1 < S) := by omega
                          go_wp2_with fail
                          go_roundw
                          case rel => exact ⟨u + 1, by omega, by omega, by go_num, HOX.out⟩
                          case measure => simp [intOf]; omega
                        · go_wp2_with fail
                          go_roundw
                          case rel => exact ⟨k + 1, K4, x', bp1, cp1, n1, m1, by omega, rfl, rfl, by go_num, HOX.out.sx, HOX.out.po, HMS.out, HOX.out.bel⟩
                          case measure => simp [intOf]; omega
          · have hEn : ¬ E = 0 := by rw [HE.out]; exact hE
            as_aux_lemma =>
              have hpr : prs (stR x 5 nm) = prs x := by rw [HP1.out]; exact if_neg (fun h => absurd h.1 (by decide))
              have hsm : (stR x 5 nm).sems.length = m := by rw [HS1.out, if_neg (fun h => hE h.2), HMS.out]
              rw [← hpr] at HPO
              have HMS := Lib.hid hsm
              clear hpr hsm HP1 HS1 HPL HE HV
              generalize stR x 5 nm = x' at *
              obtain ⟨n1, hn1⟩ : ∃ n1, n1 = n := ⟨_, rfl⟩
              subst hn1
              obtain ⟨m1, hm1⟩ : ∃ m1, m1 = m := ⟨_, rfl⟩
              subst hm1
              obtain ⟨bp1, hbp⟩ : ∃ b, b = bp := ⟨_, rfl⟩
              subst hbp
              obtain ⟨cp1, hcp⟩ : ∃ b, b = cp := ⟨_, rfl⟩
              subst hcp
              have hA1 : actR x' ≤ n1 := by have h1 := act_le x'; have h2 := HPO.out.1; rw [prs_len] at h2; omega
              have hn101 : n1 ≤ 100 := by have h1 := HX.out.inv.n; have h2 := HPO.out.1; rw [prs_len] at h2; omega
              have hm101 : m1 ≤ 100 := by have h1 := HX.out.inv.m; have h2 := HMS.out; omega
              have HNL := Lib.hid (show x'.P.length = n1 by have h2 := HPO.out.1; rwa [prs_len] at h2)
              obtain ⟨A, hA⟩ : ∃ A, actR x' = A := ⟨_, rfl⟩
              rw [hA] at hA1
              have HA := Lib.hid hA
              clear hA
              go_wp2_with (at_make; refine wpList_mk rfl _ _ 35 rfl 3 (.int .i64 0) 8 Try.underlying35 inf_int rfl .i64 .i64 _ _ (n1 + 1) rfl rfl ?c1 ?c2 (by omega) (by unfold maxLen; omega) ?_)
              case c1 => omega
              case c2 => omega
              intro wm row upd
              obtain ⟨g, hg⟩ : ∃ g, g = wt.heap.size := ⟨_, rfl⟩
              rw [← hg] at row ⊢
              have HG := Lib.hid hg
              clear hg c0 c1
              have HBU := Lib.hid (show Below wt.heap.size wt wm from upd.below (Nat.le_refl _) (fun k hk => absurd hk List.not_mem_nil))
              have hOX : OX w M (k + 1) bp1 cp1 n1 g K4 x' (List.replicate (n1 + 1) 0) wm := ⟨HX.out.below HBU.out, HPO.out.below HBU.out, by rw [List.map_replicate]; exact row, fun hm => by have h1 := HX.out.lt _ hm; have h2 := HG.out; omega,
                by have h1 := HPO.out.lt; have h2 := HG.out; omega, by have h1 := HX.out.bs; have h2 := HG.out; omega, bBel HB.out HX.out (Nat.le_refl _) HBU.out⟩
              have HOX := Lib.hid hOX
              clear hOX row upd HBU HX HPO HB HG
              go_wp2_with fail
              have hAC := x_Active HOX.out.sx
              rw [HA.out] at hAC
              refine hAC.mono ?_
              clear hAC
              rintro e w' ⟨rfl, rfl⟩
              go_wp2_with fail
              have hAC := x_Active HOX.out.sx
              rw [HA.out] at hAC
              refine hAC.mono ?_
              clear hAC
              rintro e w' ⟨rfl, rfl⟩
              go_wp2_with fail
              have hAC := x_Active HOX.out.sx
              rw [HA.out] at hAC
              refine hAC.mono ?_
              clear hAC
              rintro e w' ⟨rfl, rfl⟩
              have s0 := HOX.out.seen (I := A) (by simp; omega)
              rw [(SeenAt.start n1).zero hA1 id] at s0
              have f0 := HOX.out.row.free A
              go_wp2_with fail
              have HSN : Hid (SeenAt n1 ((List.replicate (n1 + 1) 0).set A 1) (D2 x' 1 [])) := (SeenAt.start n1).inc hA1 (fun i h => h.elim) (.inl HA.out.symm)
              have HOX := Lib.hid (HOX.out.set A 1)
              clear s0 f0
              obtain ⟨ls, hls⟩ : ∃ ls, ls = (List.replicate (n1 + 1) (0 : Int)).set A 1 := ⟨_, rfl⟩
              rw [← hls] at HSN HOX
              obtain ⟨we, hwe⟩ : ∃ we, we = wm.setCell ⟨g, A, none⟩ (.int .i64 1) := ⟨_, rfl⟩
              rw [← hwe] at HOX ⊢
              clear hls hwe
              go_loopw [10] (fun p wr => ∃ (q : Nat) (ls : List Int), 1 ≤ q ∧ q ≤ 9 ∧ p = .int .i64 q ∧ Hid (OX w M (k + 1) bp1 cp1 n1 g K4 x' ls wr) ∧ Hid (SeenAt n1 ls (D2 x' q []))) (fun p _ => 9 - (intOf p).toNat)
              case atStart => exact ⟨1, ls, Nat.le_refl _, by omega, rfl, HOX.out, HSN.out⟩
              case round =>
                clear HOX HSN
                obtain ⟨q, ls, hq1, hq9, rfl, HOX, HSN⟩ := hrel
                by_cases hq : q ≤ 8
                · go_wp2_with fail
                  refine (x_Ready HOX.out.sx (by omega) q (by omega) hq).mono ?_
                  rintro e w6 ⟨v, rfl, own, b6⟩
                  obtain ⟨ar, cr, rfl, hr, hcr, har⟩ := owns_reads own
                  have HRB : Hid (∀ y, ar = some y → y.block ∉ [g]) := fun y hy hm => by
                    have h1 := (har y hy).1
                    have h2 := HOX.out.row.lt
                    simp at hm
                    omega
                  have HRD := Lib.hid hr
                  have HOX := Lib.hid (HOX.out.below b6)
                  have HNN := Lib.hid (atL_len x' 2 q)
                  obtain ⟨N, hN⟩ : ∃ N, N = (atL x' 2 q).length := ⟨_, rfl⟩
                  rw [← hN] at hcr ⊢
                  have HN := Lib.hid hN
                  have hN100 : N ≤ 100 := by have h1 := HNN.out; have h2 := HNL.out; omega
                  clear hN own b6 hr har
                  go_wp2_with fail
                  go_loopw [12] (fun i wr => ∃ (j : Nat) (ls : List Int), j ≤ N ∧ i = .int .i64 j ∧ Hid (OX w M (k + 1) bp1 cp1 n1 g K4 x' ls wr) ∧ Hid (SeenAt n1 ls (D2 x' q ((atL x' 2 q).take j))) ∧ Hid (Reads wr ar cr ((atL x' 2 q).map (Value.int .i64)))) (fun i _ => N - (intOf i).toNat)
                  case atStart => exact ⟨0, ls, Nat.zero_le _, rfl, HOX.out, HSN.out, HRD.out⟩
                  case round =>
                    clear HOX HSN HRD
                    obtain ⟨j, ls, hj, rfl, HOX, HSN, HRD⟩ := hrel
                    by_cases hjlt : j < N
                    · obtain ⟨I, A2, hI1, hI2, hA2, -, e1, e2, e3, e4, nd, dd⟩ := ready_nat HOX.out.sx.inv hq1 (by rw [← HN.out]; exact hjlt)
                      have hAA : A2 = A := e3.symm.trans HA.out
                      subst hAA
                      have HND := Lib.hid nd
                      have HDD := Lib.hid dd
                      obtain ⟨br, o, rfl, hbr, hcl⟩ := HRD.out.at (by simp; have := HN.out; omega)
                      have r0 := hcl j _ (getD_map8 (by rw [← HN.out]; exact hjlt))
                      rw [e1] at r0
                      have hIn : I ≤ n1 := by have := HNL.out; omega
                      have p0 := HOX.out.po.cell hIn
                      rw [e2] at p0
                      have p1 := HOX.out.po.cell hA1
                      obtain ⟨Q, hQ⟩ : ∃ Q, Q = (0 :: prs x').getD A2 0 := ⟨_, rfl⟩
                      rw [← hQ] at p1 e4
                      have HLL := Lib.hid HSN.out.1
                      have s0 := HOX.out.seen (I := I) (by rw [HLL.out]; omega)
                      rw [HSN.out.zero hIn HND.out] at s0
                      have f0 := HOX.out.row.free I
                      have i1 : ¬ ((I : Int) < 1) := by omega
                      have i2 : ¬ ((n1 : Int) + 1 ≤ (I : Int)) := by omega
                      have i3 : ¬ ((A2 : Int) = 0) := by omega
                      have i4 : ¬ (Q < (q : Int)) := by omega
                      have i5 : ((A2 : Int) == 0) = false := by simp; omega
                      have i6 : ¬ A2 = 0 := by omega
                      clear nd dd e1 e2 e3 hQ hcl
                      go_wp2_with fail
                      have hAC := x_Active HOX.out.sx
                      rw [HA.out] at hAC
                      refine hAC.mono ?_
                      clear hAC
                      rintro e w' ⟨rfl, rfl⟩
                      go_wp2_with fail
                      have hAC := x_Active HOX.out.sx
                      rw [HA.out] at hAC
                      refine hAC.mono ?_
                      clear hAC
                      rintro e w' ⟨rfl, rfl⟩
                      go_wp2_with fail
                      have HSN := Lib.hid (HSN.out.inc hIn (fun i h => D2_take h) HDD.out)
                      have u := HOX.out.upd I (.int .i64 1)
                      have HRD := Lib.hid (u.reads HRD.out HRB.out)
                      have HOX := Lib.hid (HOX.out.set I 1)
                      clear r0 p0 p1 s0 f0 u i1 i2 i3 i4 i5 i6 e4 HND HDD HLL
                      go_roundw
                      case rel => exact ⟨j + 1, ls.set I 1, by omega, by go_num, HOX.out, HSN.out, HRD.out⟩
                      case measure => simp [intOf]; omega
                    · go_wp2_with fail
                      go_roundw
                      case rel => exact ⟨q + 1, ls, by omega, by omega, by go_num, HOX.out, HSN.out.mono (fun i h => h.next)⟩
                      case measure => simp [intOf]; omega
                · have HSN := Lib.hid (HSN.out.mono (fun i h => h.wait))
                  go_wp2_with fail
                  go_loopw [13] (fun p wr => ∃ (q : Nat) (ls : List Int), q ≤ m1 ∧ p = .int .i64 ((q : Int) + 1) ∧ Hid (OX w M (k + 1) bp1 cp1 n1 g K4 x' ls wr) ∧ Hid (SeenAt n1 ls (D3 x' q []))) (fun p _ => m1 + 1 - (intOf p).toNat)
                  case atStart => exact ⟨0, ls, Nat.zero_le _, rfl, HOX.out, HSN.out⟩
                  case round =>
                    clear HOX HSN hq
                    obtain ⟨q, ls, hqm, rfl, HOX, HSN⟩ := hrel
                    by_cases hq : q < m1
                    · go_wp2_with fail
                      refine (x_Waiting HOX.out.sx (by omega) q (by have := HMS.out; omega)).mono ?_
                      rintro e w6 ⟨v, rfl, own, b6⟩
                      obtain ⟨ar, cr, rfl, hr, hcr, har⟩ := owns_reads own
                      have HRB : Hid (∀ y, ar = some y → y.block ∉ [g]) := fun y hy hm => by
                        have h1 := (har y hy).1
                        have h2 := HOX.out.row.lt
                        simp at hm
                        omega
                      have HRD := Lib.hid hr
                      have HOX := Lib.hid (HOX.out.below b6)
                      have HNN := Lib.hid (atL_len x' (3 + q) 0)
                      obtain ⟨N, hN⟩ : ∃ N, N = (atL x' (3 + q) 0).length := ⟨_, rfl⟩
                      obtain ⟨c, hc⟩ : ∃ c, c = x'.sems.getD q 0 := ⟨_, rfl⟩
                      rw [← hN] at hcr ⊢
                      rw [← hc]
                      have HN := Lib.hid hN
                      have HC := Lib.hid hc
                      have hN100 : N ≤ 100 := by have h1 := HNN.out; have h2 := HNL.out; omega
                      clear hN hc own b6 hr har
                      go_wp2_with fail
                      go_loopw [16] (fun i wr => ∃ (j : Nat) (ls : List Int), j ≤ N ∧ i = .int .i64 j ∧ Hid (OX w M (k + 1) bp1 cp1 n1 g K4 x' ls wr) ∧ Hid (SeenAt n1 ls (D3 x' q ((atL x' (3 + q) 0).take j))) ∧ Hid (Reads wr ar cr ((atL x' (3 + q) 0).map (Value.int .i64)))) (fun i _ => N - (intOf i).toNat)
                      case atStart => exact ⟨0, ls, Nat.zero_le _, rfl, HOX.out, HSN.out, HRD.out⟩
                      case round =>
                        clear HOX HSN HRD
                        obtain ⟨j, ls, hj, rfl, HOX, HSN, HRD⟩ := hrel
                        by_cases hjlt : j < N
                        · obtain ⟨I, hI1, hI2, e1, e2, nd, dd⟩ := wait_nat HOX.out.sx.inv (k := q) (by rw [← HN.out]; exact hjlt)
                          have HND := Lib.hid nd
                          have HDD := Lib.hid dd
                          obtain ⟨br, o, rfl, hbr, hcl⟩ := HRD.out.at (by simp; have := HN.out; omega)
                          have r0 := hcl j _ (getD_map8 (by rw [← HN.out]; exact hjlt))
                          rw [e1] at r0
                          have hIn : I ≤ n1 := by have := HNL.out; omega
                          have HLL := Lib.hid HSN.out.1
                          have s0 := HOX.out.seen (I := I) (by rw [HLL.out]; omega)
                          rw [HSN.out.zero hIn HND.out] at s0
                          have f0 := HOX.out.row.free I
                          have i1 : ¬ ((I : Int) < 1) := by omega
                          have i2 : ¬ ((n1 : Int) + 1 ≤ (I : Int)) := by omega
                          have i3 : ¬ (0 < (c : Int)) := by have := HC.out; omega
                          clear nd dd e1 e2 hcl
                          go_wp2_with fail
                          have HSN := Lib.hid (HSN.out.inc hIn (fun i h => D3_take h) HDD.out)
                          have u := HOX.out.upd I (.int .i64 1)
                          have HRD := Lib.hid (u.reads HRD.out HRB.out)
                          have HOX := Lib.hid (HOX.out.set I 1)
                          clear r0 s0 f0 u i1 i2 i3 HND HDD HLL
                          go_roundw
                          case rel => exact ⟨j + 1, ls.set I 1, by omega, by go_num, HOX.out, HSN.out, HRD.out⟩
                          case measure => simp [intOf]; omega
                        · go_wp2_with fail
                          go_roundw
                          case rel => exact ⟨q + 1, ls, by omega, by go_num, HOX.out, HSN.out.mono (fun i h => h.next)⟩
                          case measure => simp [intOf]; omega
                    · go_wp2_with fail
                      go_loopw [17] (fun p wr => ∃ (q : Nat), 1 ≤ q ∧ q ≤ n1 + 1 ∧ p = .int .i64 q ∧ Hid (OX w M (k + 1) bp1 cp1 n1 g K4 x' ls wr)) (fun p _ => n1 + 1 - (intOf p).toNat)
                      case atStart => exact ⟨1, Nat.le_refl _, by omega, rfl, HOX.out⟩
                      case round =>
                        clear HOX hq hqm
                        obtain ⟨u, hu1, hu2, rfl, HOX⟩ := hrel
                        by_cases hu : u < n1 + 1
                        · have hun : u ≤ n1 := by omega
                          have HLL := Lib.hid HSN.out.1
                          have s0 := HOX.out.seen (I := u) (by rw [HLL.out]; omega)
                          have h1 := (HSN.out.le hun).1
                          generalize ls.getD u 0 = S at s0 h1
                          have i1 : ¬ (1 < S) := by omega
                          go_wp2_with fail
                          go_roundw
                          case rel => exact ⟨u + 1, by omega, by omega, by go_num, HOX.out⟩
                          case measure => simp [intOf]; omega
                        · go_wp2_with fail
                          go_roundw
                          case rel => exact ⟨k + 1, K4, x', bp1, cp1, n1, m1, by omega, rfl, rfl, by go_num, HOX.out.sx, HOX.out.po, HMS.out, HOX.out.bel⟩
                          case measure => simp [intOf]; omega
        · as_aux_lemma =>
            have hpr : prs (stR x kd nm) = prs x := by rw [HP1.out]; exact if_neg (fun h => h1 h.1)
            have hsm : (stR x kd nm).sems.length = m := by rw [HS1.out, if_neg (fun h => h5 h.1), HMS.out]
            rw [← hpr] at HPO
            have HMS := Lib.hid hsm
            clear hpr hsm HP1 HS1 HPL HE HV
            generalize stR x kd nm = x' at *
            obtain ⟨n1, hn1⟩ : ∃ n1, n1 = n := ⟨_, rfl⟩
            subst hn1
            obtain ⟨m1, hm1⟩ : ∃ m1, m1 = m := ⟨_, rfl⟩
            subst hm1
            obtain ⟨bp1, hbp⟩ : ∃ b, b = bp := ⟨_, rfl⟩
            subst hbp
            obtain ⟨cp1, hcp⟩ : ∃ b, b = cp := ⟨_, rfl⟩
            subst hcp
            have hA1 : actR x' ≤ n1 := by have h1 := act_le x'; have h2 := HPO.out.1; rw [prs_len] at h2; omega
            have hn101 : n1 ≤ 100 := by have h1 := HX.out.inv.n; have h2 := HPO.out.1; rw [prs_len] at h2; omega
            have hm101 : m1 ≤ 100 := by have h1 := HX.out.inv.m; have h2 := HMS.out; omega
            have HNL := Lib.hid (show x'.P.length = n1 by have h2 := HPO.out.1; rwa [prs_len] at h2)
            obtain ⟨A, hA⟩ : ∃ A, actR x' = A := ⟨_, rfl⟩
            rw [hA] at hA1
            have HA := Lib.hid hA
            clear hA
            go_wp2_with (at_make; refine wpList_mk rfl _ _ 35 rfl 3 (.int .i64 0) 8 Try.underlying35 inf_int rfl .i64 .i64 _ _ (n1 + 1) rfl rfl ?c1 ?c2 (by omega) (by unfold maxLen; omega) ?_)
            case c1 => omega
            case c2 => omega
            intro wm row upd
            obtain ⟨g, hg⟩ : ∃ g, g = wt.heap.size := ⟨_, rfl⟩
            rw [← hg] at row ⊢
            have HG := Lib.hid hg
            clear hg c0 c1
            have HBU := Lib.hid (show Below wt.heap.size wt wm from upd.below (Nat.le_refl _) (fun k hk => absurd hk List.not_mem_nil))
            have hOX : OX w M (k + 1) bp1 cp1 n1 g K4 x' (List.replicate (n1 + 1) 0) wm := ⟨HX.out.below HBU.out, HPO.out.below HBU.out, by rw [List.map_replicate]; exact row, fun hm => by have h1 := HX.out.lt _ hm; have h2 := HG.out; omega,
              by have h1 := HPO.out.lt; have h2 := HG.out; omega, by have h1 := HX.out.bs; have h2 := HG.out; omega, bBel HB.out HX.out (Nat.le_refl _) HBU.out⟩
            have HOX := Lib.hid hOX
            clear hOX row upd HBU HX HPO HB HG
            go_wp2_with fail
            have hAC := x_Active HOX.out.sx
            rw [HA.out] at hAC
            refine hAC.mono ?_
            clear hAC
            rintro e w' ⟨rfl, rfl⟩
            go_wp2_with fail
            have hAC := x_Active HOX.out.sx
            rw [HA.out] at hAC
            refine hAC.mono ?_
            clear hAC
            rintro e w' ⟨rfl, rfl⟩
            go_wp2_with fail
            have hAC := x_Active HOX.out.sx
            rw [HA.out] at hAC
            refine hAC.mono ?_
            clear hAC
            rintro e w' ⟨rfl, rfl⟩
            have s0 := HOX.out.seen (I := A) (by simp; omega)
            rw [(SeenAt.start n1).zero hA1 id] at s0
            have f0 := HOX.out.row.free A
            go_wp2_with fail
            have HSN : Hid (SeenAt n1 ((List.replicate (n1 + 1) 0).set A 1) (D2 x' 1 [])) := (SeenAt.start n1).inc hA1 (fun i h => h.elim) (.inl HA.out.symm)
            have HOX := Lib.hid (HOX.out.set A 1)
            clear s0 f0
            obtain ⟨ls, hls⟩ : ∃ ls, ls = (List.replicate (n1 + 1) (0 : Int)).set A 1 := ⟨_, rfl⟩
            rw [← hls] at HSN HOX
            obtain ⟨we, hwe⟩ : ∃ we, we = wm.setCell ⟨g, A, none⟩ (.int .i64 1) := ⟨_, rfl⟩
            rw [← hwe] at HOX ⊢
            clear hls hwe
            go_loopw [10] (fun p wr => ∃ (q : Nat) (ls : List Int), 1 ≤ q ∧ q ≤ 9 ∧ p = .int .i64 q ∧ Hid (OX w M (k + 1) bp1 cp1 n1 g K4 x' ls wr) ∧ Hid (SeenAt n1 ls (D2 x' q []))) (fun p _ => 9 - (intOf p).toNat)
            case atStart => exact ⟨1, ls, Nat.le_refl _, by omega, rfl, HOX.out, HSN.out⟩
            case round =>
              clear HOX HSN
              obtain ⟨q, ls, hq1, hq9, rfl, HOX, HSN⟩ := hrel
              by_cases hq : q ≤ 8
              · go_wp2_with fail
                refine (x_Ready HOX.out.sx (by omega) q (by omega) hq).mono ?_
                rintro e w6 ⟨v, rfl, own, b6⟩
                obtain ⟨ar, cr, rfl, hr, hcr, har⟩ := owns_reads own
                have HRB : Hid (∀ y, ar = some y → y.block ∉ [g]) := fun y hy hm => by
                  have h1 := (har y hy).1
                  have h2 := HOX.out.row.lt
                  simp at hm
                  omega
                have HRD := Lib.hid hr
                have HOX := Lib.hid (HOX.out.below b6)
                have HNN := Lib.hid (atL_len x' 2 q)
                obtain ⟨N, hN⟩ : ∃ N, N = (atL x' 2 q).length := ⟨_, rfl⟩
                rw [← hN] at hcr ⊢
                have HN := Lib.hid hN
                have hN100 : N ≤ 100 := by have h1 := HNN.out; have h2 := HNL.out; omega
                clear hN own b6 hr har
                go_wp2_with fail
                go_loopw [12] (fun i wr => ∃ (j : Nat) (ls : List Int), j ≤ N ∧ i = .int .i64 j ∧ Hid (OX w M (k + 1) bp1 cp1 n1 g K4 x' ls wr) ∧ Hid (SeenAt n1 ls (D2 x' q ((atL x' 2 q).take j))) ∧ Hid (Reads wr ar cr ((atL x' 2 q).map (Value.int .i64)))) (fun i _ => N - (intOf i).toNat)
                case atStart => exact ⟨0, ls, Nat.zero_le _, rfl, HOX.out, HSN.out, HRD.out⟩
                case round =>
                  clear HOX HSN HRD
                  obtain ⟨j, ls, hj, rfl, HOX, HSN, HRD⟩ := hrel
                  by_cases hjlt : j < N
                  · obtain ⟨I, A2, hI1, hI2, hA2, -, e1, e2, e3, e4, nd, dd⟩ := ready_nat HOX.out.sx.inv hq1 (by rw [← HN.out]; exact hjlt)
                    have hAA : A2 = A := e3.symm.trans HA.out
                    subst hAA
                    have HND := Lib.hid nd
                    have HDD := Lib.hid dd
                    obtain ⟨br, o, rfl, hbr, hcl⟩ := HRD.out.at (by simp; have := HN.out; omega)
                    have r0 := hcl j _ (getD_map8 (by rw [← HN.out]; exact hjlt))
                    rw [e1] at r0
                    have hIn : I ≤ n1 := by have := HNL.out; omega
                    have p0 := HOX.out.po.cell hIn
                    rw [e2] at p0
                    have p1 := HOX.out.po.cell hA1
                    obtain ⟨Q, hQ⟩ : ∃ Q, Q = (0 :: prs x').getD A2 0 := ⟨_, rfl⟩
                    rw [← hQ] at p1 e4
                    have HLL := Lib.hid HSN.out.1
                    have s0 := HOX.out.seen (I := I) (by rw [HLL.out]; omega)
                    rw [HSN.out.zero hIn HND.out] at s0
                    have f0 := HOX.out.row.free I
                    have i1 : ¬ ((I : Int) < 1) := by omega
                    have i2 : ¬ ((n1 : Int) + 1 ≤ (I : Int)) := by omega
                    have i3 : ¬ ((A2 : Int) = 0) := by omega
                    have i4 : ¬ (Q < (q : Int)) := by omega
                    have i5 : ((A2 : Int) == 0) = false := by simp; omega
                    have i6 : ¬ A2 = 0 := by omega
                    clear nd dd e1 e2 e3 hQ hcl
                    go_wp2_with fail
                    have hAC := x_Active HOX.out.sx
                    rw [HA.out] at hAC
                    refine hAC.mono ?_
                    clear hAC
                    rintro e w' ⟨rfl, rfl⟩
                    go_wp2_with fail
                    have hAC := x_Active HOX.out.sx
                    rw [HA.out] at hAC
                    refine hAC.mono ?_
                    clear hAC
                    rintro e w' ⟨rfl, rfl⟩
                    go_wp2_with fail
                    have HSN := Lib.hid (HSN.out.inc hIn (fun i h => D2_take h) HDD.out)
                    have u := HOX.out.upd I (.int .i64 1)
                    have HRD := Lib.hid (u.reads HRD.out HRB.out)
                    have HOX := Lib.hid (HOX.out.set I 1)
                    clear r0 p0 p1 s0 f0 u i1 i2 i3 i4 i5 i6 e4 HND HDD HLL
                    go_roundw
                    case rel => exact ⟨j + 1, ls.set I 1, by omega, by go_num, HOX.out, HSN.out, HRD.out⟩
                    case measure => simp [intOf]; omega
                  · go_wp2_with fail
                    go_roundw
                    case rel => exact ⟨q + 1, ls, by omega, by omega, by go_num, HOX.out, HSN.out.mono (fun i h => h.next)⟩
                    case measure => simp [intOf]; omega
              · have HSN := Lib.hid (HSN.out.mono (fun i h => h.wait))
                go_wp2_with fail
                go_loopw [13] (fun p wr => ∃ (q : Nat) (ls : List Int), q ≤ m1 ∧ p = .int .i64 ((q : Int) + 1) ∧ Hid (OX w M (k + 1) bp1 cp1 n1 g K4 x' ls wr) ∧ Hid (SeenAt n1 ls (D3 x' q []))) (fun p _ => m1 + 1 - (intOf p).toNat)
                case atStart => exact ⟨0, ls, Nat.zero_le _, rfl, HOX.out, HSN.out⟩
                case round =>
                  clear HOX HSN hq
                  obtain ⟨q, ls, hqm, rfl, HOX, HSN⟩ := hrel
                  by_cases hq : q < m1
                  · go_wp2_with fail
                    refine (x_Waiting HOX.out.sx (by omega) q (by have := HMS.out; omega)).mono ?_
                    rintro e w6 ⟨v, rfl, own, b6⟩
                    obtain ⟨ar, cr, rfl, hr, hcr, har⟩ := owns_reads own
                    have HRB : Hid (∀ y, ar = some y → y.block ∉ [g]) := fun y hy hm => by
                      have h1 := (har y hy).1
                      have h2 := HOX.out.row.lt
                      simp at hm
                      omega
                    have HRD := Lib.hid hr
                    have HOX := Lib.hid (HOX.out.below b6)
                    have HNN := Lib.hid (atL_len x' (3 + q) 0)
                    obtain ⟨N, hN⟩ : ∃ N, N = (atL x' (3 + q) 0).length := ⟨_, rfl⟩
                    obtain ⟨c, hc⟩ : ∃ c, c = x'.sems.getD q 0 := ⟨_, rfl⟩
                    rw [← hN] at hcr ⊢
                    rw [← hc]
                    have HN := Lib.hid hN
                    have HC := Lib.hid hc
                    have hN100 : N ≤ 100 := by have h1 := HNN.out; have h2 := HNL.out; omega
                    clear hN hc own b6 hr har
                    go_wp2_with fail
                    go_loopw [16] (fun i wr => ∃ (j : Nat) (ls : List Int), j ≤ N ∧ i = .int .i64 j ∧ Hid (OX w M (k + 1) bp1 cp1 n1 g K4 x' ls wr) ∧ Hid (SeenAt n1 ls (D3 x' q ((atL x' (3 + q) 0).take j))) ∧ Hid (Reads wr ar cr ((atL x' (3 + q) 0).map (Value.int .i64)))) (fun i _ => N - (intOf i).toNat)
                    case atStart => exact ⟨0, ls, Nat.zero_le _, rfl, HOX.out, HSN.out, HRD.out⟩
                    case round =>
                      clear HOX HSN HRD
                      obtain ⟨j, ls, hj, rfl, HOX, HSN, HRD⟩ := hrel
                      by_cases hjlt : j < N
                      · obtain ⟨I, hI1, hI2, e1, e2, nd, dd⟩ := wait_nat HOX.out.sx.inv (k := q) (by rw [← HN.out]; exact hjlt)
                        have HND := Lib.hid nd
                        have HDD := Lib.hid dd
                        obtain ⟨br, o, rfl, hbr, hcl⟩ := HRD.out.at (by simp; have := HN.out; omega)
                        have r0 := hcl j _ (getD_map8 (by rw [← HN.out]; exact hjlt))
                        rw [e1] at r0
                        have hIn : I ≤ n1 := by have := HNL.out; omega
                        have HLL := Lib.hid HSN.out.1
                        have s0 := HOX.out.seen (I := I) (by rw [HLL.out]; omega)
                        rw [HSN.out.zero hIn HND.out] at s0
                        have f0 := HOX.out.row.free I
                        have i1 : ¬ ((I : Int) < 1) := by omega
                        have i2 : ¬ ((n1 : Int) + 1 ≤ (I : Int)) := by omega
                        have i3 : ¬ (0 < (c : Int)) := by have := HC.out; omega
                        clear nd dd e1 e2 hcl
                        go_wp2_with fail
                        have HSN := Lib.hid (HSN.out.inc hIn (fun i h => D3_take h) HDD.out)
                        have u := HOX.out.upd I (.int .i64 1)
                        have HRD := Lib.hid (u.reads HRD.out HRB.out)
                        have HOX := Lib.hid (HOX.out.set I 1)
                        clear r0 s0 f0 u i1 i2 i3 HND HDD HLL
                        go_roundw
                        case rel => exact ⟨j + 1, ls.set I 1, by omega, by go_num, HOX.out, HSN.out, HRD.out⟩
                        case measure => simp [intOf]; omega
                      · go_wp2_with fail
                        go_roundw
                        case rel => exact ⟨q + 1, ls, by omega, by go_num, HOX.out, HSN.out.mono (fun i h => h.next)⟩
                        case measure => simp [intOf]; omega
                  · go_wp2_with fail
                    go_loopw [17] (fun p wr => ∃ (q : Nat), 1 ≤ q ∧ q ≤ n1 + 1 ∧ p = .int .i64 q ∧ Hid (OX w M (k + 1) bp1 cp1 n1 g K4 x' ls wr)) (fun p _ => n1 + 1 - (intOf p).toNat)
                    case atStart => exact ⟨1, Nat.le_refl _, by omega, rfl, HOX.out⟩
                    case round =>
                      clear HOX hq hqm
                      obtain ⟨u, hu1, hu2, rfl, HOX⟩ := hrel
                      by_cases hu : u < n1 + 1
                      · have hun : u ≤ n1 := by omega
                        have HLL := Lib.hid HSN.out.1
                        have s0 := HOX.out.seen (I := u) (by rw [HLL.out]; omega)
                        have h1 := (HSN.out.le hun).1
                        generalize ls.getD u 0 = S at s0 h1
                        have i1 : ¬ (1 < S) := by omega
                        go_wp2_with fail
                        go_roundw
                        case rel => exact ⟨u + 1, by omega, by omega, by go_num, HOX.out⟩
                        case measure => simp [intOf]; omega
                      · go_wp2_with fail
                        go_roundw
                        case rel => exact ⟨k + 1, K4, x', bp1, cp1, n1, m1, by omega, rfl, rfl, by go_num, HOX.out.sx, HOX.out.po, HMS.out, HOX.out.bel⟩
                        case measure => simp [intOf]; omega
    · go_wp2_with fail
      refine (c_known20 _).mono ?_
      rintro e w' ⟨rfl, bk⟩
      have HB := Lib.hid (bBel HB.out HX.out (Nat.le_refl _) bk)
      clear bk
      go_wp2
      go_ret
      exact ⟨rfl, by rw [HM.out]; exact HB.out⟩

end Go.Proofs.Ytbkaafbkmcgfjaa
