/-
  Units of the round of ExtentSteps. (Written by exsteps.py.)
-/
import Derived.Test.YtpbokmmobepolaaExtZK
namespace Go.Proofs.Ytpbokmmobepolaa
open Go.RowKit Go.Maps
set_option linter.unusedVariables false
set_option maxHeartbeats 8000000
set_option maxRecDepth 100000

theorem uget {Q : Exit → Act → World → Prop} {W : World} {I : SpI} {N k B b off nd cd j rn rc X10 X12 X13 dn dc : Nat} {ra da : Option Addr} {rs : List RwB} {kind : Int} {d : List Int} {x : Ext} {u2 u3 u4 u6 u8 u16 u17 u18 u19 u20 u21 u22 u23 u24 u25 u26 u27 u28 u29 u30 u31 u32 u33 u34 u35 u36 u37 u38 u39 u40 u41 u42 u43 u44 u45 u46 u47 u48 u49 u50 u51 u52 u53 u54 u55 u56 u57 u58 u59 u60 u61 u62 u63 u64 u65 u66 u67 u68 u69 u70 u71 u72 u73 u74 u75 u76 u77 u78 u79 u80 u81 u82 u83 u84 u85 u86 u87 u88 u89 u90 u91 u92 u93 u94 u95 u96 u97 u98 u99 u100 u101 u102 u103 u104 u105 u106 u107 u108 u109 u110 u111 u112 u113 u114 u115 u116 u117 u118 u119 u120 u121 u122 u123 u124 u125 u126 u127 u128 u129 u130 u131 u132 u133 u134 u135 u136 u137 u138 u139 u140 u141 u142 u143 u144 u145 u146 u147 u148 u149 u150 u151 u152 u153 u154 u155 u156 u157 u158 u159 u160 u161 u162 u163 u164 u165 u166 u167 u168 u169 u170 u171 u172 u173 u174 u175 u176 u177 u178 u179 u180 u181 u182 u183 u184 u185 u186 u187 u188 u189 u190 u191 u192 u193 u194 u195 u196 u197 u198 u199 u200 u201 u202 u203 u204 u205 u206 u207 u208 u209 u210 u211 u212 u213 u214 u215 u216 u217 u218 u219 u220 u221 u222 u223 u224 u225 u226 u227 u228 u229 u230 u231 u232 u233 u234 u235 u236 u237 u238 u239 u240 u241 u242 : Value}
    (hN : N ≤ 300) (hk : k ≤ 1000) (hrn : rn ≤ 300) (hj : j < nd) (hB : B ≤ W.heap.size) (hsg : SG W I (Lof rs) N k) (hrw : RowsAt W B ra rn rc rs) (y12 : Row W X12 34 [.int .i64 0, .int .i64 0, .int .i64 0]) (y13 : Row W X13 34 [.int .i64 0, .int .i64 0, .int .i64 0]) (y10 : Row W X10 34 (exC x))
    (hXI : ∀ j ∈ I.all, j < B) (hX : X10 ≠ X12 ∧ X10 ≠ X13 ∧ X12 ≠ X13) (hXB : B ≤ X10 ∧ B ≤ X12 ∧ B ≤ X13) (hfar : ∀ q ∈ [X12, X13], (0 < rn → ∀ y, ra = some y → y.block ≠ q) ∧ ∀ r ∈ rs, 0 < r.n → ∀ y, r.a = some y → y.block ≠ q)
    (hkc : W.cell? ⟨b, off + j * 3, none⟩ = some (.int .i64 kind)) (hcell : ∀ w', Upd (I.all ++ [X12, X13]) W w' → w'.cell? ⟨b, off + j * 3 + 2, none⟩ = some (.slice da dn dc)) (e0 : dn = d.length) (hdn : dn ≤ 100000) (hby : Byt d) (hcap : dn ≤ dc)
    (hdr : ∀ w', Upd (I.all ++ [X12, X13]) W w' → Reads w' da dc (d.map (Value.int .u8))) (hdd : 0 < dn → ∀ y, da = some y → y.block ∉ I.all) (hxo : exOk x) (hkind : kind = 2)
    (h : ∀ (t16 t17 t18 t93 t94 t95 t96 t97 t98 t99 t100 t101 t102 t103 t104 t105 t106 t107 t108 t109 t110 t111 t112 t113 t114 t115 t116 t117 t118 t119 t120 t121 t122 t123 t124 t125 t126 t127 t128 t129 t130 t131 t132 t133 t134 t135 t136 t137 t138 t139 t140 t141 t142 t143 t144 t145 t146 t147 t148 t149 t150 t151 t152 t153 t154 t155 t156 t157 t158 t159 t160 t161 t162 t163 t164 t165 t166 t167 t168 t169 t170 t171 t172 t173 t174 t175 t176 t177 t178 t179 t180 t181 t182 t183 t184 : Value) (w' : World) (y : Ext) (f : Int) (na : Option Addr) (nn nc : Nat) (rs' : List RwB), StepOut W w' I B N k X12 X13 ra rn rs y na nn nc rs' → Q .normal ⟨#[.int .i64 N, .slice (some ⟨b, off, none⟩) nd cd, u2, u3, u4, .pointer (some ⟨I.m, 0, none⟩), u6, .slice ra rn rc, u8, .int .i64 j, .pointer (some ⟨X10, 0, none⟩), .slice na nn nc, .pointer (some ⟨X12, 0, none⟩), .pointer (some ⟨X13, 0, none⟩), .int .i64 f, .int .i64 f, t16, t17, t18, u19, u20, u21, u22, u23, u24, u25, u26, u27, u28, u29, u30, u31, u32, u33, u34, u35, u36, u37, u38, u39, u40, u41, u42, u43, u44, u45, u46, u47, u48, u49, u50, u51, u52, u53, u54, u55, u56, u57, u58, u59, u60, u61, u62, u63, u64, u65, u66, u67, u68, u69, u70, u71, u72, u73, u74, u75, u76, u77, u78, u79, u80, u81, u82, u83, u84, u85, u86, u87, u88, u89, u90, u91, u92, t93, t94, t95, t96, t97, t98, t99, t100, t101, t102, t103, t104, t105, t106, t107, t108, t109, t110, t111, t112, t113, t114, t115, t116, t117, t118, t119, t120, t121, t122, t123, t124, t125, t126, t127, t128, t129, t130, t131, t132, t133, t134, t135, t136, t137, t138, t139, t140, t141, t142, t143, t144, t145, t146, t147, t148, t149, t150, t151, t152, t153, t154, t155, t156, t157, t158, t159, t160, t161, t162, t163, t164, t165, t166, t167, t168, t169, t170, t171, t172, t173, t174, t175, t176, t177, t178, t179, t180, t181, t182, t183, t184, u185, u186, u187, u188, u189, u190, u191, u192, u193, u194, u195, u196, u197, u198, u199, u200, u201, u202, u203, u204, u205, u206, u207, u208, u209, u210, u211, u212, u213, u214, u215, u216, u217, u218, u219, u220, u221, u222, u223, u224, u225, u226, u227, u228, u229, u230, u231, u232, u233, u234, u235, u236, u237, u238, u239, u240, u241, u242], []⟩ w') : Code.wp Try.prog (unitOf 21 Try.f7) Q ⟨#[.int .i64 N, .slice (some ⟨b, off, none⟩) nd cd, u2, u3, u4, .pointer (some ⟨I.m, 0, none⟩), u6, .slice ra rn rc, u8, .int .i64 j, .pointer (some ⟨X10, 0, none⟩), .slice ra rn rc, .pointer (some ⟨X12, 0, none⟩), .pointer (some ⟨X13, 0, none⟩), .int .i64 0, .int .i64 0, u16, u17, u18, u19, u20, u21, u22, u23, u24, u25, u26, u27, u28, u29, u30, u31, u32, u33, u34, u35, u36, u37, u38, u39, u40, u41, u42, u43, u44, u45, u46, u47, u48, u49, u50, u51, u52, u53, u54, u55, u56, u57, u58, u59, u60, u61, u62, u63, u64, u65, u66, u67, u68, u69, u70, u71, u72, u73, u74, u75, u76, u77, u78, u79, u80, u81, u82, u83, u84, u85, u86, u87, u88, u89, u90, u91, u92, u93, u94, u95, u96, u97, u98, u99, u100, u101, u102, u103, u104, u105, u106, u107, u108, u109, u110, u111, u112, u113, u114, u115, u116, u117, u118, u119, u120, u121, u122, u123, u124, u125, u126, u127, u128, u129, u130, u131, u132, u133, u134, u135, u136, u137, u138, u139, u140, u141, u142, u143, u144, u145, u146, u147, u148, u149, u150, u151, u152, u153, u154, u155, u156, u157, u158, u159, u160, u161, u162, u163, u164, u165, u166, u167, u168, u169, u170, u171, u172, u173, u174, u175, u176, u177, u178, u179, u180, u181, u182, u183, u184, u185, u186, u187, u188, u189, u190, u191, u192, u193, u194, u195, u196, u197, u198, u199, u200, u201, u202, u203, u204, u205, u206, u207, u208, u209, u210, u211, u212, u213, u214, u215, u216, u217, u218, u219, u220, u221, u222, u223, u224, u225, u226, u227, u228, u229, u230, u231, u232, u233, u234, u235, u236, u237, u238, u239, u240, u241, u242], []⟩ W := by
  conv => arg 2; whnf
  have HH := Lib.hid h
  have HSG := Lib.hid hsg
  have HRW := Lib.hid hrw
  have H12 := Lib.hid y12
  have H13 := Lib.hid y13
  have H10 := Lib.hid y10
  have HX := Lib.hid hX
  have HXB := Lib.hid hXB
  have HCELL := Lib.hid hcell
  have HE := Lib.hid e0
  have HBY := Lib.hid hby
  have HDR := Lib.hid hdr
  have HDD := Lib.hid hdd
  have H12I : Hid (X12 ∉ I.all) := fun hm => by have := hXI _ hm; omega
  have H13I : Hid (X13 ∉ I.all) := fun hm => by have := hXI _ hm; omega
  have HFR : Hid (∀ z : World, Upd (I.all ++ [X12, X13]) W z → RowsAt z B ra rn rc rs) := fun z u => hrw.keep' u (fun h0 y hy hm => by
      rcases List.mem_append.1 hm with h1 | h1
      · have h2 := hrw.ab y hy; have h3 := hXI _ h1; omega
      · exact (hfar _ h1).1 h0 y hy rfl) (fun r hr h0 y hy hm => by
      rcases List.mem_append.1 hm with h1 | h1
      · have h2 := (hrw.oks r hr).2.2.2.2 y hy; have h3 := hXI _ h1; omega
      · exact (hfar _ h1).2 r hr h0 y hy rfl)
  have HLN : Hid (rs.length ≤ 300) := by unfold Hid; have := hrw.len; omega
  have HXI := Lib.hid hXI
  have HXO := Lib.hid hxo
  have c2 := hcell W (Upd.refl _ _)
  clear h hsg hrw y12 y13 y10 hXI hX hXB hfar hcell hby hdr hdd e0 hxo
  subst hkind
  obtain ⟨p, q, s⟩ := x
  have x0 := H10.out.cell (i := 0) rfl
  have x1 := H10.out.cell (i := 1) rfl
  have x2 := H10.out.cell (i := 2) rfl
  have h10I : X10 ∉ I.all := fun hm => by have h1 := HXI.out _ hm; have h2 := HXB.out.1; omega
  have H10I := Lib.hid h10I
  clear h10I
  by_cases hf : findE (Lof rs) (p, q, s) = -1
  · go_wp2_with fail
    have HGN := Lib.hid (gGetNo HSG.out p q s HXO.out (findE_none hf))
    refine HGN.out.mono ?_
    clear x0 x1 x2 c2 HGN
    rintro e w1 ⟨rfl, hg, ku⟩
    have HG1 := Lib.hid hg
    have HU1 : Hid (Upd (I.all ++ [X12, X13]) W w1) := ku.mono (by simp; exact fun a ha => .inl ha)
    have H10 := Lib.hid (H10.out.keep ku H10I.out)
    have H12 := Lib.hid (H12.out.keep ku H12I.out)
    have H13 := Lib.hid (H13.out.keep ku H13I.out)
    have HF := Lib.hid hf
    clear hg ku hf
    have x0 := H10.out.cell (i := 0) rfl
    have x1 := H10.out.cell (i := 1) rfl
    have x2 := H10.out.cell (i := 2) rfl
    have HFI := Lib.hid (r_Find (HFR.out w1 HU1.out) (by omega) (p, q, s))
    unfold exV at HFI
    go_wp2_with fail
    refine HFI.out.mono ?_
    clear HFI x0 x1 x2
    rintro e w2 ⟨rfl, hb⟩
    rw [HF.out]
    have HG2 := Lib.hid (HG1.out.below hb)
    have HU2 := Lib.hid (HU1.out.trans (.of_below hb))
    have H12 := Lib.hid (H12.out.keep (l := []) (.of_below hb) (by simp))
    have H13 := Lib.hid (H13.out.keep (l := []) (.of_below hb) (by simp))
    clear hb
    go_wp2_with fail
    exact HH.out _ _ _ _ _ _ _ _ _ _ _ _ _ _ _ _ _ _ _ _ _ _ _ _ _ _ _ _ _ _ _ _ _ _ _ _ _ _ _ _ _ _ _ _ _ _ _ _ _ _ _ _ _ _ _ _ _ _ _ _ _ _ _ _ _ _ _ _ _ _ _ _ _ _ _ _ _ _ _ _ _ _ _ _ _ _ _ _ _ _ _ _ _ _ _  w2 (0, 0, 0) 4 ra rn rc rs ⟨HG2.out.mono (Nat.le_succ _), HFR.out _ HU2.out, H12.out, H13.out, HU2.out, ok_zero, (.inl ⟨rfl, rfl⟩), fun r hr => .inl hr⟩
  · obtain ⟨kk, hkk, hf2, hxe⟩ := findE_some hf
    have hk2 : kk < rs.length := by simpa [Lof] using hkk
    obtain ⟨rk, hrk⟩ : ∃ z, z = rs[kk] := ⟨_, rfl⟩
    have hmem : rk ∈ rs := by rw [hrk]; exact List.getElem_mem hk2
    have hml : rk.x ∈ Lof rs := List.mem_map.2 ⟨rk, hmem, rfl⟩
    have hxy : ((p, q, s) : Ext) = rE rk.x := by rw [hxe, hrk]; simp [Lof]
    simp only [rE, Prod.mk.injEq] at hxy
    obtain ⟨rfl, rfl, rfl⟩ := hxy
    have HRK := Lib.hid hrk
    have HMEM := Lib.hid hmem
    have HF := Lib.hid hf2
    have hln := HRW.out.len
    have hkn : kk < rn := by omega
    have HGE := Lib.hid (gGet HSG.out hN (by omega) hml)
    unfold exA at HGE
    clear hf hf2 hxe hkk hrk hmem hml hln
    go_wp2_with fail
    refine HGE.out.mono ?_
    clear x0 x1 x2 c2 HGE
    rintro e w1 ⟨ga, gc, rfl, hgr, hgb, hg, ku⟩
    have HG1 := Lib.hid hg
    have HGR := Lib.hid hgr
    have HU1 : Hid (Upd (I.all ++ [X12, X13]) W w1) := ku.mono (by simp; exact fun a ha => .inl ha)
    have H10 := Lib.hid (H10.out.keep ku H10I.out)
    have H12 := Lib.hid (H12.out.keep ku H12I.out)
    have H13 := Lib.hid (H13.out.keep ku H13I.out)
    clear hg ku hgr hgb
    have x0 := H10.out.cell (i := 0) rfl
    have x1 := H10.out.cell (i := 1) rfl
    have x2 := H10.out.cell (i := 2) rfl
    have HFI := Lib.hid (r_Find (HFR.out w1 HU1.out) (by omega) ((rk.x.1 : Int), (rN rk.x : Int), (rk.x.2.length : Int)))
    unfold exV at HFI
    go_wp2_with fail
    refine HFI.out.mono ?_
    clear HFI x0 x1 x2
    rintro e w2 ⟨rfl, hb⟩
    rw [HF.out]
    have HG2 := Lib.hid (HG1.out.below hb)
    have HU2 := Lib.hid (HU1.out.trans (.of_below hb))
    have HGR := Lib.hid (HGR.out.below hb)
    have H12 := Lib.hid (H12.out.keep (l := []) (.of_below hb) (by simp))
    have H13 := Lib.hid (H13.out.keep (l := []) (.of_below hb) (by simp))
    clear hb
    have hrw2 := HFR.out w2 HU2.out
    obtain ⟨rb, ro, hra, -, -, -, -, c3⟩ := row_cells hrw2 hk2
    have hokk := hrw2.oks rk HMEM.out
    rw [← HRK.out] at c3
    have HOKK := Lib.hid hokk
    subst hra
    clear hrw2 hokk
    go_wp2_with fail
    have hSM := c_Same ga rk.a _ rk.n gc rk.c rk.x.2 rk.x.2 _ rfl HOKK.out.1 HGR.out HOKK.out.2.2.1 HOKK.out.2.2.2.1 HOKK.out.2.2.2.1
    rw [show decide (rk.x.2 = rk.x.2) = true from decide_eq_true rfl] at hSM
    refine hSM.mono ?_
    clear hSM
    rintro e w' ⟨rfl, rfl⟩
    go_wp2_with fail
    exact HH.out _ _ _ _ _ _ _ _ _ _ _ _ _ _ _ _ _ _ _ _ _ _ _ _ _ _ _ _ _ _ _ _ _ _ _ _ _ _ _ _ _ _ _ _ _ _ _ _ _ _ _ _ _ _ _ _ _ _ _ _ _ _ _ _ _ _ _ _ _ _ _ _ _ _ _ _ _ _ _ _ _ _ _ _ _ _ _ _ _ _ _ _ _ _ _  w2 (0, 0, 0) 0 _ rn rc rs ⟨HG2.out, HFR.out _ HU2.out, H12.out, H13.out, HU2.out, ok_zero, (.inl ⟨rfl, rfl⟩), fun r hr => .inl hr⟩

end Go.Proofs.Ytpbokmmobepolaa
