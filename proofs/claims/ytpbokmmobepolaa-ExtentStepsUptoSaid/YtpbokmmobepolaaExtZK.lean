/-
  Units of the round of ExtentSteps. (Written by exsteps.py.)
-/
import Derived.Test.YtpbokmmobepolaaExtZJ
namespace Go.Proofs.Ytpbokmmobepolaa
open Go.RowKit Go.Maps
set_option linter.unusedVariables false
set_option maxHeartbeats 8000000
set_option maxRecDepth 100000

/-- What a step leaves. -/
structure StepOut (W w' : World) (I : SpI) (B N k X12 X13 : Nat) (ra : Option Addr) (rn : Nat) (rs : List RwB) (y : Ext) (na : Option Addr) (nn nc : Nat) (rs' : List RwB) : Prop where
  sg : SG w' I (Lof rs') N (k + 1)
  rows : RowsAt w' B na nn nc rs'
  y12 : Row w' X12 34 (exC y)
  y13 : Row w' X13 34 (exC y)
  upd : Upd (I.all ++ [X12, X13]) W w'
  ok : exOk y
  fa : (na = ra ∧ nn = rn) ∨ ∀ z, na = some z → W.heap.size ≤ z.block
  fr : ∀ r ∈ rs', r ∈ rs ∨ ∀ z, r.a = some z → W.heap.size ≤ z.block

theorem SG.fit300 {w : World} {I : SpI} {L : List Rw4} {N k : Nat} (h : SG w I L N k) (hN : N ≤ 300) : ∀ x ∈ L, x.1 + rN x ≤ 300 := fun x hx => by have := h.fit x hx; omega
theorem lof_snoc (rs : List RwB) (r : RwB) : Lof (rs ++ [r]) = Lof rs ++ [r.x] := by simp [Lof]
theorem ok_zero : exOk (0, 0, 0) := ⟨rfl, rfl, rfl⟩

theorem uput {Q : Exit → Act → World → Prop} {W : World} {I : SpI} {N k B b off nd cd j rn rc X10 X12 X13 dn dc : Nat} {ra da : Option Addr} {rs : List RwB} {kind : Int} {d : List Int} {x : Ext} {u2 u3 u4 u6 u8 u16 u17 u18 u19 u20 u21 u22 u23 u24 u25 u26 u27 u28 u29 u30 u31 u32 u33 u34 u35 u36 u37 u38 u39 u40 u41 u42 u43 u44 u45 u46 u47 u48 u49 u50 u51 u52 u53 u54 u55 u56 u57 u58 u59 u60 u61 u62 u63 u64 u65 u66 u67 u68 u69 u70 u71 u72 u73 u74 u75 u76 u77 u78 u79 u80 u81 u82 u83 u84 u85 u86 u87 u88 u89 u90 u91 u92 u93 u94 u95 u96 u97 u98 u99 u100 u101 u102 u103 u104 u105 u106 u107 u108 u109 u110 u111 u112 u113 u114 u115 u116 u117 u118 u119 u120 u121 u122 u123 u124 u125 u126 u127 u128 u129 u130 u131 u132 u133 u134 u135 u136 u137 u138 u139 u140 u141 u142 u143 u144 u145 u146 u147 u148 u149 u150 u151 u152 u153 u154 u155 u156 u157 u158 u159 u160 u161 u162 u163 u164 u165 u166 u167 u168 u169 u170 u171 u172 u173 u174 u175 u176 u177 u178 u179 u180 u181 u182 u183 u184 u185 u186 u187 u188 u189 u190 u191 u192 u193 u194 u195 u196 u197 u198 u199 u200 u201 u202 u203 u204 u205 u206 u207 u208 u209 u210 u211 u212 u213 u214 u215 u216 u217 u218 u219 u220 u221 u222 u223 u224 u225 u226 u227 u228 u229 u230 u231 u232 u233 u234 u235 u236 u237 u238 u239 u240 u241 u242 : Value}
    (hN : N ≤ 300) (hk : k ≤ 1000) (hrn : rn ≤ 300) (hj : j < nd) (hB : B ≤ W.heap.size) (hsg : SG W I (Lof rs) N k) (hrw : RowsAt W B ra rn rc rs) (y12 : Row W X12 34 [.int .i64 0, .int .i64 0, .int .i64 0]) (y13 : Row W X13 34 [.int .i64 0, .int .i64 0, .int .i64 0]) (y10 : Row W X10 34 (exC x))
    (hXI : ∀ j ∈ I.all, j < B) (hX : X10 ≠ X12 ∧ X10 ≠ X13 ∧ X12 ≠ X13) (hXB : B ≤ X10 ∧ B ≤ X12 ∧ B ≤ X13) (hfar : ∀ q ∈ [X12, X13], (0 < rn → ∀ y, ra = some y → y.block ≠ q) ∧ ∀ r ∈ rs, 0 < r.n → ∀ y, r.a = some y → y.block ≠ q)
    (hkc : W.cell? ⟨b, off + j * 3, none⟩ = some (.int .i64 kind)) (hcell : ∀ w', Upd (I.all ++ [X12, X13]) W w' → w'.cell? ⟨b, off + j * 3 + 2, none⟩ = some (.slice da dn dc)) (e0 : dn = d.length) (hdn : dn ≤ 100000) (hby : Byt d) (hcap : dn ≤ dc)
    (hdr : ∀ w', Upd (I.all ++ [X12, X13]) W w' → Reads w' da dc (d.map (Value.int .u8))) (hdd : 0 < dn → ∀ y, da = some y → y.block ∉ I.all) (hxo : exOk x) (hkind : kind = 1)
    (h : ∀ (t16 t17 t18 t93 t94 t95 t96 t97 t98 t99 t100 t101 t102 t103 t104 t105 t106 t107 t108 t109 t110 t111 t112 t113 t114 t115 t116 t117 t118 t119 t120 t121 t122 t123 t124 t125 t126 t127 t128 t129 t130 t131 t132 t133 t134 t135 t136 t137 t138 t139 t140 t141 t142 t143 t144 t145 t146 t147 t148 t149 t150 t151 t152 t153 t154 t155 t156 t157 t158 t159 t160 t161 t162 t163 t164 t165 t166 t167 t168 t169 t170 t171 t172 t173 t174 t175 t176 t177 t178 t179 t180 t181 t182 t183 t184 : Value) (w' : World) (y : Ext) (f : Int) (na : Option Addr) (nn nc : Nat) (rs' : List RwB), StepOut W w' I B N k X12 X13 ra rn rs y na nn nc rs' → Q .normal ⟨#[.int .i64 N, .slice (some ⟨b, off, none⟩) nd cd, u2, u3, u4, .pointer (some ⟨I.m, 0, none⟩), u6, .slice ra rn rc, u8, .int .i64 j, .pointer (some ⟨X10, 0, none⟩), .slice na nn nc, .pointer (some ⟨X12, 0, none⟩), .pointer (some ⟨X13, 0, none⟩), .int .i64 f, .int .i64 f, t16, t17, t18, u19, u20, u21, u22, u23, u24, u25, u26, u27, u28, u29, u30, u31, u32, u33, u34, u35, u36, u37, u38, u39, u40, u41, u42, u43, u44, u45, u46, u47, u48, u49, u50, u51, u52, u53, u54, u55, u56, u57, u58, u59, u60, u61, u62, u63, u64, u65, u66, u67, u68, u69, u70, u71, u72, u73, u74, u75, u76, u77, u78, u79, u80, u81, u82, u83, u84, u85, u86, u87, u88, u89, u90, u91, u92, t93, t94, t95, t96, t97, t98, t99, t100, t101, t102, t103, t104, t105, t106, t107, t108, t109, t110, t111, t112, t113, t114, t115, t116, t117, t118, t119, t120, t121, t122, t123, t124, t125, t126, t127, t128, t129, t130, t131, t132, t133, t134, t135, t136, t137, t138, t139, t140, t141, t142, t143, t144, t145, t146, t147, t148, t149, t150, t151, t152, t153, t154, t155, t156, t157, t158, t159, t160, t161, t162, t163, t164, t165, t166, t167, t168, t169, t170, t171, t172, t173, t174, t175, t176, t177, t178, t179, t180, t181, t182, t183, t184, u185, u186, u187, u188, u189, u190, u191, u192, u193, u194, u195, u196, u197, u198, u199, u200, u201, u202, u203, u204, u205, u206, u207, u208, u209, u210, u211, u212, u213, u214, u215, u216, u217, u218, u219, u220, u221, u222, u223, u224, u225, u226, u227, u228, u229, u230, u231, u232, u233, u234, u235, u236, u237, u238, u239, u240, u241, u242], []⟩ w') : Code.wp Try.prog (unitOf 21 Try.f7) Q ⟨#[.int .i64 N, .slice (some ⟨b, off, none⟩) nd cd, u2, u3, u4, .pointer (some ⟨I.m, 0, none⟩), u6, .slice ra rn rc, u8, .int .i64 j, .pointer (some ⟨X10, 0, none⟩), .slice ra rn rc, .pointer (some ⟨X12, 0, none⟩), .pointer (some ⟨X13, 0, none⟩), .int .i64 0, .int .i64 0, u16, u17, u18, u19, u20, u21, u22, u23, u24, u25, u26, u27, u28, u29, u30, u31, u32, u33, u34, u35, u36, u37, u38, u39, u40, u41, u42, u43, u44, u45, u46, u47, u48, u49, u50, u51, u52, u53, u54, u55, u56, u57, u58, u59, u60, u61, u62, u63, u64, u65, u66, u67, u68, u69, u70, u71, u72, u73, u74, u75, u76, u77, u78, u79, u80, u81, u82, u83, u84, u85, u86, u87, u88, u89, u90, u91, u92, u93, u94, u95, u96, u97, u98, u99, u100, u101, u102, u103, u104, u105, u106, u107, u108, u109, u110, u111, u112, u113, u114, u115, u116, u117, u118, u119, u120, u121, u122, u123, u124, u125, u126, u127, u128, u129, u130, u131, u132, u133, u134, u135, u136, u137, u138, u139, u140, u141, u142, u143, u144, u145, u146, u147, u148, u149, u150, u151, u152, u153, u154, u155, u156, u157, u158, u159, u160, u161, u162, u163, u164, u165, u166, u167, u168, u169, u170, u171, u172, u173, u174, u175, u176, u177, u178, u179, u180, u181, u182, u183, u184, u185, u186, u187, u188, u189, u190, u191, u192, u193, u194, u195, u196, u197, u198, u199, u200, u201, u202, u203, u204, u205, u206, u207, u208, u209, u210, u211, u212, u213, u214, u215, u216, u217, u218, u219, u220, u221, u222, u223, u224, u225, u226, u227, u228, u229, u230, u231, u232, u233, u234, u235, u236, u237, u238, u239, u240, u241, u242], []⟩ W := by
  conv => arg 2; whnf
  have HH := Lib.hid h
  have HSG := Lib.hid hsg
  have HRW := Lib.hid hrw
  have H12 := Lib.hid y12
  have H13 := Lib.hid y13
  have H10 := Lib.hid y10
  have HX := Lib.hid hX
  have HXB := Lib.hid hXB
  have HCELL := Lib.hid hcell
  have HE := Lib.hid e0
  have HBY := Lib.hid hby
  have HDR := Lib.hid hdr
  have HDD := Lib.hid hdd
  have H12I : Hid (X12 ∉ I.all) := fun hm => by have := hXI _ hm; omega
  have H13I : Hid (X13 ∉ I.all) := fun hm => by have := hXI _ hm; omega
  have HFR : Hid (∀ z : World, Upd (I.all ++ [X12, X13]) W z → RowsAt z B ra rn rc rs) := fun z u => hrw.keep' u (fun h0 y hy hm => by
      rcases List.mem_append.1 hm with h1 | h1
      · have h2 := hrw.ab y hy; have h3 := hXI _ h1; omega
      · exact (hfar _ h1).1 h0 y hy rfl) (fun r hr h0 y hy hm => by
      rcases List.mem_append.1 hm with h1 | h1
      · have h2 := (hrw.oks r hr).2.2.2.2 y hy; have h3 := hXI _ h1; omega
      · exact (hfar _ h1).2 r hr h0 y hy rfl)
  have HLN : Hid (rs.length ≤ 300) := by unfold Hid; have := hrw.len; omega
  have HXI := Lib.hid hXI
  have HXO := Lib.hid hxo
  have c2 := hcell W (Upd.refl _ _)
  clear h hsg hrw y12 y13 y10 hXI hX hXB hfar hcell hby hdr hdd e0 hxo
  subst hkind
  go_wp2_with fail
  refine (gPut HSG.out hN (by omega) d da dn dc HE.out (by omega) HBY.out (HDR.out W (Upd.refl _ _)) hcap HDD.out).mono ?_
  clear c2
  rintro e w1 (⟨hf, rfl, hg, ku⟩ | ⟨F, hf, rfl, hg, ku⟩)
  · have HF := Lib.hid hf
    have HG1 := Lib.hid hg
    have HU1 : Hid (Upd (I.all ++ [X12, X13]) W w1) := ku.mono (by simp; exact fun a ha => .inl ha)
    have HZ12 := Lib.hid (H12.out.keep ku H12I.out)
    have HZ13 := Lib.hid (H13.out.keep ku H13I.out)
    clear hf hg ku
    unfold exA
    have qf0 := HZ12.out.free 0
    have qf1 := HZ12.out.free 1
    have qf2 := HZ12.out.free 2
    have qy0 := HZ12.out.cell (i := 0) rfl
    have qy1 := HZ12.out.cell (i := 1) rfl
    have qy2 := HZ12.out.cell (i := 2) rfl
    have hraw : Upd (I.all ++ [X12, X13]) W (((w1.setCell ⟨X12, 0, none⟩ (.int .i64 0)).setCell ⟨X12, 1, none⟩ (.int .i64 0)).setCell ⟨X12, 2, none⟩ (.int .i64 0)) := HU1.out.trans (((((Upd.refl [X12] w1).setCell (by simp) _).setCell (by simp) _).setCell (by simp) _).mono (by simp))
    have kc2 := HCELL.out _ hraw
    go_wp2_with fail
    obtain ⟨w2, hw2⟩ : ∃ z, z = ((w1.setCell ⟨X12, 0, none⟩ (.int .i64 0)).setCell ⟨X12, 1, none⟩ (.int .i64 0)).setCell ⟨X12, 2, none⟩ (.int .i64 0) := ⟨_, rfl⟩
    have rw2 : Row w2 X12 34 [.int .i64 0, .int .i64 0, .int .i64 0] := by rw [hw2]; exact (((HZ12.out.set 0 _).set 1 _).set 2 _)
    have uw2 : Upd [X12] w1 w2 := by rw [hw2]; exact ((((Upd.refl [X12] w1).setCell (by simp) _).setCell (by simp) _).setCell (by simp) _)
    clear qf0 qy0 qf1 qy1 qf2 qy2
    rw [← hw2] at hraw kc2 ⊢
    clear hw2
    have HG2 := Lib.hid (HG1.out.keep uw2 (fun q hq hm => by simp at hm; subst hm; exact H12I.out hq))
    have HU2 := Lib.hid hraw
    have HR12 := Lib.hid rw2
    have HR13 := Lib.hid (HZ13.out.keep uw2 (by have := HX.out.2.2; simp; omega))
    have HP := Lib.hid (r_Put (HFR.out w2 hraw) hrn N hN (HSG.out.fit300 hN) d da dn dc HE.out hdn HBY.out (HDR.out w2 hraw) hcap)
    clear hraw rw2 uw2 kc2 HZ12 HZ13 HG1 HU1
    refine HP.out.mono ?_
    clear HP
    rintro e w3 ⟨hb3, ⟨ho, rfl⟩ | ⟨G, v, r, ho, hrx, rfl, hov, hok⟩⟩
    rotate_left
    · have := first_uniq (secs_pos _) HF.out ho
      cases this
    have HG3 := Lib.hid (HG2.out.below hb3)
    have HU3 := Lib.hid (HU2.out.trans (.of_below hb3))
    have HS3 := Lib.hid (And.intro HU2.out.size hb3.size)
    have HR12 := Lib.hid (HR12.out.keep (l := []) (.of_below hb3) (by simp))
    have HLT13 := Lib.hid HR13.out.lt
    have HR13 := Lib.hid (HR13.out.keep (l := []) (.of_below hb3) (by simp))
    clear hb3 ho
    unfold exA
    have qf0 := HR13.out.free 0
    have qf1 := HR13.out.free 1
    have qf2 := HR13.out.free 2
    have qy0 := HR13.out.cell (i := 0) rfl
    have qy1 := HR13.out.cell (i := 1) rfl
    have qy2 := HR13.out.cell (i := 2) rfl
    go_wp2_with fail
    obtain ⟨w4, hw4⟩ : ∃ z, z = ((w3.setCell ⟨X13, 0, none⟩ (.int .i64 0)).setCell ⟨X13, 1, none⟩ (.int .i64 0)).setCell ⟨X13, 2, none⟩ (.int .i64 0) := ⟨_, rfl⟩
    have rw4 : Row w4 X13 34 [.int .i64 0, .int .i64 0, .int .i64 0] := by rw [hw4]; exact (((HR13.out.set 0 _).set 1 _).set 2 _)
    have uw4 : Upd [X13] w3 w4 := by rw [hw4]; exact ((((Upd.refl [X13] w3).setCell (by simp) _).setCell (by simp) _).setCell (by simp) _)
    clear qf0 qy0 qf1 qy1 qf2 qy2
    rw [← hw4]
    clear hw4
    have HG4 := Lib.hid (HG3.out.keep uw4 (fun q hq hm => by simp at hm; subst hm; exact H13I.out hq))
    have HU4 : Hid (Upd (I.all ++ [X12, X13]) W w4) := HU3.out.trans (uw4.mono (by simp))
    have HR12 := Lib.hid (HR12.out.keep uw4 (by have := HX.out.2.2; simp; omega))
    have HUW := Lib.hid uw4
    have HR13 := Lib.hid rw4
    clear uw4 rw4 HG3 HU3
    go_wp2_with fail
    exact HH.out _ _ _ _ _ _ _ _ _ _ _ _ _ _ _ _ _ _ _ _ _ _ _ _ _ _ _ _ _ _ _ _ _ _ _ _ _ _ _ _ _ _ _ _ _ _ _ _ _ _ _ _ _ _ _ _ _ _ _ _ _ _ _ _ _ _ _ _ _ _ _ _ _ _ _ _ _ _ _ _ _ _ _ _ _ _ _ _ _ _ _ _ _ _ _  w4 (0, 0, 0) 3 ra rn rc rs ⟨HG4.out.mono (Nat.le_succ _), HFR.out _ HU4.out, HR12.out, HR13.out, HU4.out, ok_zero, (.inl ⟨rfl, rfl⟩), fun r hr => .inl hr⟩
  · rw [← HE.out]
    have HF := Lib.hid hf
    have HG1 := Lib.hid hg
    have HU1 : Hid (Upd (I.all ++ [X12, X13]) W w1) := ku.mono (by simp; exact fun a ha => .inl ha)
    have HZ12 := Lib.hid (H12.out.keep ku H12I.out)
    have HZ13 := Lib.hid (H13.out.keep ku H13I.out)
    clear hf hg ku
    unfold exA
    have qf0 := HZ12.out.free 0
    have qf1 := HZ12.out.free 1
    have qf2 := HZ12.out.free 2
    have qy0 := HZ12.out.cell (i := 0) rfl
    have qy1 := HZ12.out.cell (i := 1) rfl
    have qy2 := HZ12.out.cell (i := 2) rfl
    have hraw : Upd (I.all ++ [X12, X13]) W (((w1.setCell ⟨X12, 0, none⟩ (.int .i64 F)).setCell ⟨X12, 1, none⟩ (.int .i64 (secs dn : Nat))).setCell ⟨X12, 2, none⟩ (.int .i64 dn)) := HU1.out.trans (((((Upd.refl [X12] w1).setCell (by simp) _).setCell (by simp) _).setCell (by simp) _).mono (by simp))
    have kc2 := HCELL.out _ hraw
    go_wp2_with fail
    obtain ⟨w2, hw2⟩ : ∃ z, z = ((w1.setCell ⟨X12, 0, none⟩ (.int .i64 F)).setCell ⟨X12, 1, none⟩ (.int .i64 (secs dn : Nat))).setCell ⟨X12, 2, none⟩ (.int .i64 dn) := ⟨_, rfl⟩
    have rw2 : Row w2 X12 34 [.int .i64 F, .int .i64 (secs dn : Nat), .int .i64 dn] := by rw [hw2]; exact (((HZ12.out.set 0 _).set 1 _).set 2 _)
    have uw2 : Upd [X12] w1 w2 := by rw [hw2]; exact ((((Upd.refl [X12] w1).setCell (by simp) _).setCell (by simp) _).setCell (by simp) _)
    clear qf0 qy0 qf1 qy1 qf2 qy2
    rw [← hw2] at hraw kc2 ⊢
    clear hw2
    have HG2 := Lib.hid (HG1.out.keep uw2 (fun q hq hm => by simp at hm; subst hm; exact H12I.out hq))
    have HU2 := Lib.hid hraw
    have HR12 := Lib.hid rw2
    have HR13 := Lib.hid (HZ13.out.keep uw2 (by have := HX.out.2.2; simp; omega))
    have HP := Lib.hid (r_Put (HFR.out w2 hraw) hrn N hN (HSG.out.fit300 hN) d da dn dc HE.out hdn HBY.out (HDR.out w2 hraw) hcap)
    clear hraw rw2 uw2 kc2 HZ12 HZ13 HG1 HU1
    refine HP.out.mono ?_
    clear HP
    rintro e w3 ⟨hb3, ⟨ho, rfl⟩ | ⟨G, v, r, ho, hrx, rfl, hov, hok⟩⟩
    · have := first_uniq (secs_pos _) HF.out ho
      cases this
    have hfg := first_uniq (secs_pos _) HF.out ho
    cases hfg
    have hovk := hov
    rw [← HE.out]
    have HOV := Lib.hid hov
    have HOK := Lib.hid hok
    have HRX := Lib.hid hrx
    clear hov hok hrx hovk
    obtain ⟨na, nc, rfl, -⟩ := owns_rows HOV.out
    have HG3 := Lib.hid (HG2.out.below hb3)
    have HU3 := Lib.hid (HU2.out.trans (.of_below hb3))
    have HS3 := Lib.hid (And.intro HU2.out.size hb3.size)
    have HR12 := Lib.hid (HR12.out.keep (l := []) (.of_below hb3) (by simp))
    have HLT13 := Lib.hid HR13.out.lt
    have HR13 := Lib.hid (HR13.out.keep (l := []) (.of_below hb3) (by simp))
    clear hb3 ho
    unfold exA
    have qf0 := HR13.out.free 0
    have qf1 := HR13.out.free 1
    have qf2 := HR13.out.free 2
    have qy0 := HR13.out.cell (i := 0) rfl
    have qy1 := HR13.out.cell (i := 1) rfl
    have qy2 := HR13.out.cell (i := 2) rfl
    go_wp2_with fail
    obtain ⟨w4, hw4⟩ : ∃ z, z = ((w3.setCell ⟨X13, 0, none⟩ (.int .i64 F)).setCell ⟨X13, 1, none⟩ (.int .i64 (secs dn : Nat))).setCell ⟨X13, 2, none⟩ (.int .i64 dn) := ⟨_, rfl⟩
    have rw4 : Row w4 X13 34 [.int .i64 F, .int .i64 (secs dn : Nat), .int .i64 dn] := by rw [hw4]; exact (((HR13.out.set 0 _).set 1 _).set 2 _)
    have uw4 : Upd [X13] w3 w4 := by rw [hw4]; exact ((((Upd.refl [X13] w3).setCell (by simp) _).setCell (by simp) _).setCell (by simp) _)
    clear qf0 qy0 qf1 qy1 qf2 qy2
    rw [← hw4]
    clear hw4
    have HG4 := Lib.hid (HG3.out.keep uw4 (fun q hq hm => by simp at hm; subst hm; exact H13I.out hq))
    have HU4 : Hid (Upd (I.all ++ [X12, X13]) W w4) := HU3.out.trans (uw4.mono (by simp))
    have HR12 := Lib.hid (HR12.out.keep uw4 (by have := HX.out.2.2; simp; omega))
    have HUW := Lib.hid uw4
    have HR13 := Lib.hid rw4
    clear uw4 rw4 HG3 HU3
    go_wp2_with fail
    have hok4 : r.ok w4 w2.heap.size := HOK.out.keep HUW.out (fun q hq => by have := HLT13.out; simp at hq; omega)
    have hoks : ∀ q ∈ rs ++ [r], q.ok w4 B := fun q hq => by
      rcases List.mem_append.1 hq with h1 | h1
      · exact (HFR.out _ HU4.out).oks q h1
      · rw [List.mem_singleton] at h1
        subst h1
        exact ⟨hok4.1, hok4.2.1, hok4.2.2.1, hok4.2.2.2.1, fun y hy => Nat.le_trans (Nat.le_trans hB HS3.out.1) (hok4.2.2.2.2 y hy)⟩
    have hov4 := HUW.out.owns HOV.out (fun q hq hm => by have h1 := (HOV.out.lt q hq).1; have h2 := HLT13.out; simp at hm; omega)
    obtain ⟨na', nc', hv, hrow, hnew⟩ := rows_made hov4 (Nat.le_trans hB HS3.out.1) hoks
    cases hv
    have hsg4 : SG w4 I (Lof (rs ++ [r])) N (k + 1) := by rw [lof_snoc, HRX.out]; exact HG4.out
    have hxk : exOk ((F : Int), ((secs dn : Nat) : Int), (dn : Int)) := exOk_nat (by have := HF.out.1; omega) (by have := secs_le dn; omega) (by omega)
    have hle : ∀ z, na = some z → W.heap.size ≤ z.block := fun z hz => Nat.le_trans HS3.out.1 (hnew z hz)
    simp only [List.length_append, List.length_singleton] at hrow ⊢
    exact HH.out _ _ _ _ _ _ _ _ _ _ _ _ _ _ _ _ _ _ _ _ _ _ _ _ _ _ _ _ _ _ _ _ _ _ _ _ _ _ _ _ _ _ _ _ _ _ _ _ _ _ _ _ _ _ _ _ _ _ _ _ _ _ _ _ _ _ _ _ _ _ _ _ _ _ _ _ _ _ _ _ _ _ _ _ _ _ _ _ _ _ _ _ _ _ _  w4 (F, (secs dn : Nat), dn) 0 na (rs.length + 1) nc (rs ++ [r]) ⟨hsg4, hrow, HR12.out, HR13.out, HU4.out, hxk, (.inr hle), fun q hq => (List.mem_append.1 hq).imp id (fun h1 => by rw [List.mem_singleton] at h1; subst h1; exact fun z hz => Nat.le_trans HS3.out.1 (hok4.2.2.2.2 z hz))⟩

end Go.Proofs.Ytpbokmmobepolaa
