/-
  Units of the round of ExtentSteps. (Written by exsteps.py.)
-/
import Derived.Test.YtpbokmmobepolaaExtZI
namespace Go.Proofs.Ytpbokmmobepolaa
open Go.RowKit Go.Maps
set_option linter.unusedVariables false
set_option maxHeartbeats 8000000
set_option maxRecDepth 100000

theorem unit38 {Q : Exit → Act → World → Prop} {W : World} {I : SpI} {N k B nn nc tn tc X12 X13 : Nat} {na ta : Option Addr} {rs : List RwB} {T : List Ext} {f : Int} {y : Ext} {u0 u1 u2 u3 u4 u6 u7 u9 u10 u16 u17 u18 u19 u20 u21 u22 u23 u24 u25 u26 u27 u28 u29 u30 u31 u32 u33 u34 u35 u36 u37 u38 u39 u40 u41 u42 u43 u44 u45 u46 u47 u48 u49 u50 u51 u52 u53 u54 u55 u56 u57 u58 u59 u60 u61 u62 u63 u64 u65 u66 u67 u68 u69 u70 u71 u72 u73 u74 u75 u76 u77 u78 u79 u80 u81 u82 u83 u84 u85 u86 u87 u88 u89 u90 u91 u92 u93 u94 u95 u96 u97 u98 u99 u100 u101 u102 u103 u104 u105 u106 u107 u108 u109 u110 u111 u112 u113 u114 u115 u116 u117 u118 u119 u120 u121 u122 u123 u124 u125 u126 u127 u128 u129 u130 u131 u132 u133 u134 u135 u136 u137 u138 u139 u140 u141 u142 u143 u144 u145 u146 u147 u148 u149 u150 u151 u152 u153 u154 u155 u156 u157 u158 u159 u160 u161 u162 u163 u164 u165 u166 u167 u168 u169 u170 u171 u172 u173 u174 u175 u176 u177 u178 u179 u180 u181 u182 u183 u184 u185 u186 u187 u188 u189 u190 u191 u192 u193 u194 u195 u196 u197 u198 u199 u200 u201 u202 u203 u204 u205 u206 u207 u208 u209 u210 u211 u212 u213 u214 u215 u216 u217 u218 u219 u220 u221 u222 u223 u224 u225 u226 u227 u228 u229 u230 u231 u232 u233 u234 u235 u236 u237 u238 u239 u240 u241 u242 : Value}
    (hN : N ≤ 300) (hnn : nn ≤ 1000) (htl : tn ≤ 1000) (hB : B ≤ W.heap.size) (hsg : SG W I (Lof rs) N k) (hrw : RowsAt W B na nn nc rs) (y12 : Row W X12 34 (exC y)) (y13 : Row W X13 34 (exC y)) (ho : W.ownsRow B 34 3 (.slice ta tn tc) tn (flatE T))
    (h : ∀ (t185 t186 t187 t188 t189 t190 t191 t192 t193 t194 t195 t196 t197 t198 t199 t200 t201 t202 t203 t204 t205 t206 t207 : Value) (w' : World) (v8 : Value), ((y.2.1 ≤ 0 ∧ w' = W ∧ v8 = .slice ta tn tc) ∨ (0 < y.2.1 ∧ w'.ownsRow B 34 3 v8 (tn + 1) (flatE (T ++ [y])) ∧ Upd (Value.slice ta tn tc).ownBlock.toList W w' ∧ ∀ k, v8.ownBlock = some k → (Value.slice ta tn tc).ownBlock = some k ∨ W.heap.size ≤ k)) → Q .normal ⟨#[u0, u1, u2, u3, u4, .pointer (some ⟨I.m, 0, none⟩), u6, .slice na nn nc, v8, u9, u10, .slice na nn nc, .pointer (some ⟨X12, 0, none⟩), .pointer (some ⟨X13, 0, none⟩), .int .i64 f, .int .i64 f, u16, u17, u18, u19, u20, u21, u22, u23, u24, u25, u26, u27, u28, u29, u30, u31, u32, u33, u34, u35, u36, u37, u38, u39, u40, u41, u42, u43, u44, u45, u46, u47, u48, u49, u50, u51, u52, u53, u54, u55, u56, u57, u58, u59, u60, u61, u62, u63, u64, u65, u66, u67, u68, u69, u70, u71, u72, u73, u74, u75, u76, u77, u78, u79, u80, u81, u82, u83, u84, u85, u86, u87, u88, u89, u90, u91, u92, u93, u94, u95, u96, u97, u98, u99, u100, u101, u102, u103, u104, u105, u106, u107, u108, u109, u110, u111, u112, u113, u114, u115, u116, u117, u118, u119, u120, u121, u122, u123, u124, u125, u126, u127, u128, u129, u130, u131, u132, u133, u134, u135, u136, u137, u138, u139, u140, u141, u142, u143, u144, u145, u146, u147, u148, u149, u150, u151, u152, u153, u154, u155, u156, u157, u158, u159, u160, u161, u162, u163, u164, u165, u166, u167, u168, u169, u170, u171, u172, u173, u174, u175, u176, u177, u178, u179, u180, u181, u182, u183, u184, t185, t186, t187, t188, t189, t190, t191, t192, t193, t194, t195, t196, t197, t198, t199, t200, t201, t202, t203, t204, t205, t206, t207, u208, u209, u210, u211, u212, u213, u214, u215, u216, u217, u218, u219, u220, u221, u222, u223, u224, u225, u226, u227, u228, u229, u230, u231, u232, u233, u234, u235, u236, u237, u238, u239, u240, u241, u242], []⟩ w') : Code.wp Try.prog (unitOf 38 Try.f7) Q ⟨#[u0, u1, u2, u3, u4, .pointer (some ⟨I.m, 0, none⟩), u6, u7, .slice ta tn tc, u9, u10, .slice na nn nc, .pointer (some ⟨X12, 0, none⟩), .pointer (some ⟨X13, 0, none⟩), .int .i64 f, .int .i64 f, u16, u17, u18, u19, u20, u21, u22, u23, u24, u25, u26, u27, u28, u29, u30, u31, u32, u33, u34, u35, u36, u37, u38, u39, u40, u41, u42, u43, u44, u45, u46, u47, u48, u49, u50, u51, u52, u53, u54, u55, u56, u57, u58, u59, u60, u61, u62, u63, u64, u65, u66, u67, u68, u69, u70, u71, u72, u73, u74, u75, u76, u77, u78, u79, u80, u81, u82, u83, u84, u85, u86, u87, u88, u89, u90, u91, u92, u93, u94, u95, u96, u97, u98, u99, u100, u101, u102, u103, u104, u105, u106, u107, u108, u109, u110, u111, u112, u113, u114, u115, u116, u117, u118, u119, u120, u121, u122, u123, u124, u125, u126, u127, u128, u129, u130, u131, u132, u133, u134, u135, u136, u137, u138, u139, u140, u141, u142, u143, u144, u145, u146, u147, u148, u149, u150, u151, u152, u153, u154, u155, u156, u157, u158, u159, u160, u161, u162, u163, u164, u165, u166, u167, u168, u169, u170, u171, u172, u173, u174, u175, u176, u177, u178, u179, u180, u181, u182, u183, u184, u185, u186, u187, u188, u189, u190, u191, u192, u193, u194, u195, u196, u197, u198, u199, u200, u201, u202, u203, u204, u205, u206, u207, u208, u209, u210, u211, u212, u213, u214, u215, u216, u217, u218, u219, u220, u221, u222, u223, u224, u225, u226, u227, u228, u229, u230, u231, u232, u233, u234, u235, u236, u237, u238, u239, u240, u241, u242], []⟩ W := by
  conv => arg 2; whnf
  obtain ⟨yp, yn, ys⟩ := y
  have HSG := Lib.hid hsg
  have HRW := Lib.hid hrw
  have HO := Lib.hid ho
  have hsum := hsg.sum
  have HY12 := Lib.hid y12
  have HY13 := Lib.hid y13
  have a0 := y12.cell (i := 0) rfl
  have a1 := y12.cell (i := 1) rfl
  have a2 := y12.cell (i := 2) rfl
  have b0 := y13.cell (i := 0) rfl
  have b1 := y13.cell (i := 1) rfl
  have b2 := y13.cell (i := 2) rfl
  have HRU := Lib.hid (r_Used hrw (by omega) (by omega))
  have HGU := Lib.hid (gUsed hsg)
  have HH := Lib.hid h
  clear hsg hrw ho y12 y13 h
  go_wp2_with fail
  refine HGU.out.mono ?_
  rintro e w' ⟨rfl, rfl⟩
  go_wp2_with fail
  refine HRU.out.mono ?_
  rintro e w' ⟨rfl, rfl⟩
  clear HGU HRU
  generalize ((Lof rs).map rN).sum = U at *
  by_cases hn : (0 : Int) < yn
  · have hone := one_ext yp yn ys
    have hmx := mx_one htl
    have hby := by_one htl
    go_wp2_with (at_builtin; refine wpList_appS rfl _ _ 32 rfl B 34 (.agg #[.int .i64 0, .int .i64 0, .int .i64 0]) 3 24 Try.underlying32 inf_ext rfl (by decide) (.slice ta tn tc) tn _ rfl (HO.out.alloc _) _ 1 1 [.int .i64 yp, .int .i64 yn, .int .i64 ys] rfl rfl (Reads.madeAt rfl) hone hmx hby (Nat.le_trans hB (by simp)) ?_)
    intro v' w5 own5 gr5 fr5
    have u5 := upd_own gr5
    have HO5 : Hid (w5.ownsRow B 34 3 v' (tn + 1) (flatE (T ++ [(yp, yn, ys)]))) := by unfold Hid; rw [flatE_app]; exact own5
    have HU5 : Hid (Upd (Value.slice ta tn tc).ownBlock.toList W w5) := (Upd.of_below ((Below.refl _ _).alloc (Nat.le_refl _) _)).trans u5
    have HFR : Hid (∀ k, v'.ownBlock = some k → (Value.slice ta tn tc).ownBlock = some k ∨ W.heap.size ≤ k) := fun k hk => (fr5 k hk).imp id (fun h => by first | omega | (simp at h; omega))
    clear own5 gr5 fr5 u5 hone hmx hby a0 a1 a2 b0 b1 b2
    go_wp2_with fail
    exact HH.out _ _ _ _ _ _ _ _ _ _ _ _ _ _ _ _ _ _ _ _ _ _ _  w5 v' (.inr ⟨hn, HO5.out, HU5.out, HFR.out⟩)
  · go_wp2_with fail
    exact HH.out _ _ _ _ _ _ _ _ _ _ _ _ _ _ _ _ _ _ _ _ _ _ _  W (.slice ta tn tc) (.inl ⟨by omega, rfl, rfl⟩)

end Go.Proofs.Ytpbokmmobepolaa
