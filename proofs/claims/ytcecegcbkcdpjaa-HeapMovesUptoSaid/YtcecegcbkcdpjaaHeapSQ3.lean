/-
  Region 47 of HeapMoves, one case, over its frame. (Written by smreg.py.)
-/
import Derived.Test.YtcecegcbkcdpjaaHeapSN
namespace Go.Proofs.Ytcecegcbkcdpjaa
open Go.RowKit
set_option linter.unusedVariables false
set_option maxHeartbeats 8000000
set_option maxRecDepth 100000
namespace R47c3
/-- A region of a function, by its number. -/
def findRegion (r : Nat) : Code → Option Code
  | .region id ops d => if id = r then some (.region id ops d) else none
  | .seq a b => match findRegion r a with
    | some c => some c
    | none => findRegion r b
  | .cond _ a b => match findRegion r a with
    | some c => some c
    | none => findRegion r b
  | .block _ c => findRegion r c
  | .loop c => findRegion r c
  | .scope c => findRegion r c
  | _ => none
noncomputable def regionOf (r : Nat) (f : Func) : Code := ((f.body.bind (findRegion r)).getD .skip)

theorem reg47 {Q : Exit → Act → World → Prop} {W : World} {hp ib io n8 c8 wb wo n9 c9 tb to n10 c10 i k nu nv u v T1 T2 A1 A2 rc rc2 : Nat} {ra ra2 : Option Addr} {u0 u1 u2 u3 u4 u6 u7 u11 u12 u13 u14 u15 u16 u17 u18 u19 u20 u22 u23 u24 u26 u27 u28 u29 u30 u31 u32 u33 u34 u35 u36 u37 u38 u39 u40 u41 u42 u43 u44 u45 u46 u47 u48 u49 u50 u51 u52 u53 u54 u55 u56 u57 u58 u59 u60 u61 u62 u63 u64 u65 u66 u67 u68 u69 u70 u71 u72 u73 u74 u75 u76 u77 u78 u79 u80 u81 u82 u83 u84 u85 u86 u87 u88 u89 u90 u91 u92 u93 u94 u95 u96 u97 u98 u99 u100 u101 u102 u103 u104 u105 u106 u107 u108 u109 u110 u111 u112 u113 u114 u115 u116 u117 u118 u119 u120 u121 u122 u123 u124 u125 u126 u127 u128 u129 u130 u131 u132 u133 u134 u135 u136 u137 u138 u139 u140 u141 u142 u143 u144 u145 u146 u147 u148 u149 u150 u151 u152 u153 u154 u155 u156 u157 u158 u159 u160 u161 u162 u163 u164 u165 u166 u167 u168 u169 u170 u171 u172 u173 u174 u175 u176 u177 u178 u179 u180 u181 u182 u183 u184 u185 u186 u187 u188 u189 u190 u191 u192 u193 u194 u195 u196 u197 u198 u199 u200 u201 u202 u203 u204 u205 u206 u207 u208 u209 u210 u211 u212 u213 u214 u215 u216 u217 u218 u219 u220 u221 u222 u223 u224 u225 u226 u227 u228 u229 u230 u231 u232 u233 u234 u235 u236 u237 u238 u239 u240 u241 u242 u243 u244 u245 u246 u247 u248 u249 u250 u251 u252 u253 u254 u255 u256 u257 u258 u259 u260 u261 u262 u263 u264 : Value}
    (hQ : ∀ c a d v w, Q (.panic c) (Act.put a (some d) v) w → Q (.panic c) a w) (i8 : i < n8) (i9 : i < n9) (i10 : i < n10) (k8 : k < n8) (k9 : k < n9) (k10 : k < n10) (HC : Hid ((fun z : World => z.cell? ⟨wb, wo + i, none⟩ = some (.slice ra nu rc) ∧ z.cell? ⟨wb, wo + k, none⟩ = some (.slice ra2 nv rc2) ∧ z.cell? ⟨ib, io + i, none⟩ = some (.int .i64 (u : Int)) ∧ z.cell? ⟨ib, io + k, none⟩ = some (.int .i64 (v : Int)) ∧ z.cell? ⟨tb, to + i, none⟩ = some (.int .i64 (T1 : Int)) ∧ z.cell? ⟨tb, to + k, none⟩ = some (.int .i64 (T2 : Int))) W.drew)) (e1 : (0 < nu) = True) (e2 : (0 < nv) = True) (e3 : (T1 < T2) = True) (e4 : (A1 < A2) = True) (HA1 : Hid (Calls Try.prog 27 #[.pointer (some ⟨hp, 0, none⟩), .int .i64 u] W.drew fun e w' => e = .returned (.int .i64 (A1 : Nat)) ∧ W.drew = w')) (HA2 : Hid (Calls Try.prog 27 #[.pointer (some ⟨hp, 0, none⟩), .int .i64 v] W.drew fun e w' => e = .returned (.int .i64 (A2 : Nat)) ∧ W.drew = w'))
    (h : Hid (∀ t225 t226 t227 t228 t229 t230 t231 t232 t233 t234 t235 t236 t237 t238 t239 t240 t241 t242 t243 t244 t245 t246 t247 t248 t249 t250 t251 t252 t253 t254 t255 t256 t257 t258 t259 t260 t261 t262 : Value, Q .normal ⟨#[u0, u1, u2, u3, u4, .pointer (some ⟨hp, 0, none⟩), u6, u7, .slice (some ⟨ib, io, none⟩) n8 c8, .slice (some ⟨wb, wo, none⟩) n9 c9, .slice (some ⟨tb, to, none⟩) n10 c10, u11, u12, u13, u14, u15, u16, u17, u18, u19, u20, .int .i64 (i : Int), u22, u23, u24, .int .i64 (k : Int), u26, u27, u28, u29, u30, u31, u32, u33, u34, u35, u36, u37, u38, u39, u40, u41, u42, u43, u44, u45, u46, u47, u48, u49, u50, u51, u52, u53, u54, u55, u56, u57, u58, u59, u60, u61, u62, u63, u64, u65, u66, u67, u68, u69, u70, u71, u72, u73, u74, u75, u76, u77, u78, u79, u80, u81, u82, u83, u84, u85, u86, u87, u88, u89, u90, u91, u92, u93, u94, u95, u96, u97, u98, u99, u100, u101, u102, u103, u104, u105, u106, u107, u108, u109, u110, u111, u112, u113, u114, u115, u116, u117, u118, u119, u120, u121, u122, u123, u124, u125, u126, u127, u128, u129, u130, u131, u132, u133, u134, u135, u136, u137, u138, u139, u140, u141, u142, u143, u144, u145, u146, u147, u148, u149, u150, u151, u152, u153, u154, u155, u156, u157, u158, u159, u160, u161, u162, u163, u164, u165, u166, u167, u168, u169, u170, u171, u172, u173, u174, u175, u176, u177, u178, u179, u180, u181, u182, u183, u184, u185, u186, u187, u188, u189, u190, u191, u192, u193, u194, u195, u196, u197, u198, u199, u200, u201, u202, u203, u204, u205, u206, u207, u208, u209, u210, u211, u212, u213, u214, u215, u216, u217, u218, u219, u220, u221, u222, u223, u224, t225, t226, t227, t228, t229, t230, t231, t232, t233, t234, t235, t236, t237, t238, t239, t240, t241, t242, t243, t244, t245, t246, t247, t248, t249, t250, t251, t252, t253, t254, t255, t256, t257, t258, t259, t260, t261, t262, .bool false, u264], []⟩ W.drew)) : Code.wp Try.prog (regionOf 47 Try.f12) Q ⟨#[u0, u1, u2, u3, u4, .pointer (some ⟨hp, 0, none⟩), u6, u7, .slice (some ⟨ib, io, none⟩) n8 c8, .slice (some ⟨wb, wo, none⟩) n9 c9, .slice (some ⟨tb, to, none⟩) n10 c10, u11, u12, u13, u14, u15, u16, u17, u18, u19, u20, .int .i64 (i : Int), u22, u23, u24, .int .i64 (k : Int), u26, u27, u28, u29, u30, u31, u32, u33, u34, u35, u36, u37, u38, u39, u40, u41, u42, u43, u44, u45, u46, u47, u48, u49, u50, u51, u52, u53, u54, u55, u56, u57, u58, u59, u60, u61, u62, u63, u64, u65, u66, u67, u68, u69, u70, u71, u72, u73, u74, u75, u76, u77, u78, u79, u80, u81, u82, u83, u84, u85, u86, u87, u88, u89, u90, u91, u92, u93, u94, u95, u96, u97, u98, u99, u100, u101, u102, u103, u104, u105, u106, u107, u108, u109, u110, u111, u112, u113, u114, u115, u116, u117, u118, u119, u120, u121, u122, u123, u124, u125, u126, u127, u128, u129, u130, u131, u132, u133, u134, u135, u136, u137, u138, u139, u140, u141, u142, u143, u144, u145, u146, u147, u148, u149, u150, u151, u152, u153, u154, u155, u156, u157, u158, u159, u160, u161, u162, u163, u164, u165, u166, u167, u168, u169, u170, u171, u172, u173, u174, u175, u176, u177, u178, u179, u180, u181, u182, u183, u184, u185, u186, u187, u188, u189, u190, u191, u192, u193, u194, u195, u196, u197, u198, u199, u200, u201, u202, u203, u204, u205, u206, u207, u208, u209, u210, u211, u212, u213, u214, u215, u216, u217, u218, u219, u220, u221, u222, u223, u224, u225, u226, u227, u228, u229, u230, u231, u232, u233, u234, u235, u236, u237, u238, u239, u240, u241, u242, u243, u244, u245, u246, u247, u248, u249, u250, u251, u252, u253, u254, u255, u256, u257, u258, u259, u260, u261, u262, u263, u264], []⟩ W := by
  conv => arg 2; whnf
  refine wp_region_planH (fun z : World => z.cell? ⟨wb, wo + i, none⟩ = some (.slice ra nu rc) ∧ z.cell? ⟨wb, wo + k, none⟩ = some (.slice ra2 nv rc2) ∧ z.cell? ⟨ib, io + i, none⟩ = some (.int .i64 (u : Int)) ∧ z.cell? ⟨ib, io + k, none⟩ = some (.int .i64 (v : Int)) ∧ z.cell? ⟨tb, to + i, none⟩ = some (.int .i64 (T1 : Int)) ∧ z.cell? ⟨tb, to + k, none⟩ = some (.int .i64 (T2 : Int))) [(0, true), (1, true), (2, true), (3, true), (4, true), (5, true), (6, true), (7, true), (8, true), (9, true), (10, true), (11, true), (12, true), (13, true), (14, true), (15, true), (16, true), (17, true), (18, true), (19, true), (21, true), (22, true), (23, true), (24, true), (25, true), (28, true), (29, true), (30, true), (31, true), (32, true), (33, true), (34, true), (35, true), (36, true), (20, false), (26, false), (27, true), (37, true), (38, true)] (by kernel_rfl) (by kernel_rfl) hQ HC.out ?_
  have HS := HC
  generalize W.drew = wd at *
  (repeat (refine wpPlanH_free rfl (fun K hK => ?_); go_simp; (try go_bits); refine hK _ ?_; clear hK K))
  refine wpPlanH_load (.slice ra nu rc) rfl rfl (fun x hS => by obtain ⟨s0, s1, s2, s3, s4, s5⟩ := hS; go_simp) (fun K hK => ?_)
  refine hK _ ?_
  clear hK K
  (repeat (refine wpPlanH_free rfl (fun K hK => ?_); go_simp; (try go_bits); refine hK _ ?_; clear hK K))
  refine wpPlanH_load (.slice ra2 nv rc2) rfl rfl (fun x hS => by obtain ⟨s0, s1, s2, s3, s4, s5⟩ := hS; go_simp) (fun K hK => ?_)
  refine hK _ ?_
  clear hK K
  (repeat (refine wpPlanH_free rfl (fun K hK => ?_); go_simp; (try go_bits); refine hK _ ?_; clear hK K))
  refine wpPlanH_load (.int .i64 (u : Int)) rfl rfl (fun x hS => by obtain ⟨s0, s1, s2, s3, s4, s5⟩ := hS; go_simp) (fun K hK => ?_)
  refine hK _ ?_
  clear hK K
  (repeat (refine wpPlanH_free rfl (fun K hK => ?_); go_simp; (try go_bits); refine hK _ ?_; clear hK K))
  refine wpPlanH_load (.int .i64 (v : Int)) rfl rfl (fun x hS => by obtain ⟨s0, s1, s2, s3, s4, s5⟩ := hS; go_simp) (fun K hK => ?_)
  refine hK _ ?_
  clear hK K
  (repeat (refine wpPlanH_free rfl (fun K hK => ?_); go_simp; (try go_bits); refine hK _ ?_; clear hK K))
  refine wpPlanH_load (.int .i64 (T1 : Int)) rfl rfl (fun x hS => by obtain ⟨s0, s1, s2, s3, s4, s5⟩ := hS; go_simp) (fun K hK => ?_)
  refine hK _ ?_
  clear hK K
  (repeat (refine wpPlanH_free rfl (fun K hK => ?_); go_simp; (try go_bits); refine hK _ ?_; clear hK K))
  refine wpPlanH_load (.int .i64 (T2 : Int)) rfl rfl (fun x hS => by obtain ⟨s0, s1, s2, s3, s4, s5⟩ := hS; go_simp) (fun K hK => ?_)
  refine hK _ ?_
  clear hK K
  (repeat (refine wpPlanH_free rfl (fun K hK => ?_); go_simp; (try go_bits); refine hK _ ?_; clear hK K))
  refine wpPlanH_sole rfl ?_
  go_wp2_with fail
  refine HA1.out.mono ?_
  rintro e w' ⟨rfl, rfl⟩
  go_wp2
  refine ⟨HS.out, ?_⟩
  refine wpPlanH_sole rfl ?_
  go_wp2_with fail
  refine HA2.out.mono ?_
  rintro e w' ⟨rfl, rfl⟩
  go_wp2
  refine ⟨HS.out, ?_⟩
  (repeat (refine wpPlanH_free rfl (fun K hK => ?_); go_simp; (try go_bits); refine hK _ ?_; clear hK K))
  refine wpPlanH_nil ?_
  exact h.out _ _ _ _ _ _ _ _ _ _ _ _ _ _ _ _ _ _ _ _ _ _ _ _ _ _ _ _ _ _ _ _ _ _ _ _ _ _ 

end R47c3
end Go.Proofs.Ytcecegcbkcdpjaa
