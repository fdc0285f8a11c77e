/-
  Units of the round of ExtentSteps. (Written by exsteps.py.)
-/
import Derived.Test.YtpbokmmobepolaaExtZH
namespace Go.Proofs.Ytpbokmmobepolaa
open Go.RowKit Go.Maps
set_option linter.unusedVariables false
set_option maxHeartbeats 8000000
set_option maxRecDepth 100000

def startsWith (r : Nat) : Code → Bool
  | .region id _ _ => id == r
  | _ => false
/-- What begins with a region, by its number. -/
def findUnit (r : Nat) : Code → Option Code
  | .seq a b => if startsWith r a then some (.seq a b) else match findUnit r a with
    | some c => some c
    | none => findUnit r b
  | .cond _ a b => match findUnit r a with
    | some c => some c
    | none => findUnit r b
  | .block _ c => findUnit r c
  | .loop c => findUnit r c
  | .scope c => findUnit r c
  | _ => none
noncomputable def unitOf (r : Nat) (f : Func) : Code := ((f.body.bind (findUnit r)).getD .skip)
/-- A goal at which the walk stops. -/
def Stop (p : Prop) : Prop := p
theorem unstop {p : Prop} (h : p) : Stop p := h
theorem stop_unit {r : Nat} {f : Func} {Q : Exit → Act → World → Prop} {a : Act} {w : World} (h : Stop (Code.wp Try.prog (unitOf r f) Q a w)) : Code.wp Try.prog (unitOf r f) Q a w := h

theorem unit14 {Q : Exit → Act → World → Prop} {W : World} {b off nd cd j X tc : Nat} {ta : Option Addr} {T : List Ext} {at' : Int} {u0 u2 u3 u4 u5 u6 u7 u11 u12 u13 u14 u15 u16 u17 u18 u19 u20 u21 u22 u23 u24 u25 u26 u27 u28 u29 u30 u31 u32 u33 u34 u35 u36 u37 u38 u39 u40 u41 u42 u43 u44 u45 u46 u47 u48 u49 u50 u51 u52 u53 u54 u55 u56 u57 u58 u59 u60 u61 u62 u63 u64 u65 u66 u67 u68 u69 u70 u71 u72 u73 u74 u75 u76 u77 u78 u79 u80 u81 u82 u83 u84 u85 u86 u87 u88 u89 u90 u91 u92 u93 u94 u95 u96 u97 u98 u99 u100 u101 u102 u103 u104 u105 u106 u107 u108 u109 u110 u111 u112 u113 u114 u115 u116 u117 u118 u119 u120 u121 u122 u123 u124 u125 u126 u127 u128 u129 u130 u131 u132 u133 u134 u135 u136 u137 u138 u139 u140 u141 u142 u143 u144 u145 u146 u147 u148 u149 u150 u151 u152 u153 u154 u155 u156 u157 u158 u159 u160 u161 u162 u163 u164 u165 u166 u167 u168 u169 u170 u171 u172 u173 u174 u175 u176 u177 u178 u179 u180 u181 u182 u183 u184 u185 u186 u187 u188 u189 u190 u191 u192 u193 u194 u195 u196 u197 u198 u199 u200 u201 u202 u203 u204 u205 u206 u207 u208 u209 u210 u211 u212 u213 u214 u215 u216 u217 u218 u219 u220 u221 u222 u223 u224 u225 u226 u227 u228 u229 u230 u231 u232 u233 u234 u235 u236 u237 u238 u239 u240 u241 u242 : Value}
    (hj : j < nd) (kc : W.cell? ⟨b, off + j * 3 + 1, none⟩ = some (.int .i64 at')) (ht : ReadsBy W ta 3 exC T) (hx : Row W X 34 [.int .i64 (-1), .int .i64 0, .int .i64 0])
    (h : ∀ (t66 t67 t68 t69 t70 t71 t72 t73 t74 t75 t76 t77 t78 t79 t80 t81 t82 t83 t84 t85 t86 t87 t88 t89 : Value) (w' : World) (x : Ext), (Upd [X] W w' ∧ Row w' X 34 (exC x) ∧ (x = (-1, 0, 0) ∨ x ∈ T)) → Q .normal ⟨#[u0, .slice (some ⟨b, off, none⟩) nd cd, u2, u3, u4, u5, u6, u7, .slice ta T.length tc, .int .i64 j, .pointer (some ⟨X, 0, none⟩), u11, u12, u13, u14, u15, u16, u17, u18, u19, u20, u21, u22, u23, u24, u25, u26, u27, u28, u29, u30, u31, u32, u33, u34, u35, u36, u37, u38, u39, u40, u41, u42, u43, u44, u45, u46, u47, u48, u49, u50, u51, u52, u53, u54, u55, u56, u57, u58, u59, u60, u61, u62, u63, u64, u65, t66, t67, t68, t69, t70, t71, t72, t73, t74, t75, t76, t77, t78, t79, t80, t81, t82, t83, t84, t85, t86, t87, t88, t89, u90, u91, u92, u93, u94, u95, u96, u97, u98, u99, u100, u101, u102, u103, u104, u105, u106, u107, u108, u109, u110, u111, u112, u113, u114, u115, u116, u117, u118, u119, u120, u121, u122, u123, u124, u125, u126, u127, u128, u129, u130, u131, u132, u133, u134, u135, u136, u137, u138, u139, u140, u141, u142, u143, u144, u145, u146, u147, u148, u149, u150, u151, u152, u153, u154, u155, u156, u157, u158, u159, u160, u161, u162, u163, u164, u165, u166, u167, u168, u169, u170, u171, u172, u173, u174, u175, u176, u177, u178, u179, u180, u181, u182, u183, u184, u185, u186, u187, u188, u189, u190, u191, u192, u193, u194, u195, u196, u197, u198, u199, u200, u201, u202, u203, u204, u205, u206, u207, u208, u209, u210, u211, u212, u213, u214, u215, u216, u217, u218, u219, u220, u221, u222, u223, u224, u225, u226, u227, u228, u229, u230, u231, u232, u233, u234, u235, u236, u237, u238, u239, u240, u241, u242], []⟩ w') : Code.wp Try.prog (unitOf 14 Try.f7) Q ⟨#[u0, .slice (some ⟨b, off, none⟩) nd cd, u2, u3, u4, u5, u6, u7, .slice ta T.length tc, .int .i64 j, .pointer (some ⟨X, 0, none⟩), u11, u12, u13, u14, u15, u16, u17, u18, u19, u20, u21, u22, u23, u24, u25, u26, u27, u28, u29, u30, u31, u32, u33, u34, u35, u36, u37, u38, u39, u40, u41, u42, u43, u44, u45, u46, u47, u48, u49, u50, u51, u52, u53, u54, u55, u56, u57, u58, u59, u60, u61, u62, u63, u64, u65, u66, u67, u68, u69, u70, u71, u72, u73, u74, u75, u76, u77, u78, u79, u80, u81, u82, u83, u84, u85, u86, u87, u88, u89, u90, u91, u92, u93, u94, u95, u96, u97, u98, u99, u100, u101, u102, u103, u104, u105, u106, u107, u108, u109, u110, u111, u112, u113, u114, u115, u116, u117, u118, u119, u120, u121, u122, u123, u124, u125, u126, u127, u128, u129, u130, u131, u132, u133, u134, u135, u136, u137, u138, u139, u140, u141, u142, u143, u144, u145, u146, u147, u148, u149, u150, u151, u152, u153, u154, u155, u156, u157, u158, u159, u160, u161, u162, u163, u164, u165, u166, u167, u168, u169, u170, u171, u172, u173, u174, u175, u176, u177, u178, u179, u180, u181, u182, u183, u184, u185, u186, u187, u188, u189, u190, u191, u192, u193, u194, u195, u196, u197, u198, u199, u200, u201, u202, u203, u204, u205, u206, u207, u208, u209, u210, u211, u212, u213, u214, u215, u216, u217, u218, u219, u220, u221, u222, u223, u224, u225, u226, u227, u228, u229, u230, u231, u232, u233, u234, u235, u236, u237, u238, u239, u240, u241, u242], []⟩ W := by
  conv => arg 2; whnf
  have HT := Lib.hid ht
  have HX := Lib.hid hx
  clear ht hx
  by_cases h0 : (0 : Int) ≤ at'
  · by_cases h1 : at' < (T.length : Int)
    · obtain ⟨m, rfl⟩ := Int.eq_ofNat_of_zero_le h0
      have hm : m < T.length := by omega
      obtain ⟨tb, to, rfl, htb, c0, c1, c2⟩ := ex_cells HT.out hm
      have HM := Lib.hid (exAt_mem hm)
      obtain ⟨p, q, s, hex⟩ : ∃ p q s, exAt T m = (p, q, s) := ⟨_, _, _, rfl⟩
      rw [hex] at c0 c1 c2 HM
      have x0 := HX.out.free 0
      have x1 := HX.out.free 1
      have x2 := HX.out.free 2
      have y0 := HX.out.cell (i := 0) rfl
      have y1 := HX.out.cell (i := 1) rfl
      have y2 := HX.out.cell (i := 2) rfl
      clear hex htb
      go_wp2_with fail
      refine h _ _ _ _ _ _ _ _ _ _ _ _ _ _ _ _ _ _ _ _ _ _ _ _ _ (p, q, s) ⟨?_, ?_, .inr HM.out⟩
      · exact (((Upd.refl [X] W).setCell (by simp) _).setCell (by simp) _).setCell (by simp) _
      · exact ((HX.out.set 0 _).set 1 _).set 2 _
    · go_wp2_with fail
      exact h _ _ _ _ _ _ _ _ _ _ _ _ _ _ _ _ _ _ _ _ _ _ _ _ W (-1, 0, 0) ⟨Upd.refl _ _, HX.out, .inl rfl⟩
  · go_wp2_with fail
    exact h _ _ _ _ _ _ _ _ _ _ _ _ _ _ _ _ _ _ _ _ _ _ _ _ W (-1, 0, 0) ⟨Upd.refl _ _, HX.out, .inl rfl⟩

end Go.Proofs.Ytpbokmmobepolaa
