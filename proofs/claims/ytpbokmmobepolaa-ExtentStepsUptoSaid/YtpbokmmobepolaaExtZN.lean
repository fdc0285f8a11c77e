/-
  Units of the round of ExtentSteps. (Written by exsteps.py.)
-/
import Derived.Test.YtpbokmmobepolaaExtZK
namespace Go.Proofs.Ytpbokmmobepolaa
open Go.RowKit Go.Maps
set_option linter.unusedVariables false
set_option maxHeartbeats 8000000
set_option maxRecDepth 100000

/-- What Set tells, and what stands then. -/
def OutS (I : SpI) (N k : Nat) (rs : List RwB) (x : Ext) (d : List Int) (w1 : World) (y : Ext) (f : Int) : Prop :=
  (findE (Lof rs) x = -1 ∧ y = (0, 0, 0) ∧ f = 4 ∧ SG w1 I (Lof rs) N k) ∨
  ∃ (kk : Nat) (rk : RwB), rs[kk]? = some rk ∧ x = rE rk.x ∧ findE (Lof rs) x = (kk : Int) ∧
    ((secs d.length ≠ rN rk.x ∧ FirstL ((Lof rs).eraseIdx kk) N (secs d.length) none ∧ y = (0, 0, 0) ∧ f = 3 ∧ SG w1 I (Lof rs) N k) ∨
     ∃ F : Nat, ((secs d.length = rN rk.x ∧ F = rk.x.1) ∨ (secs d.length ≠ rN rk.x ∧ FirstL ((Lof rs).eraseIdx kk) N (secs d.length) (some F))) ∧ y = ((F : Int), (secs d.length : Int), (d.length : Int)) ∧ f = 0 ∧ SG w1 I ((Lof rs).eraseIdx kk ++ [(F, d)]) N (k + 1))

theorem gSetAll {w : World} {I : SpI} {rs : List RwB} {N k : Nat} (h : SG w I (Lof rs) N k) (hN : N ≤ 300) (hk : k ≤ 1000) (x : Ext) (hx : exOk x) (d : List Int) (da : Option Addr) (dn dc : Nat) (e0 : dn = d.length) (hdn : dn ≤ 100000)
    (hb : Byt d) (hr : Reads w da dc (d.map (Value.int .u8))) (hcap : dn ≤ dc) (hd : 0 < dn → ∀ y, da = some y → y.block ∉ I.all) :
    Calls Try.prog 17 #[.pointer (some ⟨I.m, 0, none⟩), exV x, .slice da dn dc] w fun e w' => Upd I.all w w' ∧ ∃ (yp yn ys f : Int), e = .returned (.tuple #[.agg #[.int .i64 yp, .int .i64 yn, .int .i64 ys], .int .i64 f]) ∧ exOk (yp, yn, ys) ∧ OutS I N k rs x d w' (yp, yn, ys) f := by
  by_cases hf : findE (Lof rs) x = -1
  · obtain ⟨p, q, s⟩ := x
    refine (gSetNo h p q s hx (findE_none hf) da dn dc).mono ?_
    rintro e w' ⟨rfl, hg, hu⟩
    exact ⟨hu, 0, 0, 0, 4, rfl, ok_zero, .inl ⟨hf, rfl, rfl, hg⟩⟩
  · obtain ⟨kk, hkk, hf2, hxe⟩ := findE_some hf
    have hk2 : kk < rs.length := by simpa [Lof] using hkk
    have hl : (Lof rs)[kk]? = some rs[kk].x := by simp [Lof, hk2]
    have hxr : x = rE rs[kk].x := by rw [hxe]; simp [Lof]
    have hfit := h.fit300 hN rs[kk].x (List.mem_of_getElem? hl)
    have hroom := secs_room rs[kk].x.2.length
    have hrn : rN rs[kk].x = secs rs[kk].x.2.length := rfl
    have hS := gSet h hN (by omega) (j := kk) (x := rs[kk].x) hl (by omega) d da dn dc e0 (by omega) hb hr hcap hd
    have hv : exV x = exA rs[kk].x.1 (rN rs[kk].x) rs[kk].x.2.length := by rw [hxr]; rfl
    rw [hv]
    refine hS.mono ?_
    have hsl := secs_le d.length
    rintro e w' ⟨hu, ⟨h1, rfl, h2⟩ | ⟨h1, h2, rfl, h3⟩ | ⟨h1, G, h2, rfl, h3⟩⟩
    · exact ⟨hu, _, _, _, 0, rfl, exOk_nat (by omega) (by omega) (by omega), .inr ⟨kk, rs[kk], List.getElem?_eq_getElem hk2, hxr, hf2, .inr ⟨rs[kk].x.1, .inl ⟨h1, rfl⟩, rfl, rfl, h2⟩⟩⟩
    · exact ⟨hu, 0, 0, 0, 3, rfl, ok_zero, .inr ⟨kk, rs[kk], List.getElem?_eq_getElem hk2, hxr, hf2, .inl ⟨h1, h2, rfl, rfl, h3⟩⟩⟩
    · exact ⟨hu, _, _, _, 0, rfl, exOk_nat (by have := h2.1; omega) (by omega) (by omega), .inr ⟨kk, rs[kk], List.getElem?_eq_getElem hk2, hxr, hf2, .inr ⟨G, .inr ⟨h1, h2⟩, rfl, rfl, h3⟩⟩⟩

theorem set_join {I : SpI} {N k B : Nat} {rs : List RwB} {x y : Ext} {f : Int} {d : List Int} {w1 w3 w4 : World} {ra : Option Addr} {rn rc : Nat} {e : Ending} (ho : OutS I N k rs x d w1 y f) (h : RSet w3 N ra rn rc rs x d e w4) (hrw : RowsAt w4 B ra rn rc rs) (hB : B ≤ w3.heap.size) :
    Below w3.heap.size w3 w4 ∧ ∃ (na : Option Addr) (nn nc : Nat) (rs' : List RwB), e = .returned (.tuple #[.slice na nn nc, .agg #[.int .i64 y.1, .int .i64 y.2.1, .int .i64 y.2.2], .int .i64 f]) ∧ SG w1 I (Lof rs') N (k + 1) ∧ RowsAt w4 B na nn nc rs' ∧
      ((na = ra ∧ nn = rn ∧ nc = rc ∧ rs' = rs) ∨ ∀ z, na = some z → w3.heap.size ≤ z.block) ∧ ∀ r ∈ rs', r ∈ rs ∨ ∀ z, r.a = some z → w3.heap.size ≤ z.block := by
  refine ⟨h.1, ?_⟩
  rcases h.2 with ⟨h1, rfl⟩ | ⟨k', y', hy', hx', hf', h2⟩
  · rcases ho with ⟨o1, rfl, rfl, o2⟩ | ⟨kk, rk, -, -, o1, -⟩
    · exact ⟨ra, rn, rc, rs, rfl, o2.mono (Nat.le_succ _), hrw, .inl ⟨rfl, rfl, rfl, rfl⟩, fun r hr => .inl hr⟩
    · rw [h1] at o1; omega
  · rcases ho with ⟨o1, -⟩ | ⟨kk, rk, o1, o2, o3, o4⟩
    · rw [o1] at hf'; omega
    · obtain rfl : kk = k' := by rw [o3] at hf'; omega
      rw [o1] at hy'
      cases hy'
      rcases o4 with ⟨p1, p2, rfl, rfl, p3⟩ | ⟨F, p1, rfl, rfl, p3⟩
      · rcases h2 with ⟨q1, q2, rfl⟩ | ⟨G, v, r, q1, -⟩
        · exact ⟨ra, rn, rc, rs, rfl, p3.mono (Nat.le_succ _), hrw, .inl ⟨rfl, rfl, rfl, rfl⟩, fun r hr => .inl hr⟩
        · rcases q1 with ⟨q1, -⟩ | ⟨-, q1⟩
          · exact absurd q1 p1
          · have := first_uniq (secs_pos _) p2 q1
            cases this
      · rcases h2 with ⟨q1, q2, rfl⟩ | ⟨G, v, r, q1, q2, rfl, q3, q4⟩
        · rcases p1 with ⟨p1, -⟩ | ⟨-, p1⟩
          · exact absurd p1 q1
          · have := first_uniq (secs_pos _) p1 q2
            cases this
        · have hFG : G = F := by
            rcases p1 with ⟨p1, rfl⟩ | ⟨p0, p1⟩
            · rcases q1 with ⟨-, q1⟩ | ⟨q0, -⟩
              · exact q1
              · exact absurd p1 q0
            · rcases q1 with ⟨q0, -⟩ | ⟨-, q1⟩
              · exact absurd q0 p0
              · have := first_uniq (secs_pos _) q1 p1
                cases this
                rfl
          subst hFG
          have hoks : ∀ q ∈ rs.eraseIdx kk ++ [r], q.ok w4 B := fun q hq => by
            rcases List.mem_append.1 hq with h3 | h3
            · exact hrw.oks q (List.mem_of_mem_eraseIdx h3)
            · rw [List.mem_singleton] at h3
              subst h3
              exact ⟨q4.1, q4.2.1, q4.2.2.1, q4.2.2.2.1, fun z hz => Nat.le_trans hB (q4.2.2.2.2 z hz)⟩
          obtain ⟨na, nc, rfl, hr1, hr2⟩ := rows_made q3 hB hoks
          refine ⟨na, _, nc, _, rfl, ?_, hr1, .inr hr2, fun q hq => (List.mem_append.1 hq).imp (fun h3 => List.mem_of_mem_eraseIdx h3) (fun h3 => by rw [List.mem_singleton] at h3; subst h3; exact fun z hz => q4.2.2.2.2 z hz)⟩
          rw [lof_snoc, lof_erase, q2]
          exact p3

theorem uset {Q : Exit → Act → World → Prop} {W : World} {I : SpI} {N k B b off nd cd j rn rc X10 X12 X13 dn dc : Nat} {ra da : Option Addr} {rs : List RwB} {kind : Int} {d : List Int} {x : Ext} {u2 u3 u4 u6 u8 u16 u17 u18 u19 u20 u21 u22 u23 u24 u25 u26 u27 u28 u29 u30 u31 u32 u33 u34 u35 u36 u37 u38 u39 u40 u41 u42 u43 u44 u45 u46 u47 u48 u49 u50 u51 u52 u53 u54 u55 u56 u57 u58 u59 u60 u61 u62 u63 u64 u65 u66 u67 u68 u69 u70 u71 u72 u73 u74 u75 u76 u77 u78 u79 u80 u81 u82 u83 u84 u85 u86 u87 u88 u89 u90 u91 u92 u93 u94 u95 u96 u97 u98 u99 u100 u101 u102 u103 u104 u105 u106 u107 u108 u109 u110 u111 u112 u113 u114 u115 u116 u117 u118 u119 u120 u121 u122 u123 u124 u125 u126 u127 u128 u129 u130 u131 u132 u133 u134 u135 u136 u137 u138 u139 u140 u141 u142 u143 u144 u145 u146 u147 u148 u149 u150 u151 u152 u153 u154 u155 u156 u157 u158 u159 u160 u161 u162 u163 u164 u165 u166 u167 u168 u169 u170 u171 u172 u173 u174 u175 u176 u177 u178 u179 u180 u181 u182 u183 u184 u185 u186 u187 u188 u189 u190 u191 u192 u193 u194 u195 u196 u197 u198 u199 u200 u201 u202 u203 u204 u205 u206 u207 u208 u209 u210 u211 u212 u213 u214 u215 u216 u217 u218 u219 u220 u221 u222 u223 u224 u225 u226 u227 u228 u229 u230 u231 u232 u233 u234 u235 u236 u237 u238 u239 u240 u241 u242 : Value}
    (hN : N ≤ 300) (hk : k ≤ 1000) (hrn : rn ≤ 300) (hj : j < nd) (hB : B ≤ W.heap.size) (hsg : SG W I (Lof rs) N k) (hrw : RowsAt W B ra rn rc rs) (y12 : Row W X12 34 [.int .i64 0, .int .i64 0, .int .i64 0]) (y13 : Row W X13 34 [.int .i64 0, .int .i64 0, .int .i64 0]) (y10 : Row W X10 34 (exC x))
    (hXI : ∀ j ∈ I.all, j < B) (hX : X10 ≠ X12 ∧ X10 ≠ X13 ∧ X12 ≠ X13) (hXB : B ≤ X10 ∧ B ≤ X12 ∧ B ≤ X13) (hfar : ∀ q ∈ [X12, X13], (0 < rn → ∀ y, ra = some y → y.block ≠ q) ∧ ∀ r ∈ rs, 0 < r.n → ∀ y, r.a = some y → y.block ≠ q)
    (hkc : W.cell? ⟨b, off + j * 3, none⟩ = some (.int .i64 kind)) (hcell : ∀ w', Upd (I.all ++ [X12, X13]) W w' → w'.cell? ⟨b, off + j * 3 + 2, none⟩ = some (.slice da dn dc)) (e0 : dn = d.length) (hdn : dn ≤ 100000) (hby : Byt d) (hcap : dn ≤ dc)
    (hdr : ∀ w', Upd (I.all ++ [X12, X13]) W w' → Reads w' da dc (d.map (Value.int .u8))) (hdd : 0 < dn → ∀ y, da = some y → y.block ∉ I.all) (hxo : exOk x) (hkind : kind = 3) (hQ : ∀ c a d v w, Q (.panic c) (Act.put a (some d) v) w → Q (.panic c) a w)
    (h : ∀ (t16 t17 t18 t93 t94 t95 t96 t97 t98 t99 t100 t101 t102 t103 t104 t105 t106 t107 t108 t109 t110 t111 t112 t113 t114 t115 t116 t117 t118 t119 t120 t121 t122 t123 t124 t125 t126 t127 t128 t129 t130 t131 t132 t133 t134 t135 t136 t137 t138 t139 t140 t141 t142 t143 t144 t145 t146 t147 t148 t149 t150 t151 t152 t153 t154 t155 t156 t157 t158 t159 t160 t161 t162 t163 t164 t165 t166 t167 t168 t169 t170 t171 t172 t173 t174 t175 t176 t177 t178 t179 t180 t181 t182 t183 t184 : Value) (w' : World) (y : Ext) (f : Int) (na : Option Addr) (nn nc : Nat) (rs' : List RwB), StepOut W w' I B N k X12 X13 ra rn rs y na nn nc rs' → Q .normal ⟨#[.int .i64 N, .slice (some ⟨b, off, none⟩) nd cd, u2, u3, u4, .pointer (some ⟨I.m, 0, none⟩), u6, .slice ra rn rc, u8, .int .i64 j, .pointer (some ⟨X10, 0, none⟩), .slice na nn nc, .pointer (some ⟨X12, 0, none⟩), .pointer (some ⟨X13, 0, none⟩), .int .i64 f, .int .i64 f, t16, t17, t18, u19, u20, u21, u22, u23, u24, u25, u26, u27, u28, u29, u30, u31, u32, u33, u34, u35, u36, u37, u38, u39, u40, u41, u42, u43, u44, u45, u46, u47, u48, u49, u50, u51, u52, u53, u54, u55, u56, u57, u58, u59, u60, u61, u62, u63, u64, u65, u66, u67, u68, u69, u70, u71, u72, u73, u74, u75, u76, u77, u78, u79, u80, u81, u82, u83, u84, u85, u86, u87, u88, u89, u90, u91, u92, t93, t94, t95, t96, t97, t98, t99, t100, t101, t102, t103, t104, t105, t106, t107, t108, t109, t110, t111, t112, t113, t114, t115, t116, t117, t118, t119, t120, t121, t122, t123, t124, t125, t126, t127, t128, t129, t130, t131, t132, t133, t134, t135, t136, t137, t138, t139, t140, t141, t142, t143, t144, t145, t146, t147, t148, t149, t150, t151, t152, t153, t154, t155, t156, t157, t158, t159, t160, t161, t162, t163, t164, t165, t166, t167, t168, t169, t170, t171, t172, t173, t174, t175, t176, t177, t178, t179, t180, t181, t182, t183, t184, u185, u186, u187, u188, u189, u190, u191, u192, u193, u194, u195, u196, u197, u198, u199, u200, u201, u202, u203, u204, u205, u206, u207, u208, u209, u210, u211, u212, u213, u214, u215, u216, u217, u218, u219, u220, u221, u222, u223, u224, u225, u226, u227, u228, u229, u230, u231, u232, u233, u234, u235, u236, u237, u238, u239, u240, u241, u242], []⟩ w') : Code.wp Try.prog (unitOf 21 Try.f7) Q ⟨#[.int .i64 N, .slice (some ⟨b, off, none⟩) nd cd, u2, u3, u4, .pointer (some ⟨I.m, 0, none⟩), u6, .slice ra rn rc, u8, .int .i64 j, .pointer (some ⟨X10, 0, none⟩), .slice ra rn rc, .pointer (some ⟨X12, 0, none⟩), .pointer (some ⟨X13, 0, none⟩), .int .i64 0, .int .i64 0, u16, u17, u18, u19, u20, u21, u22, u23, u24, u25, u26, u27, u28, u29, u30, u31, u32, u33, u34, u35, u36, u37, u38, u39, u40, u41, u42, u43, u44, u45, u46, u47, u48, u49, u50, u51, u52, u53, u54, u55, u56, u57, u58, u59, u60, u61, u62, u63, u64, u65, u66, u67, u68, u69, u70, u71, u72, u73, u74, u75, u76, u77, u78, u79, u80, u81, u82, u83, u84, u85, u86, u87, u88, u89, u90, u91, u92, u93, u94, u95, u96, u97, u98, u99, u100, u101, u102, u103, u104, u105, u106, u107, u108, u109, u110, u111, u112, u113, u114, u115, u116, u117, u118, u119, u120, u121, u122, u123, u124, u125, u126, u127, u128, u129, u130, u131, u132, u133, u134, u135, u136, u137, u138, u139, u140, u141, u142, u143, u144, u145, u146, u147, u148, u149, u150, u151, u152, u153, u154, u155, u156, u157, u158, u159, u160, u161, u162, u163, u164, u165, u166, u167, u168, u169, u170, u171, u172, u173, u174, u175, u176, u177, u178, u179, u180, u181, u182, u183, u184, u185, u186, u187, u188, u189, u190, u191, u192, u193, u194, u195, u196, u197, u198, u199, u200, u201, u202, u203, u204, u205, u206, u207, u208, u209, u210, u211, u212, u213, u214, u215, u216, u217, u218, u219, u220, u221, u222, u223, u224, u225, u226, u227, u228, u229, u230, u231, u232, u233, u234, u235, u236, u237, u238, u239, u240, u241, u242], []⟩ W := by
  conv => arg 2; whnf
  have HH := Lib.hid h
  have HSG := Lib.hid hsg
  have HRW := Lib.hid hrw
  have H12 := Lib.hid y12
  have H13 := Lib.hid y13
  have H10 := Lib.hid y10
  have HX := Lib.hid hX
  have HXB := Lib.hid hXB
  have HCELL := Lib.hid hcell
  have HFAR := Lib.hid hfar
  have HE := Lib.hid e0
  have HBY := Lib.hid hby
  have HDR := Lib.hid hdr
  have HDD := Lib.hid hdd
  have H12I : Hid (X12 ∉ I.all) := fun hm => by have := hXI _ hm; omega
  have H13I : Hid (X13 ∉ I.all) := fun hm => by have := hXI _ hm; omega
  have HFR : Hid (∀ z : World, Upd (I.all ++ [X12, X13]) W z → RowsAt z B ra rn rc rs) := fun z u => hrw.keep' u (fun h0 y hy hm => by
      rcases List.mem_append.1 hm with h1 | h1
      · have h2 := hrw.ab y hy; have h3 := hXI _ h1; omega
      · exact (hfar _ h1).1 h0 y hy rfl) (fun r hr h0 y hy hm => by
      rcases List.mem_append.1 hm with h1 | h1
      · have h2 := (hrw.oks r hr).2.2.2.2 y hy; have h3 := hXI _ h1; omega
      · exact (hfar _ h1).2 r hr h0 y hy rfl)
  have HLN : Hid (rs.length ≤ 300) := by unfold Hid; have := hrw.len; omega
  have HXI := Lib.hid hXI
  have HXO := Lib.hid hxo
  have c2 := hcell W (Upd.refl _ _)
  clear h hsg hrw y12 y13 y10 hXI hX hXB hfar hcell hby hdr hdd e0 hxo
  subst hkind
  obtain ⟨p, q, s⟩ := x
  have h10I : X10 ∉ I.all := fun hm => by have h1 := HXI.out _ hm; have h2 := HXB.out.1; omega
  have H10I := Lib.hid h10I
  clear h10I
  have x0 := H10.out.cell (i := 0) rfl
  have x1 := H10.out.cell (i := 1) rfl
  have x2 := H10.out.cell (i := 2) rfl
  go_wp2_with fail
  refine wp_region_planH (fun z : World => z.cell? ⟨X10, 0, none⟩ = some (.int .i64 p) ∧ z.cell? ⟨X10, 1, none⟩ = some (.int .i64 q) ∧ z.cell? ⟨X10, 2, none⟩ = some (.int .i64 s) ∧ z.cell? ⟨b, off + j * 3 + 2, none⟩ = some (.slice da dn dc)) [(0, true), (1, true), (2, true), (3, true), (4, true), (5, true), (6, true), (7, false), (8, true), (9, true), (10, true), (11, false), (12, true)] (by kernel_rfl) (by kernel_rfl) (fun c a d v w h => hQ c a d v w h) ⟨x0, x1, x2, c2⟩ ?_
  clear x0 x1 x2 c2
  have hbd : Below W.heap.size W W.drew := bDrew (Below.refl _ W)
  have HU1 : Hid (Upd (I.all ++ [X12, X13]) W W.drew) := .of_below hbd
  have HG1 := Lib.hid (HSG.out.below hbd)
  have H10 := Lib.hid (H10.out.keep (l := []) (.of_below hbd) (by simp))
  have H12 := Lib.hid (H12.out.keep (l := []) (.of_below hbd) (by simp))
  have H13 := Lib.hid (H13.out.keep (l := []) (.of_below hbd) (by simp))
  clear hbd
  generalize W.drew = w1 at *
  (repeat (refine wpPlanH_free rfl (fun K hK => ?_); go_simp; (try go_bits); refine hK _ ?_; clear hK K))
  refine wpPlanH_load (.agg #[.int .i64 p, .int .i64 q, .int .i64 s]) rfl rfl (fun z hS => by obtain ⟨s0, s1, s2, s3⟩ := hS; go_simp) (fun K hK => ?_)
  refine hK _ ?_
  clear hK K
  (repeat (refine wpPlanH_free rfl (fun K hK => ?_); go_simp; (try go_bits); refine hK _ ?_; clear hK K))
  refine wpPlanH_load (.slice da dn dc) rfl rfl (fun z hS => by obtain ⟨s0, s1, s2, s3⟩ := hS; go_simp) (fun K hK => ?_)
  refine hK _ ?_
  clear hK K
  refine wpPlanH_sole rfl ?_
  have HS := Lib.hid (gSetAll HG1.out hN hk (p, q, s) HXO.out d da dn dc HE.out hdn HBY.out (HDR.out w1 HU1.out) hcap HDD.out)
  unfold exV at HS
  go_wp2_with fail
  refine HS.out.mono ?_
  clear HS
  rintro e w2 ⟨ku, yp, yn, ys, f, rfl, hyo, hout⟩
  have HYO := Lib.hid hyo
  have HOUT := Lib.hid hout
  have HU2 : Hid (Upd (I.all ++ [X12, X13]) W w2) := HU1.out.trans (ku.mono (by simp; exact fun a ha => .inl ha))
  have H10 := Lib.hid (H10.out.keep ku H10I.out)
  have H12 := Lib.hid (H12.out.keep ku H12I.out)
  have H13 := Lib.hid (H13.out.keep ku H13I.out)
  clear hyo hout ku HU1 HG1
  go_wp2
  refine ⟨⟨H10.out.cell (i := 0) rfl, H10.out.cell (i := 1) rfl, H10.out.cell (i := 2) rfl, HCELL.out _ HU2.out⟩, ?_⟩
  (repeat (refine wpPlanH_free rfl (fun K hK => ?_); go_simp; (try go_bits); refine hK _ ?_; clear hK K))
  refine wpPlanH_sole rfl ?_
  have qf0 := H12.out.free 0
  have qf1 := H12.out.free 1
  have qf2 := H12.out.free 2
  have qy0 := H12.out.cell (i := 0) rfl
  have qy1 := H12.out.cell (i := 1) rfl
  have qy2 := H12.out.cell (i := 2) rfl
  go_wp2
  obtain ⟨w3, hw3⟩ : ∃ z, z = ((w2.setCell ⟨X12, 0, none⟩ (.int .i64 yp)).setCell ⟨X12, 1, none⟩ (.int .i64 yn)).setCell ⟨X12, 2, none⟩ (.int .i64 ys) := ⟨_, rfl⟩
  have rw3 : Row w3 X12 34 [.int .i64 yp, .int .i64 yn, .int .i64 ys] := by rw [hw3]; exact (((H12.out.set 0 _).set 1 _).set 2 _)
  have uw3 : Upd [X12] w2 w3 := by rw [hw3]; exact ((((Upd.refl [X12] w2).setCell (by simp) _).setCell (by simp) _).setCell (by simp) _)
  clear qf0 qy0 qf1 qy1 qf2 qy2
  rw [← hw3]
  clear hw3
  have HU3 : Hid (Upd (I.all ++ [X12, X13]) W w3) := HU2.out.trans (uw3.mono (by simp))
  have H10 := Lib.hid (H10.out.keep uw3 (by have := HX.out.1; simp; omega))
  have H13 := Lib.hid (H13.out.keep uw3 (by have := HX.out.2.2; simp; omega))
  have HR12 := Lib.hid rw3
  have HUA := Lib.hid uw3
  clear rw3 uw3 HU2
  refine ⟨⟨H10.out.cell (i := 0) rfl, H10.out.cell (i := 1) rfl, H10.out.cell (i := 2) rfl, HCELL.out _ HU3.out⟩, ?_⟩
  (repeat (refine wpPlanH_free rfl (fun K hK => ?_); go_simp; (try go_bits); refine hK _ ?_; clear hK K))
  refine wpPlanH_nil ?_
  have x0 := H10.out.cell (i := 0) rfl
  have x1 := H10.out.cell (i := 1) rfl
  have x2 := H10.out.cell (i := 2) rfl
  have c2 := HCELL.out _ HU3.out
  go_wp2_with fail
  refine wp_region_planH (fun z : World => z.cell? ⟨X10, 0, none⟩ = some (.int .i64 p) ∧ z.cell? ⟨X10, 1, none⟩ = some (.int .i64 q) ∧ z.cell? ⟨X10, 2, none⟩ = some (.int .i64 s) ∧ z.cell? ⟨b, off + j * 3 + 2, none⟩ = some (.slice da dn dc)) [(0, true), (1, true), (2, true), (3, true), (4, true), (5, true), (6, true), (7, true), (8, false), (9, true), (10, true), (11, true), (12, true), (13, true), (14, false), (15, true)] (by kernel_rfl) (by kernel_rfl) (fun c a d v w h => hQ c a d v w h) ⟨x0, x1, x2, c2⟩ ?_
  clear x0 x1 x2 c2
  have hbd : Below w3.heap.size w3 w3.drew := bDrew (Below.refl _ w3)
  have HU4 : Hid (Upd (I.all ++ [X12, X13]) W w3.drew) := HU3.out.trans (.of_below hbd)
  have HUB : Hid (Upd [X12] w2 w3.drew) := HUA.out.trans (.of_below hbd)
  have H10 := Lib.hid (H10.out.keep (l := []) (.of_below hbd) (by simp))
  have HR12 := Lib.hid (HR12.out.keep (l := []) (.of_below hbd) (by simp))
  have H13 := Lib.hid (H13.out.keep (l := []) (.of_below hbd) (by simp))
  clear hbd HUA
  generalize w3.drew = w4 at *
  (repeat (refine wpPlanH_free rfl (fun K hK => ?_); go_simp; (try go_bits); refine hK _ ?_; clear hK K))
  refine wpPlanH_load (.agg #[.int .i64 p, .int .i64 q, .int .i64 s]) rfl rfl (fun z hS => by obtain ⟨s0, s1, s2, s3⟩ := hS; go_simp) (fun K hK => ?_)
  refine hK _ ?_
  clear hK K
  (repeat (refine wpPlanH_free rfl (fun K hK => ?_); go_simp; (try go_bits); refine hK _ ?_; clear hK K))
  refine wpPlanH_load (.slice da dn dc) rfl rfl (fun z hS => by obtain ⟨s0, s1, s2, s3⟩ := hS; go_simp) (fun K hK => ?_)
  refine hK _ ?_
  clear hK K
  refine wpPlanH_sole rfl ?_
  have HS := Lib.hid (r_Set (HFR.out w4 HU4.out) (Nat.le_trans hB HU4.out.size) hrn N hN (HSG.out.fit300 hN) (p, q, s) d da dn dc HE.out hdn HBY.out (HDR.out w4 HU4.out) hcap)
  unfold exV at HS
  go_wp2_with fail
  refine HS.out.mono ?_
  clear HS
  rintro e w5 hR
  have hU5 : Upd (I.all ++ [X12, X13]) W w5 := HU4.out.trans (.of_below hR.1)
  obtain ⟨hb5, na, nn, nc, rs', rfl, hsg5, hrow5, hfa, hfr5⟩ := set_join HOUT.out hR (HFR.out w5 hU5) (Nat.le_trans hB HU4.out.size)
  have HU5 := Lib.hid hU5
  have HLT13 := Lib.hid H13.out.lt
  have HS4 := Lib.hid HU4.out.size
  have H10 := Lib.hid (H10.out.keep (l := []) (.of_below hb5) (by simp))
  have HR12 := Lib.hid (HR12.out.keep (l := []) (.of_below hb5) (by simp))
  have H13 := Lib.hid (H13.out.keep (l := []) (.of_below hb5) (by simp))
  have HG5 : Hid (SG w5 I (Lof rs') N (k + 1)) := (hsg5.keep HUB.out (fun q hq hm => by simp at hm; subst hm; exact H12I.out hq)).below hb5
  have HROW := Lib.hid hrow5
  have HFA := Lib.hid hfa
  have HFR5 := Lib.hid hfr5
  clear hR hU5 hb5 hsg5 hrow5 hfa hfr5 HU4 HUB
  go_wp2
  refine ⟨⟨H10.out.cell (i := 0) rfl, H10.out.cell (i := 1) rfl, H10.out.cell (i := 2) rfl, HCELL.out _ HU5.out⟩, ?_⟩
  (repeat (refine wpPlanH_free rfl (fun K hK => ?_); go_simp; (try go_bits); refine hK _ ?_; clear hK K))
  refine wpPlanH_sole rfl ?_
  have qf0 := H13.out.free 0
  have qf1 := H13.out.free 1
  have qf2 := H13.out.free 2
  have qy0 := H13.out.cell (i := 0) rfl
  have qy1 := H13.out.cell (i := 1) rfl
  have qy2 := H13.out.cell (i := 2) rfl
  go_wp2
  obtain ⟨w6, hw6⟩ : ∃ z, z = ((w5.setCell ⟨X13, 0, none⟩ (.int .i64 yp)).setCell ⟨X13, 1, none⟩ (.int .i64 yn)).setCell ⟨X13, 2, none⟩ (.int .i64 ys) := ⟨_, rfl⟩
  have rw6 : Row w6 X13 34 [.int .i64 yp, .int .i64 yn, .int .i64 ys] := by rw [hw6]; exact (((H13.out.set 0 _).set 1 _).set 2 _)
  have uw6 : Upd [X13] w5 w6 := by rw [hw6]; exact ((((Upd.refl [X13] w5).setCell (by simp) _).setCell (by simp) _).setCell (by simp) _)
  clear qf0 qy0 qf1 qy1 qf2 qy2
  rw [← hw6]
  clear hw6
  have HU6 : Hid (Upd (I.all ++ [X12, X13]) W w6) := HU5.out.trans (uw6.mono (by simp))
  have H10 := Lib.hid (H10.out.keep uw6 (by have := HX.out.2.1; simp; omega))
  have HR12 := Lib.hid (HR12.out.keep uw6 (by have := HX.out.2.2; simp; omega))
  have HR13 := Lib.hid rw6
  have HUC := Lib.hid uw6
  clear rw6 uw6 HU5
  refine ⟨⟨H10.out.cell (i := 0) rfl, H10.out.cell (i := 1) rfl, H10.out.cell (i := 2) rfl, HCELL.out _ HU6.out⟩, ?_⟩
  (repeat (refine wpPlanH_free rfl (fun K hK => ?_); go_simp; (try go_bits); refine hK _ ?_; clear hK K))
  refine wpPlanH_nil ?_
  have hold := HFAR.out X13 (by simp)
  have hrow6 : RowsAt w6 B na nn nc rs' := HROW.out.keep' HUC.out (fun h0 z hz hm => by
      simp at hm
      rcases HFA.out with ⟨h1, h2, h3, h4⟩ | h1
      · exact hold.1 (by omega) z (by rw [← h1]; exact hz) hm
      · have h2 := h1 z hz; have h3 := HLT13.out; omega) (fun r hr h0 z hz hm => by
      simp at hm
      rcases HFR5.out r hr with h1 | h1
      · exact hold.2 r h1 h0 z hz hm
      · have h2 := h1 z hz; have h3 := HLT13.out; omega)
  have hsg6 := HG5.out.keep HUC.out (fun q hq hm => by simp at hm; subst hm; exact H13I.out hq)
  have HFIN : Hid (StepOut W w6 I B N k X12 X13 ra rn rs (yp, yn, ys) na nn nc rs') := ⟨hsg6, hrow6, HR12.out, HR13.out, HU6.out, HYO.out, by
      rcases HFA.out with ⟨h1, h2, -⟩ | h1
      · exact .inl ⟨h1, h2⟩
      · exact .inr (fun z hz => Nat.le_trans HS4.out (h1 z hz)), fun r hr => (HFR5.out r hr).imp id (fun h1 z hz => Nat.le_trans HS4.out (h1 z hz))⟩
  clear hold hrow6 hsg6 HFA HFR5 HROW HG5 HU6 HUC
  go_wp2_with fail
  exact HH.out _ _ _ _ _ _ _ _ _ _ _ _ _ _ _ _ _ _ _ _ _ _ _ _ _ _ _ _ _ _ _ _ _ _ _ _ _ _ _ _ _ _ _ _ _ _ _ _ _ _ _ _ _ _ _ _ _ _ _ _ _ _ _ _ _ _ _ _ _ _ _ _ _ _ _ _ _ _ _ _ _ _ _ _ _ _ _ _ _ _ _ _ _ _ _  w6 (yp, yn, ys) f na nn nc rs' HFIN.out

end Go.Proofs.Ytpbokmmobepolaa
