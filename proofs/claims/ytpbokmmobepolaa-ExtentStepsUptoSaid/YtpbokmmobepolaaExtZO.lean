/-
  Units of the round of ExtentSteps. (Written by exsteps.py.)
-/
import Derived.Test.YtpbokmmobepolaaExtZL
import Derived.Test.YtpbokmmobepolaaExtZM
import Derived.Test.YtpbokmmobepolaaExtZN
namespace Go.Proofs.Ytpbokmmobepolaa
open Go.RowKit Go.Maps
set_option linter.unusedVariables false
set_option maxHeartbeats 8000000
set_option maxRecDepth 100000

theorem u21all {Q : Exit → Act → World → Prop} {W : World} {I : SpI} {N k B b off nd cd j rn rc X10 X12 X13 dn dc : Nat} {ra da : Option Addr} {rs : List RwB} {kind : Int} {d : List Int} {x : Ext} {u2 u3 u4 u6 u8 u16 u17 u18 u19 u20 u21 u22 u23 u24 u25 u26 u27 u28 u29 u30 u31 u32 u33 u34 u35 u36 u37 u38 u39 u40 u41 u42 u43 u44 u45 u46 u47 u48 u49 u50 u51 u52 u53 u54 u55 u56 u57 u58 u59 u60 u61 u62 u63 u64 u65 u66 u67 u68 u69 u70 u71 u72 u73 u74 u75 u76 u77 u78 u79 u80 u81 u82 u83 u84 u85 u86 u87 u88 u89 u90 u91 u92 u93 u94 u95 u96 u97 u98 u99 u100 u101 u102 u103 u104 u105 u106 u107 u108 u109 u110 u111 u112 u113 u114 u115 u116 u117 u118 u119 u120 u121 u122 u123 u124 u125 u126 u127 u128 u129 u130 u131 u132 u133 u134 u135 u136 u137 u138 u139 u140 u141 u142 u143 u144 u145 u146 u147 u148 u149 u150 u151 u152 u153 u154 u155 u156 u157 u158 u159 u160 u161 u162 u163 u164 u165 u166 u167 u168 u169 u170 u171 u172 u173 u174 u175 u176 u177 u178 u179 u180 u181 u182 u183 u184 u185 u186 u187 u188 u189 u190 u191 u192 u193 u194 u195 u196 u197 u198 u199 u200 u201 u202 u203 u204 u205 u206 u207 u208 u209 u210 u211 u212 u213 u214 u215 u216 u217 u218 u219 u220 u221 u222 u223 u224 u225 u226 u227 u228 u229 u230 u231 u232 u233 u234 u235 u236 u237 u238 u239 u240 u241 u242 : Value}
    (hN : N ≤ 300) (hk : k ≤ 1000) (hrn : rn ≤ 300) (hj : j < nd) (hB : B ≤ W.heap.size) (hsg : SG W I (Lof rs) N k) (hrw : RowsAt W B ra rn rc rs) (y12 : Row W X12 34 [.int .i64 0, .int .i64 0, .int .i64 0]) (y13 : Row W X13 34 [.int .i64 0, .int .i64 0, .int .i64 0]) (y10 : Row W X10 34 (exC x))
    (hXI : ∀ j ∈ I.all, j < B) (hX : X10 ≠ X12 ∧ X10 ≠ X13 ∧ X12 ≠ X13) (hXB : B ≤ X10 ∧ B ≤ X12 ∧ B ≤ X13) (hfar : ∀ q ∈ [X12, X13], (0 < rn → ∀ y, ra = some y → y.block ≠ q) ∧ ∀ r ∈ rs, 0 < r.n → ∀ y, r.a = some y → y.block ≠ q)
    (hkc : W.cell? ⟨b, off + j * 3, none⟩ = some (.int .i64 kind)) (hcell : ∀ w', Upd (I.all ++ [X12, X13]) W w' → w'.cell? ⟨b, off + j * 3 + 2, none⟩ = some (.slice da dn dc)) (e0 : dn = d.length) (hdn : dn ≤ 100000) (hby : Byt d) (hcap : dn ≤ dc)
    (hdr : ∀ w', Upd (I.all ++ [X12, X13]) W w' → Reads w' da dc (d.map (Value.int .u8))) (hdd : 0 < dn → ∀ y, da = some y → y.block ∉ I.all) (hxo : exOk x) (hQ : ∀ c a d v w, Q (.panic c) (Act.put a (some d) v) w → Q (.panic c) a w)
    (h : ∀ (t16 t17 t18 t93 t94 t95 t96 t97 t98 t99 t100 t101 t102 t103 t104 t105 t106 t107 t108 t109 t110 t111 t112 t113 t114 t115 t116 t117 t118 t119 t120 t121 t122 t123 t124 t125 t126 t127 t128 t129 t130 t131 t132 t133 t134 t135 t136 t137 t138 t139 t140 t141 t142 t143 t144 t145 t146 t147 t148 t149 t150 t151 t152 t153 t154 t155 t156 t157 t158 t159 t160 t161 t162 t163 t164 t165 t166 t167 t168 t169 t170 t171 t172 t173 t174 t175 t176 t177 t178 t179 t180 t181 t182 t183 t184 : Value) (w' : World) (y : Ext) (f : Int) (na : Option Addr) (nn nc : Nat) (rs' : List RwB), StepOut W w' I B N k X12 X13 ra rn rs y na nn nc rs' → Q .normal ⟨#[.int .i64 N, .slice (some ⟨b, off, none⟩) nd cd, u2, u3, u4, .pointer (some ⟨I.m, 0, none⟩), u6, .slice ra rn rc, u8, .int .i64 j, .pointer (some ⟨X10, 0, none⟩), .slice na nn nc, .pointer (some ⟨X12, 0, none⟩), .pointer (some ⟨X13, 0, none⟩), .int .i64 f, .int .i64 f, t16, t17, t18, u19, u20, u21, u22, u23, u24, u25, u26, u27, u28, u29, u30, u31, u32, u33, u34, u35, u36, u37, u38, u39, u40, u41, u42, u43, u44, u45, u46, u47, u48, u49, u50, u51, u52, u53, u54, u55, u56, u57, u58, u59, u60, u61, u62, u63, u64, u65, u66, u67, u68, u69, u70, u71, u72, u73, u74, u75, u76, u77, u78, u79, u80, u81, u82, u83, u84, u85, u86, u87, u88, u89, u90, u91, u92, t93, t94, t95, t96, t97, t98, t99, t100, t101, t102, t103, t104, t105, t106, t107, t108, t109, t110, t111, t112, t113, t114, t115, t116, t117, t118, t119, t120, t121, t122, t123, t124, t125, t126, t127, t128, t129, t130, t131, t132, t133, t134, t135, t136, t137, t138, t139, t140, t141, t142, t143, t144, t145, t146, t147, t148, t149, t150, t151, t152, t153, t154, t155, t156, t157, t158, t159, t160, t161, t162, t163, t164, t165, t166, t167, t168, t169, t170, t171, t172, t173, t174, t175, t176, t177, t178, t179, t180, t181, t182, t183, t184, u185, u186, u187, u188, u189, u190, u191, u192, u193, u194, u195, u196, u197, u198, u199, u200, u201, u202, u203, u204, u205, u206, u207, u208, u209, u210, u211, u212, u213, u214, u215, u216, u217, u218, u219, u220, u221, u222, u223, u224, u225, u226, u227, u228, u229, u230, u231, u232, u233, u234, u235, u236, u237, u238, u239, u240, u241, u242], []⟩ w') : Code.wp Try.prog (unitOf 21 Try.f7) Q ⟨#[.int .i64 N, .slice (some ⟨b, off, none⟩) nd cd, u2, u3, u4, .pointer (some ⟨I.m, 0, none⟩), u6, .slice ra rn rc, u8, .int .i64 j, .pointer (some ⟨X10, 0, none⟩), .slice ra rn rc, .pointer (some ⟨X12, 0, none⟩), .pointer (some ⟨X13, 0, none⟩), .int .i64 0, .int .i64 0, u16, u17, u18, u19, u20, u21, u22, u23, u24, u25, u26, u27, u28, u29, u30, u31, u32, u33, u34, u35, u36, u37, u38, u39, u40, u41, u42, u43, u44, u45, u46, u47, u48, u49, u50, u51, u52, u53, u54, u55, u56, u57, u58, u59, u60, u61, u62, u63, u64, u65, u66, u67, u68, u69, u70, u71, u72, u73, u74, u75, u76, u77, u78, u79, u80, u81, u82, u83, u84, u85, u86, u87, u88, u89, u90, u91, u92, u93, u94, u95, u96, u97, u98, u99, u100, u101, u102, u103, u104, u105, u106, u107, u108, u109, u110, u111, u112, u113, u114, u115, u116, u117, u118, u119, u120, u121, u122, u123, u124, u125, u126, u127, u128, u129, u130, u131, u132, u133, u134, u135, u136, u137, u138, u139, u140, u141, u142, u143, u144, u145, u146, u147, u148, u149, u150, u151, u152, u153, u154, u155, u156, u157, u158, u159, u160, u161, u162, u163, u164, u165, u166, u167, u168, u169, u170, u171, u172, u173, u174, u175, u176, u177, u178, u179, u180, u181, u182, u183, u184, u185, u186, u187, u188, u189, u190, u191, u192, u193, u194, u195, u196, u197, u198, u199, u200, u201, u202, u203, u204, u205, u206, u207, u208, u209, u210, u211, u212, u213, u214, u215, u216, u217, u218, u219, u220, u221, u222, u223, u224, u225, u226, u227, u228, u229, u230, u231, u232, u233, u234, u235, u236, u237, u238, u239, u240, u241, u242], []⟩ W := by
  by_cases h1 : kind = 1
  · exact uput hN hk hrn hj hB hsg hrw y12 y13 y10 hXI hX hXB hfar hkc hcell e0 hdn hby hcap hdr hdd hxo h1 h
  · by_cases h2 : kind = 2
    · exact uget hN hk hrn hj hB hsg hrw y12 y13 y10 hXI hX hXB hfar hkc hcell e0 hdn hby hcap hdr hdd hxo h2 h
    · by_cases h3 : kind = 3
      · exact uset hN hk hrn hj hB hsg hrw y12 y13 y10 hXI hX hXB hfar hkc hcell e0 hdn hby hcap hdr hdd hxo h3 hQ h
      · exact ufree hN hk hrn hj hB hsg hrw y12 y13 y10 hXI hX hXB hfar hkc hcell e0 hdn hby hcap hdr hdd hxo ⟨h1, h2, h3⟩ h

theorem upd_cell {w w' : World} {l : List Nat} (u : Upd l w w') {b o : Nat} {v : Value} (h : w.cell? ⟨b, o, none⟩ = some v) (hb : b ∉ l) : w'.cell? ⟨b, o, none⟩ = some v := by
  have := u.reads (c := 0) (xs := [v]) (.inr ⟨⟨b, o, none⟩, rfl, fun i u hu => by
    cases i with
    | zero => cases hu; exact h
    | succ i => simp at hu⟩) (fun x hx => by cases hx; exact hb)
  rcases this with ⟨h1, -⟩ | ⟨x, hx, h1⟩
  · cases h1
  · cases hx; exact h1 0 v rfl

/-- What stands ahead of a round. -/
structure RoundAt (wr : World) (I : SpI) (N B j : Nat) (rs : List RwB) (ra : Option Addr) (rn rc : Nat) (T : List Ext) (v8 : Value) : Prop where
  sg : SG wr I (Lof rs) N j
  rows : RowsAt wr B ra rn rc rs
  own : wr.ownsRow B 34 3 v8 T.length (flatE T)
  few : T.length ≤ j
  oks : ∀ t ∈ T, exOk t
  sep : Sep v8.ownBlock ra rn rs

theorem RoundAt.len {wr : World} {I : SpI} {N B j : Nat} {rs : List RwB} {ra : Option Addr} {rn rc : Nat} {T : List Ext} {v8 : Value} (h : RoundAt wr I N B j rs ra rn rc T v8) (hN : N ≤ 300) : rn ≤ 300 := by
  have h1 := h.rows.len
  have h2 := h.sg.sum
  have h3 := sum_ge (Lof rs)
  have h4 : (Lof rs).length = rs.length := by simp [Lof]
  omega

/-- Behind a step and what is told: the next round's. -/
theorem RoundAt.next {wr W w4 w5 : World} {I : SpI} {N B j : Nat} {rs rs' : List RwB} {ra na : Option Addr} {rn rc nn nc X12 X13 : Nat} {T : List Ext} {ta : Option Addr} {tc : Nat} {v8 : Value} {y : Ext}
    (h : RoundAt wr I N B j rs ra rn rc T (.slice ta T.length tc)) {v0 : World} (hv : Upd I.all v0 wr) (hB0 : B = v0.heap.size) (hXI : ∀ q ∈ I.all, q < B) (hBw : B ≤ wr.heap.size) (hsz : wr.heap.size ≤ W.heap.size) (hu4 : Upd I.all wr w4) (hs : StepOut W w4 I B N j X12 X13 ra rn rs y na nn nc rs')
    (h8 : (y.2.1 ≤ 0 ∧ w5 = w4 ∧ v8 = .slice ta T.length tc) ∨ (0 < y.2.1 ∧ w5.ownsRow B 34 3 v8 (T.length + 1) (flatE (T ++ [y])) ∧ Upd (Value.slice ta T.length tc).ownBlock.toList w4 w5 ∧ ∀ k, v8.ownBlock = some k → (Value.slice ta T.length tc).ownBlock = some k ∨ w4.heap.size ≤ k)) :
    ∃ T', RoundAt w5 I N B (j + 1) rs' na nn nc T' v8 ∧ Upd I.all v0 w5 := by
  have hown4 := hu4.ownsAbove h.own hXI
  have hsep4 : Sep (Value.slice ta T.length tc).ownBlock na nn rs' := fun k hk => by
    have h1 := h.own.lt k hk
    refine ⟨fun h0 z hz e => ?_, fun r hr h0 z hz e => ?_⟩
    · rcases hs.fa with ⟨h2, h3⟩ | h2
      · exact (h.sep k hk).1 (by omega) z (by rw [← h2]; exact hz) e
      · have h3 := h2 z hz; omega
    · rcases hs.fr r hr with h2 | h2
      · exact (h.sep k hk).2 r h2 h0 z hz e
      · have h3 := h2 z hz; omega
  rcases h8 with ⟨-, rfl, rfl⟩ | ⟨-, o5, u5, f5⟩
  · exact ⟨T, ⟨hs.sg, hs.rows, hown4, Nat.le_succ_of_le h.few, h.oks, hsep4⟩, hv.trans hu4⟩
  · have hl : ∀ k ∈ (Value.slice ta T.length tc).ownBlock.toList, (Value.slice ta T.length tc).ownBlock = some k := fun k hk => by simpa using hk
    refine ⟨T ++ [y], ⟨hs.sg.keep u5 (fun q hq hm => ?_), hs.rows.keep' u5 (fun h0 z hz hm => (hsep4 _ (hl _ hm)).1 h0 z hz rfl) (fun r hr h0 z hz hm => (hsep4 _ (hl _ hm)).2 r hr h0 z hz rfl), ?_, ?_, ?_, ?_⟩, ?_⟩
    · have h1 := (h.own.lt q (hl q hm)).1
      have h2 := hXI q hq
      omega
    · rw [List.length_append]; exact o5
    · rw [List.length_append]; have := h.few; simp; omega
    · intro t ht
      rcases List.mem_append.1 ht with h1 | h1
      · exact h.oks t h1
      · rw [List.mem_singleton] at h1; subst h1; exact hs.ok
    · intro k hk
      rcases f5 k hk with h1 | h1
      · exact hsep4 k h1
      · refine ⟨fun h0 z hz e => ?_, fun r hr h0 z hz e => ?_⟩
        · have := hs.rows.lt h0 z hz; omega
        · have := (hs.rows.oks r hr).lt h0 z hz; omega
    · exact Upd.new ((hv.trans hu4).mono (m := I.all ++ (Value.slice ta T.length tc).ownBlock.toList) (fun q hq => List.mem_append_left _ hq) |>.trans (u5.mono (fun q hq => List.mem_append_right _ hq))) (fun q hq => (List.mem_append.1 hq).imp id (fun h1 => by have := (h.own.lt q (hl q h1)).1; omega))

end Go.Proofs.Ytpbokmmobepolaa
