/-
  Units of the round of ExtentSteps. (Written by exsteps.py.)
-/
import Derived.Test.YtpbokmmobepolaaExtZK
namespace Go.Proofs.Ytpbokmmobepolaa
open Go.RowKit Go.Maps
set_option linter.unusedVariables false
set_option maxHeartbeats 8000000
set_option maxRecDepth 100000

theorem ufree {Q : Exit → Act → World → Prop} {W : World} {I : SpI} {N k B b off nd cd j rn rc X10 X12 X13 dn dc : Nat} {ra da : Option Addr} {rs : List RwB} {kind : Int} {d : List Int} {x : Ext} {u2 u3 u4 u6 u8 u16 u17 u18 u19 u20 u21 u22 u23 u24 u25 u26 u27 u28 u29 u30 u31 u32 u33 u34 u35 u36 u37 u38 u39 u40 u41 u42 u43 u44 u45 u46 u47 u48 u49 u50 u51 u52 u53 u54 u55 u56 u57 u58 u59 u60 u61 u62 u63 u64 u65 u66 u67 u68 u69 u70 u71 u72 u73 u74 u75 u76 u77 u78 u79 u80 u81 u82 u83 u84 u85 u86 u87 u88 u89 u90 u91 u92 u93 u94 u95 u96 u97 u98 u99 u100 u101 u102 u103 u104 u105 u106 u107 u108 u109 u110 u111 u112 u113 u114 u115 u116 u117 u118 u119 u120 u121 u122 u123 u124 u125 u126 u127 u128 u129 u130 u131 u132 u133 u134 u135 u136 u137 u138 u139 u140 u141 u142 u143 u144 u145 u146 u147 u148 u149 u150 u151 u152 u153 u154 u155 u156 u157 u158 u159 u160 u161 u162 u163 u164 u165 u166 u167 u168 u169 u170 u171 u172 u173 u174 u175 u176 u177 u178 u179 u180 u181 u182 u183 u184 u185 u186 u187 u188 u189 u190 u191 u192 u193 u194 u195 u196 u197 u198 u199 u200 u201 u202 u203 u204 u205 u206 u207 u208 u209 u210 u211 u212 u213 u214 u215 u216 u217 u218 u219 u220 u221 u222 u223 u224 u225 u226 u227 u228 u229 u230 u231 u232 u233 u234 u235 u236 u237 u238 u239 u240 u241 u242 : Value}
    (hN : N ≤ 300) (hk : k ≤ 1000) (hrn : rn ≤ 300) (hj : j < nd) (hB : B ≤ W.heap.size) (hsg : SG W I (Lof rs) N k) (hrw : RowsAt W B ra rn rc rs) (y12 : Row W X12 34 [.int .i64 0, .int .i64 0, .int .i64 0]) (y13 : Row W X13 34 [.int .i64 0, .int .i64 0, .int .i64 0]) (y10 : Row W X10 34 (exC x))
    (hXI : ∀ j ∈ I.all, j < B) (hX : X10 ≠ X12 ∧ X10 ≠ X13 ∧ X12 ≠ X13) (hXB : B ≤ X10 ∧ B ≤ X12 ∧ B ≤ X13) (hfar : ∀ q ∈ [X12, X13], (0 < rn → ∀ y, ra = some y → y.block ≠ q) ∧ ∀ r ∈ rs, 0 < r.n → ∀ y, r.a = some y → y.block ≠ q)
    (hkc : W.cell? ⟨b, off + j * 3, none⟩ = some (.int .i64 kind)) (hcell : ∀ w', Upd (I.all ++ [X12, X13]) W w' → w'.cell? ⟨b, off + j * 3 + 2, none⟩ = some (.slice da dn dc)) (e0 : dn = d.length) (hdn : dn ≤ 100000) (hby : Byt d) (hcap : dn ≤ dc)
    (hdr : ∀ w', Upd (I.all ++ [X12, X13]) W w' → Reads w' da dc (d.map (Value.int .u8))) (hdd : 0 < dn → ∀ y, da = some y → y.block ∉ I.all) (hxo : exOk x) (hkind : kind ≠ 1 ∧ kind ≠ 2 ∧ kind ≠ 3)
    (h : ∀ (t16 t17 t18 t93 t94 t95 t96 t97 t98 t99 t100 t101 t102 t103 t104 t105 t106 t107 t108 t109 t110 t111 t112 t113 t114 t115 t116 t117 t118 t119 t120 t121 t122 t123 t124 t125 t126 t127 t128 t129 t130 t131 t132 t133 t134 t135 t136 t137 t138 t139 t140 t141 t142 t143 t144 t145 t146 t147 t148 t149 t150 t151 t152 t153 t154 t155 t156 t157 t158 t159 t160 t161 t162 t163 t164 t165 t166 t167 t168 t169 t170 t171 t172 t173 t174 t175 t176 t177 t178 t179 t180 t181 t182 t183 t184 : Value) (w' : World) (y : Ext) (f : Int) (na : Option Addr) (nn nc : Nat) (rs' : List RwB), StepOut W w' I B N k X12 X13 ra rn rs y na nn nc rs' → Q .normal ⟨#[.int .i64 N, .slice (some ⟨b, off, none⟩) nd cd, u2, u3, u4, .pointer (some ⟨I.m, 0, none⟩), u6, .slice ra rn rc, u8, .int .i64 j, .pointer (some ⟨X10, 0, none⟩), .slice na nn nc, .pointer (some ⟨X12, 0, none⟩), .pointer (some ⟨X13, 0, none⟩), .int .i64 f, .int .i64 f, t16, t17, t18, u19, u20, u21, u22, u23, u24, u25, u26, u27, u28, u29, u30, u31, u32, u33, u34, u35, u36, u37, u38, u39, u40, u41, u42, u43, u44, u45, u46, u47, u48, u49, u50, u51, u52, u53, u54, u55, u56, u57, u58, u59, u60, u61, u62, u63, u64, u65, u66, u67, u68, u69, u70, u71, u72, u73, u74, u75, u76, u77, u78, u79, u80, u81, u82, u83, u84, u85, u86, u87, u88, u89, u90, u91, u92, t93, t94, t95, t96, t97, t98, t99, t100, t101, t102, t103, t104, t105, t106, t107, t108, t109, t110, t111, t112, t113, t114, t115, t116, t117, t118, t119, t120, t121, t122, t123, t124, t125, t126, t127, t128, t129, t130, t131, t132, t133, t134, t135, t136, t137, t138, t139, t140, t141, t142, t143, t144, t145, t146, t147, t148, t149, t150, t151, t152, t153, t154, t155, t156, t157, t158, t159, t160, t161, t162, t163, t164, t165, t166, t167, t168, t169, t170, t171, t172, t173, t174, t175, t176, t177, t178, t179, t180, t181, t182, t183, t184, u185, u186, u187, u188, u189, u190, u191, u192, u193, u194, u195, u196, u197, u198, u199, u200, u201, u202, u203, u204, u205, u206, u207, u208, u209, u210, u211, u212, u213, u214, u215, u216, u217, u218, u219, u220, u221, u222, u223, u224, u225, u226, u227, u228, u229, u230, u231, u232, u233, u234, u235, u236, u237, u238, u239, u240, u241, u242], []⟩ w') : Code.wp Try.prog (unitOf 21 Try.f7) Q ⟨#[.int .i64 N, .slice (some ⟨b, off, none⟩) nd cd, u2, u3, u4, .pointer (some ⟨I.m, 0, none⟩), u6, .slice ra rn rc, u8, .int .i64 j, .pointer (some ⟨X10, 0, none⟩), .slice ra rn rc, .pointer (some ⟨X12, 0, none⟩), .pointer (some ⟨X13, 0, none⟩), .int .i64 0, .int .i64 0, u16, u17, u18, u19, u20, u21, u22, u23, u24, u25, u26, u27, u28, u29, u30, u31, u32, u33, u34, u35, u36, u37, u38, u39, u40, u41, u42, u43, u44, u45, u46, u47, u48, u49, u50, u51, u52, u53, u54, u55, u56, u57, u58, u59, u60, u61, u62, u63, u64, u65, u66, u67, u68, u69, u70, u71, u72, u73, u74, u75, u76, u77, u78, u79, u80, u81, u82, u83, u84, u85, u86, u87, u88, u89, u90, u91, u92, u93, u94, u95, u96, u97, u98, u99, u100, u101, u102, u103, u104, u105, u106, u107, u108, u109, u110, u111, u112, u113, u114, u115, u116, u117, u118, u119, u120, u121, u122, u123, u124, u125, u126, u127, u128, u129, u130, u131, u132, u133, u134, u135, u136, u137, u138, u139, u140, u141, u142, u143, u144, u145, u146, u147, u148, u149, u150, u151, u152, u153, u154, u155, u156, u157, u158, u159, u160, u161, u162, u163, u164, u165, u166, u167, u168, u169, u170, u171, u172, u173, u174, u175, u176, u177, u178, u179, u180, u181, u182, u183, u184, u185, u186, u187, u188, u189, u190, u191, u192, u193, u194, u195, u196, u197, u198, u199, u200, u201, u202, u203, u204, u205, u206, u207, u208, u209, u210, u211, u212, u213, u214, u215, u216, u217, u218, u219, u220, u221, u222, u223, u224, u225, u226, u227, u228, u229, u230, u231, u232, u233, u234, u235, u236, u237, u238, u239, u240, u241, u242], []⟩ W := by
  conv => arg 2; whnf
  have HH := Lib.hid h
  have HSG := Lib.hid hsg
  have HRW := Lib.hid hrw
  have H12 := Lib.hid y12
  have H13 := Lib.hid y13
  have H10 := Lib.hid y10
  have HX := Lib.hid hX
  have HXB := Lib.hid hXB
  have HCELL := Lib.hid hcell
  have HE := Lib.hid e0
  have HBY := Lib.hid hby
  have HDR := Lib.hid hdr
  have HDD := Lib.hid hdd
  have H12I : Hid (X12 ∉ I.all) := fun hm => by have := hXI _ hm; omega
  have H13I : Hid (X13 ∉ I.all) := fun hm => by have := hXI _ hm; omega
  have HFR : Hid (∀ z : World, Upd (I.all ++ [X12, X13]) W z → RowsAt z B ra rn rc rs) := fun z u => hrw.keep' u (fun h0 y hy hm => by
      rcases List.mem_append.1 hm with h1 | h1
      · have h2 := hrw.ab y hy; have h3 := hXI _ h1; omega
      · exact (hfar _ h1).1 h0 y hy rfl) (fun r hr h0 y hy hm => by
      rcases List.mem_append.1 hm with h1 | h1
      · have h2 := (hrw.oks r hr).2.2.2.2 y hy; have h3 := hXI _ h1; omega
      · exact (hfar _ h1).2 r hr h0 y hy rfl)
  have HLN : Hid (rs.length ≤ 300) := by unfold Hid; have := hrw.len; omega
  have HXI := Lib.hid hXI
  have HXO := Lib.hid hxo
  have c2 := hcell W (Upd.refl _ _)
  clear h hsg hrw y12 y13 y10 hXI hX hXB hfar hcell hby hdr hdd e0 hxo
  obtain ⟨p, q, s⟩ := x
  have x0 := H10.out.cell (i := 0) rfl
  have x1 := H10.out.cell (i := 1) rfl
  have x2 := H10.out.cell (i := 2) rfl
  have h10I : X10 ∉ I.all := fun hm => by have h1 := HXI.out _ hm; have h2 := HXB.out.1; omega
  have H10I := Lib.hid h10I
  have f1 : (kind == 1) = false := by simpa using hkind.1
  have f2 : (kind == 2) = false := by simpa using hkind.2.1
  have f3 : (kind == 3) = false := by simpa using hkind.2.2
  obtain ⟨g1, g2, g3⟩ := hkind
  obtain ⟨W1, hW⟩ : ∃ z, z = W.alloc (.cells #[.int .i64 p, .int .i64 q, .int .i64 s] 34) := ⟨_, rfl⟩
  have bW : Below W.heap.size W W1 := by rw [hW]; exact (Below.refl _ _).alloc (Nat.le_refl _) _
  have rr : Row W1 W.heap.size 34 [.int .i64 p, .int .i64 q, .int .i64 s] := by rw [hW]; exact Row.made W _ _
  have hrd : ReadsBy W1 (some ⟨W.heap.size, 0, none⟩) 3 exC [(p, q, s)] := row_by rr
  have hni : W.heap.size ∉ I.all := fun hm => by have := HSG.out.lt _ hm; omega
  have HFG := Lib.hid (gFree (HSG.out.below bW) (some ⟨W.heap.size, 0, none⟩) 1 1 [(p, q, s)] rfl (by omega) (Nat.le_refl _) hrd (fun x hx => by rw [List.mem_singleton] at hx; rw [hx]; exact HXO.out) (fun z hz => by cases hz; exact hni))
  have HU1 : Hid (Upd (I.all ++ [X12, X13]) W W1) := .of_below bW
  have H10 := Lib.hid (H10.out.keep (l := []) (.of_below bW) (by simp))
  have H12 := Lib.hid (H12.out.keep (l := []) (.of_below bW) (by simp))
  have H13 := Lib.hid (H13.out.keep (l := []) (.of_below bW) (by simp))
  have HW1 := Lib.hid hW
  clear h10I bW rr hrd hni hW
  go_wp2_with fail
  rw [← HW1.out]
  clear HW1 x0 x1 x2 c2
  refine HFG.out.mono ?_
  clear HFG
  rintro e w2 ⟨ku, h⟩
  have HU2 : Hid (Upd (I.all ++ [X12, X13]) W w2) := HU1.out.trans (ku.mono (by simp; exact fun a ha => .inl ha))
  have H10 := Lib.hid (H10.out.keep ku H10I.out)
  have H12 := Lib.hid (H12.out.keep ku H12I.out)
  have H13 := Lib.hid (H13.out.keep ku H13I.out)
  clear ku HU1
  have x0 := H10.out.cell (i := 0) rfl
  have x1 := H10.out.cell (i := 1) rfl
  have x2 := H10.out.cell (i := 2) rfl
  obtain ⟨W3, hW⟩ : ∃ z, z = w2.alloc (.cells #[.int .i64 p, .int .i64 q, .int .i64 s] 34) := ⟨_, rfl⟩
  have bW : Below w2.heap.size w2 W3 := by rw [hW]; exact (Below.refl _ _).alloc (Nat.le_refl _) _
  have rr : Row W3 w2.heap.size 34 [.int .i64 p, .int .i64 q, .int .i64 s] := by rw [hW]; exact Row.made w2 _ _
  have hrd : ReadsBy W3 (some ⟨w2.heap.size, 0, none⟩) 3 exC [(p, q, s)] := row_by rr
  have HU3 := Lib.hid (HU2.out.trans (.of_below bW))
  have HBW3 := Lib.hid bW
  have HRF := Lib.hid (r_Free (HFR.out W3 HU3.out) hrn (p, q, s) (some ⟨w2.heap.size, 0, none⟩) 1 hrd)
  have H12 := Lib.hid (H12.out.keep (l := []) (.of_below bW) (by simp))
  have H13 := Lib.hid (H13.out.keep (l := []) (.of_below bW) (by simp))
  have HW3 := Lib.hid hW
  clear bW rr hrd hW
  have HZ := Lib.hid h
  clear h
  have h := HZ.out
  rcases h with ⟨hnf, rfl, hg⟩ | ⟨hfi, rfl, hg⟩
  · have HNF := Lib.hid hnf
    have HG3 := Lib.hid (hg.below HBW3.out)
    clear hnf hg HZ
    go_wp2_with fail
    rw [← HW3.out]
    clear HW3 x0 x1 x2
    refine HRF.out.mono ?_
    clear HRF
    rintro e w4 ⟨hb, ⟨hf, rfl⟩ | ⟨kk, v, hf, hk2, rfl, hov⟩⟩
    rotate_left
    · obtain ⟨k', hk', hf', hxe⟩ := findE_some (x := (p, q, s)) (by rw [hf]; omega)
      exact absurd ⟨fun x hx => ⟨_, List.getElem_mem hk', by rw [List.mem_singleton] at hx; rw [hx, hxe]⟩, by simp⟩ HNF.out
    have HG4 := Lib.hid (HG3.out.below hb)
    have HU4 := Lib.hid (HU3.out.trans (.of_below hb))
    have H12 := Lib.hid (H12.out.keep (l := []) (.of_below hb) (by simp))
    have H13 := Lib.hid (H13.out.keep (l := []) (.of_below hb) (by simp))
    clear hb hf
    go_wp2_with fail
    exact HH.out _ _ _ _ _ _ _ _ _ _ _ _ _ _ _ _ _ _ _ _ _ _ _ _ _ _ _ _ _ _ _ _ _ _ _ _ _ _ _ _ _ _ _ _ _ _ _ _ _ _ _ _ _ _ _ _ _ _ _ _ _ _ _ _ _ _ _ _ _ _ _ _ _ _ _ _ _ _ _ _ _ _ _ _ _ _ _ _ _ _ _ _ _ _ _  w4 (0, 0, 0) 4 ra rn rc rs ⟨HG4.out.mono (Nat.le_succ _), HFR.out _ HU4.out, H12.out, H13.out, HU4.out, ok_zero, (.inl ⟨rfl, rfl⟩), fun r hr => .inl hr⟩
  · have HFI := Lib.hid hfi
    have HG3 := Lib.hid (hg.below HBW3.out)
    clear hfi hg HZ
    go_wp2_with fail
    rw [← HW3.out]
    clear HW3 x0 x1 x2
    refine HRF.out.mono ?_
    clear HRF
    rintro e w4 ⟨hb, ⟨hf, rfl⟩ | ⟨kk, v, hf, hk2, rfl, hov⟩⟩
    · obtain ⟨y, hy, hxe⟩ := HFI.out.1 (p, q, s) (by simp)
      exact absurd hxe (findE_none hf y hy)
    have hxr : ((p, q, s) : Ext) = rE rs[kk].x := by
      obtain ⟨k', hk', hf', hxe⟩ := findE_some (x := (p, q, s)) (L := Lof rs) (by rw [hf]; omega)
      have : k' = kk := by rw [hf] at hf'; omega
      subst this
      rw [hxe]; simp [Lof]
    have hlk : (Lof rs)[kk]? = some rs[kk].x := by simp [Lof, hk2]
    have hg4 : SG w4 I (Lof (rs.eraseIdx kk)) N k := by
      have := HG3.out
      rw [hxr, rest_one HSG.out.apart hlk] at this
      rw [lof_erase]
      exact this.below hb
    have HG4 := Lib.hid hg4
    have HU4 := Lib.hid (HU3.out.trans (.of_below hb))
    have H12 := Lib.hid (H12.out.keep (l := []) (.of_below hb) (by simp))
    have H13 := Lib.hid (H13.out.keep (l := []) (.of_below hb) (by simp))
    have hsz : W.heap.size ≤ W3.heap.size := HU3.out.size
    obtain ⟨na, nc, rfl, hrow, hnew⟩ := rows_made hov (Nat.le_trans hB hsz) (fun r hr => (HFR.out _ HU4.out).oks r (List.mem_of_mem_eraseIdx hr))
    have HROW := Lib.hid hrow
    have HNEW := Lib.hid hnew
    have HSZ := Lib.hid hsz
    clear hb hf hxr hlk hg4 hov hrow hnew hsz hk2
    generalize hnn : (rs.eraseIdx kk).length = nn at *
    clear hnn
    go_wp2_with fail
    exact HH.out _ _ _ _ _ _ _ _ _ _ _ _ _ _ _ _ _ _ _ _ _ _ _ _ _ _ _ _ _ _ _ _ _ _ _ _ _ _ _ _ _ _ _ _ _ _ _ _ _ _ _ _ _ _ _ _ _ _ _ _ _ _ _ _ _ _ _ _ _ _ _ _ _ _ _ _ _ _ _ _ _ _ _ _ _ _ _ _ _ _ _ _ _ _ _  w4 (0, 0, 0) 0 na nn nc (rs.eraseIdx kk) ⟨HG4.out.mono (Nat.le_succ _), HROW.out, H12.out, H13.out, HU4.out, ok_zero, (.inr (fun z hz => Nat.le_trans HSZ.out (HNEW.out z hz))), fun r hr => .inl (List.mem_of_mem_eraseIdx hr)⟩

end Go.Proofs.Ytpbokmmobepolaa
