/-
  Contracts of the document's package websterref05: Encode, Refs.
-/
import Derived.Test.YtdedidjobjdekaaWideR
namespace Go.Proofs.Ytdedidjobjdekaa
open Go.RowKit
set_option linter.unusedVariables false
set_option maxHeartbeats 400000

theorem r_All (a : Option Addr) (n c : Nat) (l : List Int) (w : World) (e0 : n = l.length) (h : Reads w a c (l.map (Value.int .i64))) (hb : I64 l) (hm : n ≤ 1000000) :
    Calls Try.prog 42 #[.slice a n c] w (MadeBytes w (allB l)) := by
  subst e0
  have hinf := inf_u8
  go_enter Try.func42, Try.ntmps42
  go_wp2
  go_loopw [3, 4] (fun v i wr => ∃ k : Nat, k ≤ l.length ∧ i = .int .i64 k ∧ wr.ownsRow w.heap.size 5 1 v (4 * k) ((allB (l.take k)).map (Value.int .u8)) ∧ Below w.heap.size w wr) (fun _ i _ => l.length - (intOf i).toNat)
  case atStart => exact ⟨0, Nat.zero_le _, rfl, World.ownsRow_nil _ _ _ _, Below.refl _ _⟩
  case round =>
    obtain ⟨k, hk, rfl, hown, hbel⟩ := hrel
    by_cases hlt : k < l.length
    · obtain ⟨b, off, rfl, hblt, hc⟩ := h.at (by simp; omega)
      have hx : l[k]? = some l[k] := List.getElem?_eq_getElem hlt
      have hbx := hb _ (List.getElem_mem hlt)
      have hcell := (hbel.cell (p := ⟨b, off + k, none⟩) hblt).trans (hc k _ (by simp [hlt]; rfl))
      have hs := allB_snoc hx
      have hlen := allB_len (l.take k)
      generalize l[k] = x at *
      obtain ⟨hx1, hx2⟩ := hbx
      have hsz := hbel.size
      have HS := Lib.hid hs
      have HL := Lib.hid hlen
      clear hs hlen hx hc h hb hinf
      go_wp2_with (first
        | (go_at_call 41; refine (r_Put _ _ hx1 hx2).mono ?_; rintro e w' ⟨rfl, rfl⟩)
        | (at_builtin; refine wpList_app rfl _ _ 23 rfl w.heap.size 5 (.int .u8 0) 1 1 Try.underlying23 inf_u8 rfl (by decide) _ _ _ rfl (hown.alloc _) _ 4 4 _ rfl rfl (put_reads _ x 4 _) (ints_one _ _) ?c1 ?c2 ?c3 ?_))
      case c1 => unfold maxLen; omega
      case c2 => omega
      case c3 => simp; omega
      · intro v' w1 hown' hgr
        have hlt' := hown.lt
        have hbel' : Below w.heap.size w w1 := (hbel.alloc hsz _).grown hgr (by simp; omega) (fun k hk => (hlt' k hk).1)
        clear hgr hown
        go_wp2
        go_roundw
        case rel => exact ⟨k + 1, by omega, by go_num, by rw [HS.out, List.map_append]; exact hown', hbel'⟩
        case measure => simp [intOf]; omega
    · have hkl : k = l.length := by omega
      subst hkl
      rw [List.take_of_length_le (Nat.le_refl _)] at hown
      rw [← allB_len] at hown
      clear hinf hb h
      go_wp2
      go_ret
      exact ⟨_, rfl, hown, hbel⟩

theorem ownsRow_list (w : World) (base : Nat) (e : TypeId) (xs : List Value) (n : Nat) (hn : n = xs.length) (hm : n ≤ maxLen) (hb : base ≤ w.heap.size) : (w.alloc (.cells xs.toArray e)).ownsRow base e 1 (.slice (some ⟨w.heap.size, 0, none⟩) n n) n xs :=
  ⟨by simp [hn], .inr ⟨w.heap.size, n, xs.toArray, rfl, hb, heap_alloc_new w _, Nat.le_refl _, hm, by simp [hn], by simp [hn]⟩⟩

theorem size_sum {cls kind : Int} {W B : List Int} (h : okObj cls kind W B) : (sizeO kind W B : Int) = (W.length : Int) + (B.length : Int) := by
  unfold sizeO
  rcases h.2 with ⟨k1, h2, _⟩ | ⟨k1, h2, _⟩
  · rw [if_pos k1, h2]; simp
  · rw [if_neg (by omega), if_pos k1, h2]; simp

theorem r_Encode (o : ObjD) (w : World) (h : o.ok w) (hm : o.wn ≤ 1000000) (hm2 : o.bn ≤ 1000000) : Calls Try.prog 21 #[o.val] w (EncPost o w) := by
  have hbox : ∀ w, Below w.heap.size w (w.alloc (.cells #[.int .i64 o.cls, .int .i64 o.kind, .slice o.wa o.wn o.wc, .slice o.ba o.bn o.bc] 25)) := fun w => (Below.refl _ w).alloc (Nat.le_refl _) _
  have HC := Lib.hid (r_Check o (w.alloc (.cells #[.int .i64 o.cls, .int .i64 o.kind, .slice o.wa o.wn o.wc, .slice o.ba o.bn o.bc] 25)) (h.below (hbox w)) (by omega) (by omega))
  have HB0 := Lib.hid (hbox w)
  by_cases hok : okObj o.cls o.kind o.W o.B
  · have he : chkE o = 0 := by unfold chkE; rw [if_pos hok]
    have hx : encO o = encB o.cls o.kind o.W o.B := by unfold encO; rw [if_pos hok]
    unfold EncPost
    rw [hx, he]
    rw [he] at HC
    have HOK := Lib.hid hok
    have HH := Lib.hid h
    have hs := size_sum hok
    obtain ⟨cls, kind, wa, wn, wc, W, ba, bn, bc, B⟩ := o
    have hwl : wn = W.length := h.wl
    have hbl : bn = B.length := h.bl
    subst hwl; subst hbl
    have hcr := h.c0
    have hkr := h.k0
    have HS := Lib.hid hs
    clear h hok he hx hbox hs
    unfold ObjD.val at *
    dsimp only at *
    go_enter Try.func21, Try.ntmps21
    go_wp2_with fail
    refine HC.out.mono ?_
    clear HC
    rintro e w1 ⟨rfl, bel⟩
    obtain ⟨wb, hwb⟩ : ∃ z, z = w.alloc (.cells #[.int .i64 cls, .int .i64 kind, .slice wa W.length wc, .slice ba B.length bc] 25) := ⟨_, rfl⟩
    have hbs : wb.heap.size = w.heap.size + 1 := by rw [hwb]; simp
    have hq : ∀ i v, [Value.int .i64 cls, Value.int .i64 kind, Value.slice wa W.length wc, Value.slice ba B.length bc][i]? = some v → wb.cell? ⟨w.heap.size, i, none⟩ = some v := fun i v hv => by rw [hwb]; exact (Row.made w [Value.int .i64 cls, Value.int .i64 kind, Value.slice wa W.length wc, Value.slice ba B.length bc] 25).cell hv
    rw [← hwb] at HB0 bel
    have b0 := hq 0 _ rfl
    have b1 := hq 1 _ rfl
    have b2 := hq 2 _ rfl
    have b3 := hq 3 _ rfl
    have HQ := Lib.hid (And.intro b0 (And.intro b1 (And.intro b2 b3)))
    have HB1 := Lib.hid bel
    have k0 := cellKeep bel b0
    have hsz1 := bel.size
    clear hq b0 b1 b2 b3 hwb bel
    obtain ⟨q, hqe⟩ : ∃ q, q = w.heap.size := ⟨_, rfl⟩
    rw [← hqe] at k0 HQ ⊢
    have HQE := Lib.hid hqe
    have HBS := Lib.hid hbs
    clear hqe hbs
    go_wp2_with fail
    refine (r_Put cls w1 hcr.1 hcr.2).mono ?_
    rintro e w2 ⟨rfl, rfl⟩
    obtain ⟨w2, hw2⟩ : ∃ z, z = (w1.alloc (.cells #[.int .u8 (cls / 16777216 % 256), .int .u8 (cls / 65536 % 256), .int .u8 (cls / 256 % 256), .int .u8 (cls % 256)] 5)) := ⟨_, rfl⟩
    have own2 : w2.ownsRow wb.heap.size 5 1 (.slice (some ⟨w1.heap.size, 0, none⟩) 4 4) 4 ((put4 cls).map (Value.int .u8)) := by
      rw [hw2]
      exact ownsRow_list w1 wb.heap.size 5 ((put4 cls).map (Value.int .u8)) 4 rfl (by unfold maxLen; omega) hsz1
    have bel2 : Below wb.heap.size wb w2 := by rw [hw2]; exact HB1.out.alloc hsz1 _
    rw [← hw2]
    have HB2 := Lib.hid bel2
    have hsz2 := bel2.size
    have k1 := cellKeep bel2 HQ.out.2.1
    obtain ⟨v2, hv2⟩ : ∃ v, v = Value.slice (some ⟨w1.heap.size, 0, none⟩) 4 4 := ⟨_, rfl⟩
    rw [← hv2] at own2
    rw [← hv2]
    clear hv2 hw2 bel2 k0
    go_wp2_with (first
      | (go_at_call 41; refine (r_Put kind w2 hkr.1 hkr.2).mono ?_; rintro e w' ⟨rfl, rfl⟩)
      | (at_builtin; refine wpList_app rfl _ _ 23 rfl wb.heap.size 5 (.int .u8 0) 1 1 Try.underlying23 inf_u8 rfl (by decide) _ _ _ rfl (own2.alloc _) _ 4 4 _ rfl rfl (put_reads _ kind 4 _) (ints_one _ _) (by unfold maxLen; omega) (by omega) (by simp; omega) ?_))
    intro v3 w3 own3 gr3
    have hlo2 := own2.lt
    have bel3 : Below wb.heap.size wb w3 := (HB2.out.alloc hsz2 _).grown gr3 (by simp; omega) (fun k hk => (hlo2 k hk).1)
    have HB3 := Lib.hid bel3
    have hsz3 := bel3.size
    have k2 := cellKeep bel3 HQ.out.2.2.1
    have k3 := cellKeep bel3 HQ.out.2.2.2
    rw [← List.map_append] at own3
    obtain ⟨sz, hsz⟩ : ∃ sz : Int, sz = (W.length : Int) + (B.length : Int) := ⟨_, rfl⟩
    have hszr : -9223372036854775808 ≤ sz ∧ sz ≤ 9223372036854775807 := by omega
    have HSZ := Lib.hid hsz
    clear gr3 hlo2 own2 bel3 k1 hsz
    go_wp2_with (first
      | (go_at_call 41; rw [← HSZ.out]; refine (r_Put sz w3 hszr.1 hszr.2).mono ?_; rintro e w' ⟨rfl, rfl⟩)
      | (at_builtin; refine wpList_app rfl _ _ 23 rfl wb.heap.size 5 (.int .u8 0) 1 1 Try.underlying23 inf_u8 rfl (by decide) _ _ _ rfl (own3.alloc _) _ 4 4 _ rfl rfl (put_reads _ sz 4 _) (ints_one _ _) (by unfold maxLen; omega) (by omega) (by simp; omega) ?_))
    intro v4 w4 own4 gr4
    have hlo3 := own3.lt
    have bel4 : Below wb.heap.size wb w4 := (HB3.out.alloc hsz3 _).grown gr4 (by simp; omega) (fun k hk => (hlo3 k hk).1)
    have HB4 := Lib.hid bel4
    have hsz4 := bel4.size
    have k4 := cellKeep bel4 HQ.out.2.2.1
    rw [← List.map_append] at own4
    have HHok := Lib.hid (HH.out.below (HB0.out.trans (bel4.mono (by have := HBS.out; omega))))
    have HA := Lib.hid (r_All wa W.length wc W w4 rfl HHok.out.wr HHok.out.wi hm)
    clear gr4 hlo3 own3 bel4 k2 k3
    go_wp2_with fail
    refine HA.out.mono ?_
    clear HA
    rintro e w5 ⟨v5, rfl, own5, bel5⟩
    obtain ⟨a5, c5, rfl, hr5, hc5, hv5⟩ := owns_reads own5
    have own45 := ownsSame own4 (fun k hk => bel5.block k (own4.lt k hk).2)
    have hl5 := allB_len W
    rw [hl5]
    have HB5 := Lib.hid (HB4.out.trans (bel5.mono hsz4))
    have hsz5 := HB5.out.size
    have hAl : (allB W).length ≤ 4000000 := by omega
    generalize hAW : allB W = AW at *
    have HL5 := Lib.hid hl5
    clear own4 own5 bel5 hc5 hv5 hl5 hAl
    go_wp2_with (at_builtin; refine wpList_app rfl _ _ 23 rfl wb.heap.size 5 (.int .u8 0) 1 1 Try.underlying23 inf_u8 rfl (by decide) _ _ _ rfl own45 _ (4 * W.length) c5 _ rfl (by have := HL5.out; simp; omega) hr5 (ints_one _ _) (by unfold maxLen; omega) (by omega) (by omega) ?_)
    intro v6 w6 own6 gr6
    have hlo5 := own45.lt
    have bel6 : Below wb.heap.size wb w6 := HB5.out.grown gr6 (by omega) (fun k hk => (hlo5 k hk).1)
    have HB6 := Lib.hid bel6
    have hsz6 := bel6.size
    have k6 := cellKeep bel6 HQ.out.2.2.2
    have hr6 := (HH.out.below (HB0.out.trans (bel6.mono (by have := HBS.out; omega)))).br
    have HR6 := Lib.hid hr6
    rw [← List.map_append] at own6
    clear gr6 hlo5 own45 bel6 hr5 hr6
    dsimp only at HR6
    go_wp2_with (at_builtin; refine wpList_app rfl _ _ 23 rfl wb.heap.size 5 (.int .u8 0) 1 1 Try.underlying23 inf_u8 rfl (by decide) _ _ _ rfl own6 _ B.length bc _ rfl (by simp) HR6.out (ints_one _ _) (by unfold maxLen; omega) (by omega) (by omega) ?_)
    intro v7 w7 own7 gr7
    have hlo6 := own6.lt
    have bel7 : Below wb.heap.size wb w7 := HB6.out.grown gr7 (by omega) (fun k hk => (hlo6 k hk).1)
    have HB7 := Lib.hid bel7
    rw [← List.map_append] at own7
    have hbs := HBS.out
    have hfin : (((put4 cls ++ put4 kind) ++ put4 sz) ++ AW) ++ B = encB cls kind W B := by
      unfold encB
      rw [HS.out, ← HSZ.out, hAW]
      simp only [List.append_assoc]
    have hlf : 12 + 4 * W.length + B.length = (encB cls kind W B).length := by
      rw [← hfin]
      have := HL5.out
      simp only [List.length_append, put4_len]
      omega
    have own8 : w7.ownsRow wb.heap.size 5 1 v7 (encB cls kind W B).length ((encB cls kind W B).map (Value.int .u8)) := by
      rw [← hlf, ← hfin]
      exact own7
    have HO8 := Lib.hid own8
    clear gr7 hlo6 own6 own7 own8 bel7 HR6 hfin hlf
    go_wp2
    go_ret2
    exact ⟨v7, rfl, owns_mono HO8.out (by omega), HB0.out.trans (HB7.out.mono (by omega))⟩
  · have he : chkE o = 2 := by unfold chkE; rw [if_neg hok]
    have hx : encO o = [] := by unfold encO; rw [if_neg hok]
    unfold EncPost
    rw [hx, he]
    rw [he] at HC
    obtain ⟨cls, kind, wa, wn, wc, W, ba, bn, bc, B⟩ := o
    have hq : ∀ i v, [Value.int .i64 cls, Value.int .i64 kind, Value.slice wa wn wc, Value.slice ba bn bc][i]? = some v → (w.alloc (.cells #[.int .i64 cls, .int .i64 kind, .slice wa wn wc, .slice ba bn bc] 25)).cell? ⟨w.heap.size, i, none⟩ = some v := fun i v hv => (Row.made w [Value.int .i64 cls, Value.int .i64 kind, Value.slice wa wn wc, Value.slice ba bn bc] 25).cell hv
    clear h hok he hx hbox
    unfold ObjD.val at *
    dsimp only at *
    go_enter Try.func21, Try.ntmps21
    go_wp2_with fail
    refine HC.out.mono ?_
    clear HC
    rintro e w1 ⟨rfl, bel⟩
    have HB1 := Lib.hid (bNext HB0.out bel)
    clear bel hq
    go_wp2
    go_ret2
    exact ⟨.slice none 0 0, rfl, World.ownsRow_nil _ _ _ _, HB1.out⟩

theorem r_Refs (o : ObjD) (w : World) (h : o.ok w) (hm : o.wn ≤ 1000000) : Calls Try.prog 29 #[o.val] w (MadeIntsW w (refsOf (o.cls :: o.W))) := by
  obtain ⟨cls, kind, wa, wn, wc, W, ba, bn, bc, B⟩ := o
  obtain ⟨hc, hk, wl, wm, wr, wi, bl, bm, br, bb⟩ := h
  unfold ObjD.val
  dsimp only at *
  subst wl
  obtain ⟨wb, hwb⟩ : ∃ z, z = w.alloc (.cells #[.int .i64 cls, .int .i64 kind, .slice wa W.length wc, .slice ba bn bc] 25) := ⟨_, rfl⟩
  have HRW := Lib.hid (show Reads wb wa wc (W.map (Value.int .i64)) from by rw [hwb]; exact wr.alloc _)
  have HB0 := Lib.hid (show Below w.heap.size w wb from by rw [hwb]; exact (Below.refl _ w).alloc (Nat.le_refl _) _)
  have hbs : wb.heap.size = w.heap.size + 1 := by rw [hwb]; simp
  have hrow : Row wb w.heap.size 25 [.int .i64 cls, .int .i64 kind, .slice wa W.length wc, .slice ba bn bc] := by
    rw [hwb]; exact Row.made w _ _
  have HI := Lib.hid wi
  have k0 := hrow.cell (i := 0) rfl
  have HQ := Lib.hid (hrow.cell (i := 2) rfl)
  have HN := Lib.hid (r_Named cls wb hc.1 hc.2)
  have HC := Lib.hid (show refsOf (cls :: W) = refsOf [cls] ++ refsOf W from refsOf_append [cls] W)
  rw [hwb] at HN k0
  have HBS := Lib.hid hbs
  have HWB := Lib.hid hwb
  clear wm wr wi bl bm br bb hc hk hrow hwb hbs
  cases hn : namIs cls with
  | true =>
    have hr1 : refsOf [cls] = [namV cls] := by simp [refsOf, hn]
    rw [hn] at HN
    rw [hr1] at HC
    have HR1 := Lib.hid hr1
    clear hr1 hn
    go_enter Try.func29, Try.ntmps29
    go_wp2_with (first
      | (go_at_call 39; refine HN.out.mono ?_; rintro e w' ⟨rfl, rfl⟩; rw [← HWB.out])
      | (at_builtin; refine wpList_app rfl _ _ 22 rfl wb.heap.size 3 (.int .i64 0) 1 8 Try.underlying22 inf_intW rfl (by decide) _ 0 [] rfl (World.ownsRow_nil _ _ _ _) _ 1 1 [.int .i64 (namV cls)] rfl rfl (Reads.madeAt rfl) (by simp [Value.oneCell']) (by unfold maxLen; omega) (by omega) (by simp) ?_))
    intro v1 w1 own1 gr1
    have bel1 : Below wb.heap.size wb w1 := ((Below.refl _ _).alloc (Nat.le_refl _) _).grown gr1 (by simp) (fun k hk => by simp [Value.ownBlock] at hk)
    obtain ⟨L, hL⟩ : ∃ L : List Int, L = [namV cls] := ⟨_, rfl⟩
    rw [← hL] at HC
    have own2 : w1.ownsRow wb.heap.size 3 1 v1 L.length (L.map (Value.int .i64)) := by rw [hL]; exact own1
    have hLl : L.length ≤ 1 := by rw [hL]; exact Nat.le_refl _
    clear hL own1 gr1 k0 HR1
    go_wp2
    go_loopw [3, 6] (fun v i wr => ∃ k : Nat, k ≤ W.length ∧ i = .int .i64 k ∧ Hid (wr.ownsRow wb.heap.size 3 1 v (L ++ refsOf (W.take k)).length ((L ++ refsOf (W.take k)).map (Value.int .i64))) ∧ Hid (Below wb.heap.size wb wr)) (fun _ i _ => W.length - (intOf i).toNat)
    case atStart => exact ⟨0, Nat.zero_le _, rfl, by rw [List.take_zero, refsOf, List.append_nil]; exact own2, bel1⟩
    case round =>
      obtain ⟨k, hk, rfl, hown, hbel⟩ := hrel
      have q2 := cellKeep hbel.out HQ.out
      by_cases hlt : k < W.length
      · have HLT := Lib.hid hlt
        have hkb : k ≤ 1000001 := by omega
        obtain ⟨b0, o0, rfl, _, hc0⟩ := (HRW.out.below hbel.out).at (by simp; omega)
        have k0 := hc0 k _ (getD_map8 hlt)
        have hs := Lib.hid (refsOf_take hlt)
        have hxr : -9223372036854775808 ≤ W.getD k 0 ∧ W.getD k 0 ≤ 9223372036854775807 := by
          rw [List.getD_eq_getElem?_getD, List.getElem?_eq_getElem hlt]
          exact HI.out _ (List.getElem_mem hlt)
        generalize W.getD k 0 = x at *
        have HN := Lib.hid (r_Named x wr hxr.1 hxr.2)
        clear hc0 hxr
        by_cases hn : namIs x = true
        · rw [hn] at HN
          have hs2 := hs.out
          rw [if_pos hn] at hs2
          have hl2 := congrArg List.length hs2
          have hlr := refsOf_len (W.take k)
          have hkk : (W.take k).length = k := by simp; omega
          have hsz := hbel.out.size
          have hg8 : (L ++ refsOf (W.take k)).length ≤ 1000002 := by rw [List.length_append]; omega
          obtain ⟨m, hm'⟩ : ∃ m, m = (L ++ refsOf (W.take k)).length := ⟨_, rfl⟩
          rw [← hm'] at hown hg8
          have HM := Lib.hid hm'
          have HS2 := Lib.hid hs2
          have HL2 := Lib.hid hl2
          clear hn hs hs2 hl2 hlr hkk hm'
          go_wp2_with (first
            | (go_at_call 39; refine HN.out.mono ?_; rintro e w' ⟨rfl, rfl⟩)
            | (at_builtin; refine wpList_app rfl _ _ 22 rfl wb.heap.size 3 (.int .i64 0) 1 8 Try.underlying22 inf_intW rfl (by decide) _ _ _ rfl (hown.out.alloc _) _ 1 1 [.int .i64 (namV x)] rfl rfl (Reads.madeAt rfl) (by simp [Value.oneCell']) (by unfold maxLen; omega) (by omega) (by simp; omega) ?_))
          intro v' w3 own3 gr3
          have hlo := hown.out.lt
          have HB3 := Lib.hid ((hbel.out.alloc hsz _).grown gr3 (by simp; omega) (fun k hk => (hlo k hk).1))
          have HO3 : Hid (w3.ownsRow wb.heap.size 3 1 v' (L ++ refsOf (W.take (k + 1))).length ((L ++ refsOf (W.take (k + 1))).map (Value.int .i64))) := by
            have e1 : L ++ refsOf (W.take (k + 1)) = (L ++ refsOf (W.take k)) ++ [namV x] := by rw [HS2.out, List.append_assoc]
            rw [e1, List.map_append, List.length_append, ← HM.out, List.map_append, List.append_assoc]
            exact own3
          clear gr3 hlo own3 hown hbel q2
          go_wp2
          go_roundw
          case rel => exact ⟨k + 1, HLT.out, by go_num, HO3.out, HB3.out⟩
          case measure => have := HLT.out; simp [intOf]; omega
        · have hn2 : namIs x = false := by simpa using hn
          rw [hn2] at HN
          have hs2 := hs.out
          rw [if_neg hn, List.append_nil] at hs2
          have HO3 : Hid (wr.ownsRow wb.heap.size 3 1 u3 (L ++ refsOf (W.take (k + 1))).length ((L ++ refsOf (W.take (k + 1))).map (Value.int .i64))) := by
            rw [hs2]
            exact hown.out
          clear hn hn2 hs hs2 hown
          go_wp2_with (go_at_call 39; refine HN.out.mono ?_; rintro e w' ⟨rfl, rfl⟩)
          go_roundw
          case rel => exact ⟨k + 1, HLT.out, by go_num, HO3.out, hbel.out⟩
          case measure => have := HLT.out; simp [intOf]; omega
      · obtain rfl : k = W.length := by omega
        rw [List.take_of_length_le (Nat.le_refl _), ← HC.out] at hown
        have hbs := HBS.out
        have HBS2 := Lib.hid hbs
        clear hbs
        go_wp2
        go_ret
        exact ⟨_, rfl, owns_mono hown.out (by have := HBS2.out; omega), HB0.out.trans (hbel.out.mono (by have := HBS2.out; omega))⟩
  | false =>
    have hr1 : refsOf [cls] = [] := by simp [refsOf, hn]
    rw [hn] at HN
    rw [hr1] at HC
    clear hr1 hn
    go_enter Try.func29, Try.ntmps29
    go_wp2_with (go_at_call 39; refine HN.out.mono ?_; rintro e w' ⟨rfl, rfl⟩; rw [← HWB.out])
    obtain ⟨v1, hv1⟩ : ∃ v, v = Value.slice none 0 0 := ⟨_, rfl⟩
    obtain ⟨w1, hw1⟩ : ∃ v, v = wb := ⟨_, rfl⟩
    have bel1 : Below wb.heap.size wb w1 := by rw [hw1]; exact Below.refl _ _
    obtain ⟨L, hL⟩ : ∃ L : List Int, L = [] := ⟨_, rfl⟩
    rw [← hL] at HC
    have own2 : w1.ownsRow wb.heap.size 3 1 v1 L.length (L.map (Value.int .i64)) := by rw [hL, hv1]; exact World.ownsRow_nil _ _ _ _
    have hLl : L.length ≤ 1 := by rw [hL]; exact Nat.zero_le _
    rw [← hv1]
    try rw [← hw1]
    clear hL hv1 hw1 k0
    go_loopw [3, 6] (fun v i wr => ∃ k : Nat, k ≤ W.length ∧ i = .int .i64 k ∧ Hid (wr.ownsRow wb.heap.size 3 1 v (L ++ refsOf (W.take k)).length ((L ++ refsOf (W.take k)).map (Value.int .i64))) ∧ Hid (Below wb.heap.size wb wr)) (fun _ i _ => W.length - (intOf i).toNat)
    case atStart => exact ⟨0, Nat.zero_le _, rfl, by rw [List.take_zero, refsOf, List.append_nil]; exact own2, bel1⟩
    case round =>
      obtain ⟨k, hk, rfl, hown, hbel⟩ := hrel
      have q2 := cellKeep hbel.out HQ.out
      by_cases hlt : k < W.length
      · have HLT := Lib.hid hlt
        have hkb : k ≤ 1000001 := by omega
        obtain ⟨b0, o0, rfl, _, hc0⟩ := (HRW.out.below hbel.out).at (by simp; omega)
        have k0 := hc0 k _ (getD_map8 hlt)
        have hs := Lib.hid (refsOf_take hlt)
        have hxr : -9223372036854775808 ≤ W.getD k 0 ∧ W.getD k 0 ≤ 9223372036854775807 := by
          rw [List.getD_eq_getElem?_getD, List.getElem?_eq_getElem hlt]
          exact HI.out _ (List.getElem_mem hlt)
        generalize W.getD k 0 = x at *
        have HN := Lib.hid (r_Named x wr hxr.1 hxr.2)
        clear hc0 hxr
        by_cases hn : namIs x = true
        · rw [hn] at HN
          have hs2 := hs.out
          rw [if_pos hn] at hs2
          have hl2 := congrArg List.length hs2
          have hlr := refsOf_len (W.take k)
          have hkk : (W.take k).length = k := by simp; omega
          have hsz := hbel.out.size
          have hg8 : (L ++ refsOf (W.take k)).length ≤ 1000002 := by rw [List.length_append]; omega
          obtain ⟨m, hm'⟩ : ∃ m, m = (L ++ refsOf (W.take k)).length := ⟨_, rfl⟩
          rw [← hm'] at hown hg8
          have HM := Lib.hid hm'
          have HS2 := Lib.hid hs2
          have HL2 := Lib.hid hl2
          clear hn hs hs2 hl2 hlr hkk hm'
          go_wp2_with (first
            | (go_at_call 39; refine HN.out.mono ?_; rintro e w' ⟨rfl, rfl⟩)
            | (at_builtin; refine wpList_app rfl _ _ 22 rfl wb.heap.size 3 (.int .i64 0) 1 8 Try.underlying22 inf_intW rfl (by decide) _ _ _ rfl (hown.out.alloc _) _ 1 1 [.int .i64 (namV x)] rfl rfl (Reads.madeAt rfl) (by simp [Value.oneCell']) (by unfold maxLen; omega) (by omega) (by simp; omega) ?_))
          intro v' w3 own3 gr3
          have hlo := hown.out.lt
          have HB3 := Lib.hid ((hbel.out.alloc hsz _).grown gr3 (by simp; omega) (fun k hk => (hlo k hk).1))
          have HO3 : Hid (w3.ownsRow wb.heap.size 3 1 v' (L ++ refsOf (W.take (k + 1))).length ((L ++ refsOf (W.take (k + 1))).map (Value.int .i64))) := by
            have e1 : L ++ refsOf (W.take (k + 1)) = (L ++ refsOf (W.take k)) ++ [namV x] := by rw [HS2.out, List.append_assoc]
            rw [e1, List.map_append, List.length_append, ← HM.out, List.map_append, List.append_assoc]
            exact own3
          clear gr3 hlo own3 hown hbel q2
          go_wp2
          go_roundw
          case rel => exact ⟨k + 1, HLT.out, by go_num, HO3.out, HB3.out⟩
          case measure => have := HLT.out; simp [intOf]; omega
        · have hn2 : namIs x = false := by simpa using hn
          rw [hn2] at HN
          have hs2 := hs.out
          rw [if_neg hn, List.append_nil] at hs2
          have HO3 : Hid (wr.ownsRow wb.heap.size 3 1 u3 (L ++ refsOf (W.take (k + 1))).length ((L ++ refsOf (W.take (k + 1))).map (Value.int .i64))) := by
            rw [hs2]
            exact hown.out
          clear hn hn2 hs hs2 hown
          go_wp2_with (go_at_call 39; refine HN.out.mono ?_; rintro e w' ⟨rfl, rfl⟩)
          go_roundw
          case rel => exact ⟨k + 1, HLT.out, by go_num, HO3.out, hbel.out⟩
          case measure => have := HLT.out; simp [intOf]; omega
      · obtain rfl : k = W.length := by omega
        rw [List.take_of_length_le (Nat.le_refl _), ← HC.out] at hown
        have hbs := HBS.out
        have HBS2 := Lib.hid hbs
        clear hbs
        go_wp2
        go_ret
        exact ⟨_, rfl, owns_mono hown.out (by have := HBS2.out; omega), HB0.out.trans (hbel.out.mono (by have := HBS2.out; omega))⟩

end Go.Proofs.Ytdedidjobjdekaa
