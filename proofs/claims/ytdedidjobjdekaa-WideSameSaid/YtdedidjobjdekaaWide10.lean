/-
  Contracts of package wide: Refs, Copy.
-/
import Derived.Test.YtdedidjobjdekaaWide9
namespace Go.Proofs.Ytdedidjobjdekaa
open Go.RowKit
set_option linter.unusedVariables false
set_option maxHeartbeats 400000

theorem ownsRow_one (w : World) (base : Nat) (e : TypeId) (x : Value) (hb : base ≤ w.heap.size) : (w.alloc (.cells #[x] e)).ownsRow base e 1 (.slice (some ⟨w.heap.size, 0, none⟩) 1 1) 1 [x] :=
  ⟨by simp, .inr ⟨w.heap.size, 1, #[x], rfl, hb, heap_alloc_new w _, Nat.le_refl _, by unfold maxLen; omega, by simp, by simp⟩⟩

theorem ownsRow_oneAt {w : World} {base b : Nat} {e : TypeId} {x : Value} (hb : base ≤ w.heap.size) (h : b = w.heap.size) : (w.alloc (.cells #[x] e)).ownsRow base e 1 (.slice (some ⟨b, 0, none⟩) 1 1) 1 [x] := by
  subst h; exact ownsRow_one w base e x hb

theorem c_WRefs (o : ObjD) (w : World) (h : o.ok w) (hm : o.wn ≤ 1000000) : Calls Try.prog 28 #[o.val] w (MadeIntsW w (refsOf (o.cls :: o.W))) := by
  obtain ⟨cls, kind, wa, wn, wc, W, ba, bn, bc, B⟩ := o
  obtain ⟨hc, hk, wl, wm, wr, wi, bl, bm, br, bb⟩ := h
  unfold ObjD.val
  dsimp only at *
  subst wl
  have HRW := Lib.hid (wr.alloc (.cells #[.int .i64 cls, .int .i64 kind, .slice wa W.length wc, .slice ba bn bc] 25))
  have HB1 := Lib.hid ((Below.refl _ w).alloc (Nat.le_refl _) (.cells #[.int .i64 cls, .int .i64 kind, .slice wa W.length wc, .slice ba bn bc] 25))
  have HI := Lib.hid (show I64 (cls :: W) from fun x hx => by
    rcases List.mem_cons.1 hx with rfl | h
    · exact hc
    · exact wi x h)
  clear wm wr wi bl bm br bb hc hk
  go_enter Try.func28, Try.ntmps28
  go_wp2_with (at_builtin; refine wpList_app rfl _ _ 22 rfl w.heap.size 3 (.int .i64 0) 1 8 Try.underlying22 inf_intW rfl (by decide) _ 1 [.int .i64 cls] rfl (ownsRow_oneAt (by simp) (by simp)) wa W.length wc _ rfl (by simp) (HRW.out.alloc _) (ints_one _ _) (by unfold maxLen; omega) (by omega) (by simp; omega) ?_)
  intro v1 w1 own1 gr1
  have hlo := own1.lt
  have HB2 := Lib.hid ((bAlloc HB1.out).grown gr1 (by simp; omega) (fun k hk => by simp [Value.ownBlock] at hk; omega))
  clear gr1 hlo HRW HB1
  rw [show Value.int .i64 cls :: W.map (Value.int .i64) = (cls :: W).map (Value.int .i64) from rfl] at own1
  obtain ⟨a1, c1, rfl, hr1, hc1, hv1⟩ := owns_reads own1
  have HR1 := Lib.hid hr1
  have hlen : 1 + W.length = (cls :: W).length := by simp; omega
  have hlm : (cls :: W).length ≤ 1000001 := by simp; omega
  rw [hlen] at *
  have HP := Lib.hid (And.intro hlm HI.out)
  clear own1 hr1 hc1 hv1 hlen hlm HI hm
  generalize cls :: W = l at *
  go_wp2
  go_loopw [3, 15] (fun v i wr => ∃ k : Nat, k ≤ l.length ∧ i = .int .i64 k ∧ Hid (wr.ownsRow w1.heap.size 3 1 v (refsOf (l.take k)).length ((refsOf (l.take k)).map (Value.int .i64))) ∧ Hid (Below w1.heap.size w1 wr)) (fun _ i _ => l.length - (intOf i).toNat)
  case atStart => exact ⟨0, Nat.zero_le _, rfl, World.ownsRow_nil _ _ _ _, Below.refl _ _⟩
  case round =>
    obtain ⟨k, hk, rfl, hown, hbel⟩ := hrel
    by_cases hlt : k < l.length
    · have HLT := Lib.hid hlt
      have hkb : k ≤ 1000001 := by have := HP.out.1; omega
      obtain ⟨b0, o0, rfl, _, hc0⟩ := (HR1.out.below hbel.out).at (by simp; omega)
      have k0 := hc0 k _ (getD_map8 hlt)
      have hs := Lib.hid (refsOf_take hlt)
      have hxr : -9223372036854775808 ≤ l.getD k 0 ∧ l.getD k 0 ≤ 9223372036854775807 := by
        rw [List.getD_eq_getElem?_getD, List.getElem?_eq_getElem hlt]
        exact HP.out.2 _ (List.getElem_mem hlt)
      generalize l.getD k 0 = x at *
      have HN := Lib.hid (c_Named x wr hxr.1 hxr.2)
      clear hc0 hxr
      by_cases hn : namIs x = true
      · rw [hn] at HN
        have hs2 := hs.out
        rw [if_pos hn] at hs2
        have hl2 := congrArg List.length hs2
        have hlr := refsOf_len (l.take k)
        have hkk : (l.take k).length = k := by simp; omega
        have hlm := HP.out.1
        have hsz := hbel.out.size
        have hg8 : (refsOf (l.take k)).length ≤ 1000001 := by omega
        obtain ⟨m, hm⟩ : ∃ m, m = (refsOf (l.take k)).length := ⟨_, rfl⟩
        rw [← hm] at hown hg8
        have HM := Lib.hid hm
        have HS2 := Lib.hid hs2
        have HL2 := Lib.hid hl2
        clear hn hs hs2 hl2 hlr hkk hlm hm
        go_wp2_with (first
          | (go_at_call 35; refine HN.out.mono ?_; rintro e w' ⟨rfl, rfl⟩)
          | (at_builtin; refine wpList_app rfl _ _ 22 rfl w1.heap.size 3 (.int .i64 0) 1 8 Try.underlying22 inf_intW rfl (by decide) _ _ _ rfl (hown.out.alloc _) _ 1 1 [.int .i64 (namV x)] rfl rfl (Reads.madeAt rfl) (by simp [Value.oneCell']) (by unfold maxLen; omega) (by omega) (by simp; omega) ?_))
        intro v' w3 own3 gr3
        have hlo := hown.out.lt
        have HB3 := Lib.hid ((hbel.out.alloc hsz _).grown gr3 (by simp; omega) (fun k hk => (hlo k hk).1))
        have HO3 : Hid (w3.ownsRow w1.heap.size 3 1 v' (refsOf (l.take (k + 1))).length ((refsOf (l.take (k + 1))).map (Value.int .i64))) := by
          rw [HL2.out, HS2.out, List.map_append, List.length_append, ← HM.out]
          exact own3
        clear gr3 hlo own3 hown hbel
        go_wp2
        go_roundw
        case rel => have := HP.out.1; have := HLT.out; exact ⟨k + 1, HLT.out, by go_num, HO3.out, HB3.out⟩
        case measure => have := HLT.out; have := HP.out.1; simp [intOf]; omega
      · have hn2 : namIs x = false := by simpa using hn
        rw [hn2] at HN
        have hs2 := hs.out
        rw [if_neg hn, List.append_nil] at hs2
        have HO3 : Hid (wr.ownsRow w1.heap.size 3 1 u3 (refsOf (l.take (k + 1))).length ((refsOf (l.take (k + 1))).map (Value.int .i64))) := by
          rw [hs2]
          exact hown.out
        clear hn hn2 hs hs2 hown
        go_wp2_with (go_at_call 35; refine HN.out.mono ?_; rintro e w' ⟨rfl, rfl⟩)
        go_roundw
        case rel => have := HP.out.1; have := HLT.out; exact ⟨k + 1, HLT.out, by go_num, HO3.out, hbel.out⟩
        case measure => have := HLT.out; have := HP.out.1; simp [intOf]; omega
    · obtain rfl : k = l.length := by omega
      rw [List.take_of_length_le (Nat.le_refl _)] at hown
      have hsz := HB2.out.size
      go_wp2
      go_ret
      exact ⟨_, rfl, owns_mono hown.out hsz, bNext HB2.out hbel.out⟩

end Go.Proofs.Ytdedidjobjdekaa
