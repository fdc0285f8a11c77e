/-
  The walk of the law WordBytes.
-/
import Derived.Test.YtiidbfopbkbhpaaWordLaws2
import Derived.Test.YtiidbfopbkbhpaaPlanH
namespace Go.Proofs.Ytiidbfopbkbhpaa
open Go.RowKit Go.ChangeShapes Go.ChangeAt
set_option linter.unusedVariables false

theorem r_All (a : Option Addr) (n c : Nat) (l : List Int) (w : World) (e0 : n = l.length) (h : Reads w a c (l.map (Value.int .i64))) (hb : I64 l) (hm : n ≤ 1000000) :
    Calls Try.prog 33 #[.slice a n c] w (MadeBytes w (allB l)) := by
  subst e0
  have hinf := inf_u8
  go_enter Try.func33, Try.ntmps33
  go_wp2
  go_loopw [3, 4] (fun v i wr => ∃ k : Nat, k ≤ l.length ∧ i = .int .i64 k ∧ wr.ownsRow w.heap.size 5 1 v (4 * k) ((allB (l.take k)).map (Value.int .u8)) ∧ Below w.heap.size w wr) (fun _ i _ => l.length - (intOf i).toNat)
  case atStart => exact ⟨0, Nat.zero_le _, rfl, World.ownsRow_nil _ _ _ _, Below.refl _ _⟩
  case round =>
    obtain ⟨k, hk, rfl, hown, hbel⟩ := hrel
    by_cases hlt : k < l.length
    · obtain ⟨b, off, rfl, hblt, hc⟩ := h.at (by simp; omega)
      have hx : l[k]? = some l[k] := List.getElem?_eq_getElem hlt
      have hbx := hb _ (List.getElem_mem hlt)
      have hcell := (hbel.cell (p := ⟨b, off + k, none⟩) hblt).trans (hc k _ (by simp [hlt]; rfl))
      have hs := allB_snoc hx
      have hlen := allB_len (l.take k)
      generalize l[k] = x at *
      obtain ⟨hx1, hx2⟩ := hbx
      have hsz := hbel.size
      have HS := Lib.hid hs
      have HL := Lib.hid hlen
      clear hs hlen hx hc h hb hinf
      go_wp2_with (first
        | (go_at_call 31; refine (r_Put _ _ hx1 hx2).mono ?_; rintro e w' ⟨rfl, rfl⟩)
        | (at_builtin; refine wpList_app rfl _ _ 35 rfl w.heap.size 5 (.int .u8 0) 1 1 Try.underlying35 inf_u8 rfl (by decide) _ _ _ rfl (hown.alloc _) _ 4 4 _ rfl rfl (put_reads _ x 4 _) (ints_one _ _) ?c1 ?c2 ?c3 ?_))
      case c1 => unfold maxLen; omega
      case c2 => omega
      case c3 => simp; omega
      · intro v' w1 hown' hgr
        have hlt' := hown.lt
        have hbel' : Below w.heap.size w w1 := (hbel.alloc hsz _).grown hgr (by simp; omega) (fun k hk => (hlt' k hk).1)
        clear hgr hown
        go_wp2
        go_roundw
        case rel => exact ⟨k + 1, by omega, by go_num, by rw [HS.out, List.map_append]; exact hown', hbel'⟩
        case measure => simp [intOf]; omega
    · have hkl : k = l.length := by omega
      subst hkl
      rw [List.take_of_length_le (Nat.le_refl _)] at hown
      rw [← allB_len] at hown
      clear hinf hb h
      go_wp2
      go_ret
      exact ⟨_, rfl, hown, hbel⟩

set_option maxHeartbeats 1000000 in
theorem law_WordBytes (a0 : Option Addr) (len0 cap0 : Nat) (z0 : List Int) (a1 : Option Addr) (len1 cap1 : Nat) (z1 : List Int) (p : Int) (w : World) (w0 : Came .i64 w a0 len0 cap0 z0) (w1 : Came .u8 w a1 len1 cap1 z1) (w2 : (Lit.int .i64 p).wf = true) :
    Calls Try.prog 12 #[.slice a0 len0 cap0, .slice a1 len1 cap1, .int .i64 p] w fun e w' => e = .returned (.bool true) ∧ Below w.heap.size w w' := by
  obtain ⟨p0, p1⟩ := bounds_i64 w2
  obtain ⟨l, rfl, hc0, hm0, hr0, hw0⟩ := w0.reads
  obtain ⟨m, rfl, hc1, hm1, hr1, hw1⟩ := w1.reads
  have hl : I64 l := fun x hx => bounds_i64 (hw0 x hx)
  have hm : Byt m := fun x hx => bounds_u8 (hw1 x hx)
  unfold maxLen at hm0 hm1
  clear w0 w1 w2 hw0 hw1
  by_cases h0 : 900 < l.length ∨ 4000 < m.length
  · clear hr0 hr1 hl hm
    by_cases h1 : 900 < l.length
    all_goals
      (try have h2 : 4000 < m.length := by omega)
      clear h0
      go_enter Try.func12, Try.ntmps12
      go_wp2_with (go_at_call 16; refine (c_known _).mono ?_; rintro e w' ⟨rfl, hbel⟩)
      go_ret
      exact ⟨rfl, hbel⟩
  · have h1 : l.length ≤ 900 := by omega
    have h2 : m.length ≤ 4000 := by omega
    clear h0
    have HR0 := Lib.hid hr0
    have HR1 := Lib.hid hr1
    have HL := Lib.hid hl
    have HM := Lib.hid hm
    clear hr0 hr1 hl hm
    go_enter Try.func12, Try.ntmps12
    go_wp2_with (first
      | (go_at_call 27; refine (c_Get a1 _ cap1 m p _ rfl hc1 (by omega) HR1.out HM.out p0 p1).mono ?_; rintro e w' ⟨rfl, rfl⟩)
      | (go_at_call 29; refine (r_Get a1 _ cap1 m p _ rfl (by omega) HR1.out HM.out p0 p1).mono ?_; rintro e w' ⟨rfl, rfl⟩))
    go_loopw [11] (fun i wr => ∃ k : Nat, k ≤ l.length ∧ i = .int .i64 k ∧ Below w.heap.size w wr) (fun i _ => l.length - (intOf i).toNat)
    case atStart => exact ⟨0, Nat.zero_le _, rfl, Below.refl _ _⟩
    case round =>
      obtain ⟨k, hk, rfl, hbel⟩ := hrel
      by_cases hlt : k < l.length
      · obtain ⟨b, off, rfl, hblt, hc⟩ := HR0.out.at (by simp; omega)
        have hbx := HL.out _ (List.getElem_mem hlt)
        have hcell := (hbel.cell (p := ⟨b, off + k, none⟩) hblt).trans (hc k _ (by simp [hlt]; rfl))
        generalize l[k] = x at *
        obtain ⟨hx1, hx2⟩ := hbx
        have hsz := hbel.size
        clear hc
        have HC := Lib.hid hcell
        clear hcell
        go_wp2_with fail
        refine wp_region_planH (fun w => w.cell? ⟨b, off + k, none⟩ = some (.int .i64 x)) [(0, true), (1, true), (2, true), (3, true), (5, true), (6, true), (7, true), (8, true), (4, false), (9, false), (10, false), (11, true)] (by kernel_rfl) (by kernel_rfl) (fun _ _ _ _ _ h => h) HC.out ?_
        (repeat (refine wpPlanH_free rfl (fun K hK => ?_); go_simp; (try go_bits); refine hK _ ?_; clear hK K))
        refine wpPlanH_load (.int .i64 x) rfl rfl (fun w hS => by go_simp) (fun K hK => ?_)
        go_simp
        refine hK _ ?_
        clear hK K
        (repeat (refine wpPlanH_free rfl (fun K hK => ?_); go_simp; (try go_bits); refine hK _ ?_; clear hK K))
        refine wpPlanH_load (.int .i64 x) rfl rfl (fun w hS => by go_simp) (fun K hK => ?_)
        go_simp
        refine hK _ ?_
        clear hK K
        refine wpPlanH_sole rfl ?_
        go_wp2_with (go_at_call 28; refine (c_Put x _ hx1 hx2).mono ?_; rintro e w' ⟨rfl, rfl⟩)
        refine ⟨cellKeep (bDrew (bAlloc (Below.refl _ _))) HC.out, ?_⟩
        refine wpPlanH_sole rfl ?_
        go_wp2_with (go_at_call 31; refine (r_Put x _ hx1 hx2).mono ?_; rintro e w' ⟨rfl, rfl⟩)
        refine ⟨cellKeep (bDrew (bAlloc (bAlloc (Below.refl _ _)))) HC.out, ?_⟩
        refine wpPlanH_sole rfl ?_
        go_wp2_with (go_at_call 30; (refine (c_Same _ _ _ _ _ _ (put4 x) (put4 x) _ (put4_len _).symm (put4_len _).symm (Reads.drew (Reads.alloc (put_reads _ x 4 _) _)) (Reads.drew (Reads.madeAt (xs := (put4 x).map (Value.int .u8)) (by simp))) (put4_byt _) (put4_byt _)).mono ?_); rintro e w' ⟨rfl, rfl⟩)
        refine ⟨cellKeep (bDrew (bAlloc (bAlloc (Below.refl _ _)))) HC.out, ?_⟩
        (repeat (refine wpPlanH_free rfl (fun K hK => ?_); go_simp; (try go_bits); refine hK _ ?_; clear hK K))
        refine wpPlanH_nil ?_
        have hbel' : Below w.heap.size w ((wr.alloc (.cells #[.int .u8 (x / 16777216 % 256), .int .u8 (x / 65536 % 256), .int .u8 (x / 256 % 256), .int .u8 (x % 256)] 5)).alloc (.cells #[.int .u8 (x / 16777216 % 256), .int .u8 (x / 65536 % 256), .int .u8 (x / 256 % 256), .int .u8 (x % 256)] 5)).drew := bDrew (bAlloc (bAlloc hbel))
        have HB := Lib.hid hbel'
        clear hbel'
        go_wp2
        go_roundw
        case rel => exact ⟨k + 1, by omega, by go_num, HB.out⟩
        case measure => simp [intOf]; omega
      · have hkl : k = l.length := by omega
        subst hkl
        have r0 := HR0.out.below hbel
        have R0 := Lib.hid r0
        clear r0
        go_wp2_with fail
        refine (c_All a0 _ cap0 l _ rfl R0.out HL.out (by omega)).mono ?_
        rintro e w1 ⟨v1, rfl, own1, bel1⟩
        obtain ⟨av1, cv1, rfl, rd1, hcv1, _⟩ := owns_reads own1
        have R1 := Lib.hid rd1
        clear own1 rd1
        go_wp2_with fail
        refine (r_All a0 _ cap0 l _ rfl (R0.out.below bel1) HL.out (by omega)).mono ?_
        rintro e w2 ⟨v2, rfl, own2, bel2⟩
        obtain ⟨av2, cv2, rfl, rd2, hcv2, _⟩ := owns_reads own2
        have R2 := Lib.hid rd2
        clear own2 rd2
        go_wp2_with fail
        refine (c_Same av1 av2 _ _ cv1 cv2 (allB l) (allB l) _ rfl rfl (R1.out.below bel2) R2.out (allB_byt l) (allB_byt l)).mono ?_
        rintro e w' ⟨rfl, rfl⟩
        go_wp2_with (go_at_call 16; refine (c_known _).mono ?_; rintro e w' ⟨rfl, hbel3⟩)
        go_ret
        exact ⟨rfl, bNext (bNext (bNext hbel bel1) bel2) hbel3⟩

end Go.Proofs.Ytiidbfopbkbhpaa
