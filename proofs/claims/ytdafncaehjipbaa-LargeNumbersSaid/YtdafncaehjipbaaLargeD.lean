/-
  Contracts of package large: told, Of, Sub.
-/
import Derived.Test.YtdafncaehjipbaaLargeC
namespace Go.Proofs.Ytdafncaehjipbaa
open Go.RowKit
set_option linter.unusedVariables false
set_option maxHeartbeats 1000000
set_option maxRecDepth 20000

theorem numAt_nil (w : World) : NumAt w none 0 0 0 := ⟨by rw [digs_0]; rfl, Nat.le_refl _, by omega, by rw [digs_0]; exact Reads.nil w⟩

/-- A number and an error: the number is none where there is an error. -/
def ResPost (w : World) (E : Int) (N : Nat) (e : Ending) (w' : World) : Prop := ∃ a k c, e = .returned (.tuple #[.slice a k c, .int .i64 E]) ∧ NumAt w' a k c (if E = 0 then N else 0) ∧ Below w.heap.size w w'

def fullE (N : Nat) : Int := if (digs N).length ≤ 400 then 0 else 3

theorem c_told (a : Option Addr) (n c : Nat) (l : List Int) (w : World) (e0 : n = l.length) (h : Reads w a c (l.map (Value.int .u8))) (hb : Byt l) (hc : n ≤ c) (hm : n ≤ 1000000000) :
    Calls Try.prog 47 #[.slice a n c] w (ResPost w (fullE (valI l)) (valI l)) := by
  have HC := Lib.hid (c_cut a n c l w e0 h hb hc hm)
  clear e0 h hb hc
  go_enter Try.func47, Try.ntmps47
  go_wp2_with fail
  refine HC.out.mono ?_
  clear HC
  rintro e w' ⟨⟨k, rfl, hq⟩, rfl⟩
  have HQ := Lib.hid hq
  by_cases hk : k ≤ 400
  · have hE : fullE (valI l) = 0 := by unfold fullE; rw [if_pos (by rw [← hq.1]; exact hk)]
    have g1 : ((k : Int) > 400) = False := eq_false (by omega)
    have g2 : ((400 : Int) < k) = False := eq_false (by omega)
    have g3 : (400 < k) = False := eq_false (by omega)
    have HEE := Lib.hid hE
    clear hq hE
    go_wp2
    go_ret2
    exact ⟨a, k, k, by rw [HEE.out]; rfl, by rw [HEE.out, if_pos rfl]; exact HQ.out, Below.refl _ _⟩
  · have hE : fullE (valI l) = 3 := by unfold fullE; rw [if_neg (by rw [← hq.1]; exact hk)]
    have g1 : ((k : Int) > 400) = True := eq_true (by omega)
    have g2 : ((400 : Int) < k) = True := eq_true (by omega)
    have g3 : (400 < k) = True := eq_true (by omega)
    have HEE := Lib.hid hE
    clear hq hE
    go_wp2
    go_ret2
    exact ⟨none, 0, 0, by rw [HEE.out]; rfl, by rw [HEE.out, if_neg (by decide)]; exact numAt_nil w, Below.refl _ _⟩

theorem digs_app {A q : Nat} {l : List Int} (hb : Byt l) (hA : A = valI l + 256 ^ l.length * q) : q = 0 → A = valI l := fun h => by rw [hA, h]; simp

theorem c_Of (N : Nat) (w : World) (h : N ≤ 9223372036854775807) : Calls Try.prog 21 #[.int .i64 N] w (ResPost w 0 N) := by
  have hn : ((N : Int) < 0) = False := eq_false (by omega)
  go_enter Try.func21, Try.ntmps21
  go_wp2
  clear hn
  go_loopw [0, 4] (fun i v wr => ∃ (q : Nat) (o : List Int), q ≤ N ∧ i = .int .i64 q ∧ Hid (wr.ownsRow w.heap.size 5 1 v o.length (o.map (Value.int .u8))) ∧ Hid (digs N = o ++ digs q ∧ o.length ≤ 8) ∧ Hid (Below w.heap.size w wr)) (fun i _ _ => (intOf i).toNat)
  case atStart => exact ⟨N, [], Nat.le_refl _, rfl, World.ownsRow_nil _ _ _ _, ⟨rfl, by simp⟩, Below.refl _ _⟩
  case round =>
    obtain ⟨q, o, hq, rfl, hown, hd, hbel⟩ := hrel
    by_cases h0 : q = 0
    · subst h0
      have hdo : digs N = o := by have := hd.out.1; rw [digs_0, List.append_nil] at this; exact this
      obtain ⟨a, c, rfl, hr, hc, -⟩ := owns_reads hown.out
      have hcm : c ≤ 9223372036854775807 := by
        rcases hown.out.2 with ⟨h, _⟩ | ⟨g, cap, cur, hv, _, _, _, hm', _⟩
        · simp only [Value.slice.injEq] at h; omega
        · simp only [Value.slice.injEq] at hv; unfold maxLen at hm'; omega
      have HR := Lib.hid (And.intro hr (And.intro hc hcm))
      have HD := Lib.hid hdo
      clear hd hown hdo hr hc hcm
      go_wp2
      go_ret2
      exact ⟨a, o.length, c, rfl, by rw [if_pos rfl]; exact ⟨by rw [HD.out], HR.out.2.1, HR.out.2.2, by rw [HD.out]; exact HR.out.1⟩, hbel.out⟩
    · have hdq := digs_pos h0
      have hol : o.length + 1 ≤ 8 := by
        have h1 : (digs N).length ≤ 8 := digs_len (by omega)
        rw [hd.out.1, hdq] at h1
        simp only [List.length_append, List.length_cons] at h1
        omega
      have HD := Lib.hid (show digs N = (o ++ [((q % 256 : Nat) : Int)]) ++ digs (q / 256) from by rw [hd.out.1, hdq, List.append_assoc]; rfl)
      have hsz := hbel.out.size
      have HOL := Lib.hid hol
      obtain ⟨n, hn⟩ : ∃ n, n = o.length := ⟨_, rfl⟩
      rw [← hn] at hown hol
      have HNN := Lib.hid hn
      clear hd hdq hn
      go_wp2_with (at_builtin; refine wpList_app rfl _ _ 22 rfl w.heap.size 5 (.int .u8 0) 1 1 Try.underlying22 inf_u8L rfl (by decide) _ _ _ rfl (hown.out.alloc _) _ 1 1 [.int .u8 ((q : Int) % 256)] rfl rfl (Reads.madeAt rfl) (by simp [Value.oneCell']) (by unfold maxLen; omega) (by omega) (by simp; omega) ?_)
      intro v' w3 own3 gr3
      have hlo := hown.out.lt
      have HB3 := Lib.hid ((hbel.out.alloc hsz _).grown gr3 (by simp; omega) (fun k hk => (hlo k hk).1))
      have HO3 : Hid (w3.ownsRow w.heap.size 5 1 v' (o ++ [((q % 256 : Nat) : Int)]).length ((o ++ [((q % 256 : Nat) : Int)]).map (Value.int .u8))) := by
        rw [List.map_append, List.length_append, ← HNN.out]
        exact own3
      clear gr3 hlo own3 hown hbel
      go_wp2
      go_roundw
      case rel => exact ⟨q / 256, o ++ [((q % 256 : Nat) : Int)], by omega, by go_num, HO3.out, ⟨HD.out, by rw [List.length_append]; exact HOL.out⟩, HB3.out⟩
      case measure => simp [intOf]; omega

theorem c_OfNeg (x : Int) (w : World) (h : x < 0) : Calls Try.prog 21 #[.int .i64 x] w fun e w' => e = .returned (.tuple #[.slice none 0 0, .int .i64 2]) ∧ w = w' := by
  go_enter Try.func21, Try.ntmps21
  go_wp2
  go_ret2
  exact ⟨rfl, rfl⟩

theorem right_digs {l : List Int} (hb : Byt l) (h : rightB l = true) : digs (valI l) = l ∧ l.length ≤ 400 := by
  have := of_decide_eq_true h
  exact ⟨digs_of hb this.2, this.1⟩

def subE (l m : List Int) : Int := if rightB l = false ∨ rightB m = false then 2 else if valI l < valI m then 4 else 0

theorem c_Sub (a0 a1 : Option Addr) (n0 n1 c0 c1 : Nat) (l m : List Int) (w : World) (e0 : n0 = l.length) (e1 : n1 = m.length) (h0 : Reads w a0 c0 (l.map (Value.int .u8))) (h1 : Reads w a1 c1 (m.map (Value.int .u8))) (b0 : Byt l) (b1 : Byt m) (hc0 : n0 ≤ c0) (hc1 : n1 ≤ c1) (hm0 : n0 ≤ 100000) (hm1 : n1 ≤ 100000) :
    Calls Try.prog 14 #[.slice a0 n0 c0, .slice a1 n1 c1] w (ResPost w (subE l m) (valI l - valI m)) := by
  have HR0 := Lib.hid (fun wz (b : Below w.heap.size w wz) => c_Right a0 n0 c0 l wz e0 (h0.below b) (by omega))
  have HR1 := Lib.hid (fun wz (b : Below w.heap.size w wz) => c_Right a1 n1 c1 m wz e1 (h1.below b) (by omega))
  have HCM := Lib.hid (c_Cmp a0 a1 n0 n1 c0 c1 l m w e0 e1 h0 h1 b0 b1 hc0 hc1 hm0 hm1)
  have HH := Lib.hid (And.intro h0 (And.intro h1 (And.intro b0 (And.intro b1 (And.intro e0 e1)))))
  clear h0 h1 b0 b1 e0 e1
  cases hr0 : rightB l with
  | false =>
    have hE : subE l m = 2 := by unfold subE; rw [if_pos (.inl hr0)]
    rw [hE]
    rw [hr0] at HR0
    clear hr0 hE
    go_enter Try.func14, Try.ntmps14
    go_wp2_with fail
    refine (HR0.out w (Below.refl _ _)).mono ?_
    rintro e w' ⟨rfl, rfl⟩
    go_wp2
    go_ret2
    exact ⟨none, 0, 0, rfl, by rw [if_neg (by decide)]; exact numAt_nil w, Below.refl _ _⟩
  | true =>
    rw [hr0] at HR0
    cases hr1 : rightB m with
    | false =>
      have hE : subE l m = 2 := by unfold subE; rw [if_pos (.inr hr1)]
      rw [hE]
      rw [hr1] at HR1
      clear hr0 hr1 hE
      go_enter Try.func14, Try.ntmps14
      go_wp2_with fail
      refine (HR0.out w (Below.refl _ _)).mono ?_
      rintro e w' ⟨rfl, rfl⟩
      go_wp2_with fail
      refine (HR1.out w (Below.refl _ _)).mono ?_
      rintro e w' ⟨rfl, rfl⟩
      go_wp2
      go_ret2
      exact ⟨none, 0, 0, rfl, by rw [if_neg (by decide)]; exact numAt_nil w, Below.refl _ _⟩
    | true =>
      rw [hr1] at HR1
      have d0 := right_digs HH.out.2.2.1 hr0
      have d1 := right_digs HH.out.2.2.2.1 hr1
      by_cases hlt : valI l < valI m
      · have hE : subE l m = 4 := by unfold subE; rw [if_neg (by rw [hr0, hr1]; simp), if_pos hlt]
        have hC : cmpI (valI l) (valI m) = -1 := by unfold cmpI; rw [if_pos hlt]
        rw [hE]
        rw [hC] at HCM
        clear hr0 hr1 hE hC hlt d0 d1
        go_enter Try.func14, Try.ntmps14
        go_wp2_with fail
        refine (HR0.out w (Below.refl _ _)).mono ?_
        rintro e w' ⟨rfl, rfl⟩
        go_wp2_with fail
        refine (HR1.out w (Below.refl _ _)).mono ?_
        rintro e w' ⟨rfl, rfl⟩
        go_wp2_with fail
        refine HCM.out.mono ?_
        rintro e w1 ⟨rfl, bel⟩
        have HB := Lib.hid bel
        clear bel
        go_wp2
        go_ret2
        exact ⟨none, 0, 0, rfl, by rw [if_neg (by decide)]; exact numAt_nil w1, HB.out⟩
      · have hE : subE l m = 0 := by unfold subE; rw [if_neg (by rw [hr0, hr1]; simp), if_neg hlt]
        have hC : cmpI (valI l) (valI m) = 0 ∨ cmpI (valI l) (valI m) = 1 := by
          unfold cmpI
          rw [if_neg hlt]
          split
          · exact .inr rfl
          · exact .inl rfl
        have hle : valI m ≤ valI l := by omega
        have hln : n1 ≤ n0 := by
          have e0 := HH.out.2.2.2.2.1
          have e1 := HH.out.2.2.2.2.2
          by_cases h : n1 ≤ n0
          · exact h
          · have := digs_len_lt (a := valI l) (b := valI m) (by rw [d0.1, d1.1]; omega)
            omega
        have HM := Lib.hid (fun wz (b : Below w.heap.size w wz) => c_minus a0 a1 n0 n1 c0 c1 l m wz HH.out.2.2.2.2.1 HH.out.2.2.2.2.2 (HH.out.1.below b) (HH.out.2.1.below b) HH.out.2.2.1 HH.out.2.2.2.1 hm0 hln hle)
        rw [hE]
        clear hr0 hr1 hE hle hln hlt d0 d1
        have hcn : (cmpI (valI l) (valI m) < 0) = False := eq_false (by omega)
        clear hC
        generalize cmpI (valI l) (valI m) = C at *
        go_enter Try.func14, Try.ntmps14
        go_wp2_with fail
        refine (HR0.out w (Below.refl _ _)).mono ?_
        rintro e w' ⟨rfl, rfl⟩
        go_wp2_with fail
        refine (HR1.out w (Below.refl _ _)).mono ?_
        rintro e w' ⟨rfl, rfl⟩
        go_wp2_with fail
        refine HCM.out.mono ?_
        rintro e w1 ⟨rfl, bel⟩
        have HB := Lib.hid bel
        clear bel
        go_wp2_with fail
        refine (HM.out w1 HB.out).mono ?_
        rintro e w2 ⟨a, k, c, rfl, hq, -, bel⟩
        have HQ := Lib.hid hq
        have HB2 := Lib.hid (bNext HB.out bel)
        clear bel hq
        go_wp2
        go_ret2
        exact ⟨a, k, c, rfl, by rw [if_pos rfl]; exact HQ.out, HB2.out⟩

end Go.Proofs.Ytdafncaehjipbaa
