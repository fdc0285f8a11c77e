/-
  Contracts of package extent: Put, New, Used.
-/
import Derived.Test.YtpbokmmobepolaaExtC
namespace Go.Proofs.Ytpbokmmobepolaa
open Go.RowKit Go.Maps
set_option linter.unusedVariables false
set_option maxHeartbeats 2000000

theorem results_cellT {fn : Func} {p q : Tmp} {ty : TypeId} (h : fn.results = #[.cell p ty, .tmp q]) (tmps : Array Value) (P : Program) (w : World) :
    (results fn tmps).run P w = ((asAddr (tmps.getD p undef)).run P w).andThen fun ad w₁ => ((loadVar ty ad).run P w₁).andThen fun v w₂ => .ok (.tuple #[v, tmps.getD q undef]) w₂ := by
  simp only [results, h]
  simp [Sem.run_bind, Result.andThen]

def putS (S : SpS) (F : Nat) (b : List Int) : SpS := laid { S with b := fill S.b F (secs b.length) true } F b
def PutPost (I : SpI) (S : SpS) (b : List Int) (w : World) (e : Ending) (w' : World) : Prop :=
  (FirstIs S.b S.N (secs b.length) none ∧ e = .returned (.tuple #[exV (0, 0, 0), .int .i64 3]) ∧ SpAt w' I S ∧ Upd [] w w') ∨
  ∃ F : Nat, FirstIs S.b S.N (secs b.length) (some F) ∧ e = .returned (.tuple #[exV ((F : Int), (secs b.length : Int), (b.length : Int)), .int .i64 0]) ∧ SpAt w' I (putS S F b) ∧ Upd [I.d, I.dg, I.mp, I.bg] w w'

theorem c_EPut {w : World} {I : SpI} {S : SpS} (h : SpAt w I S) (b : List Int) (hq : S.q + secs b.length < 1000000) (hcS : S.c < 999999) (a : Option Addr) (len cap : Nat) (e0 : len = b.length) (hl : len ≤ 1000000)
    (hb : Byt b) (hr : Reads w a cap (b.map (Value.int .u8))) (hcap : len ≤ cap) (hd : 0 < len → ∀ y, a = some y → y.block ∉ I.all) :
    Calls Try.prog 12 #[.pointer (some ⟨I.m, 0, none⟩), .slice a len cap] w (PutPost I S b w) := by
  have hN := h.dk.small
  have HH := Lib.hid h
  have HB := Lib.hid hb
  have HR := Lib.hid hr
  have HD := Lib.hid hd
  have HE := Lib.hid e0
  have HLT := Lib.hid h.lt
  have hpos := secs_pos b.length
  have hsl := secs_le b.length
  clear h hb hr hd
  go_enter Try.func12, Try.ntmps12
  obtain ⟨X, hX⟩ : ∃ X, X = w.heap.size := ⟨_, rfl⟩
  obtain ⟨W, hW⟩ : ∃ W, W = w.alloc (.cells #[.int .i64 0, .int .i64 0, .int .i64 0] 34) := ⟨_, rfl⟩
  have bW : Below w.heap.size w W := by rw [hW]; exact (Below.refl _ _).alloc (Nat.le_refl _) _
  have rX : Row W X 34 [.int .i64 0, .int .i64 0, .int .i64 0] := by rw [hW, hX]; exact Row.made w _ _
  have hXI : ∀ k ∈ I.all, k < X := by rw [hX]; exact HLT.out
  have HS : Hid (SpAt W I S) := HH.out.below bW
  have k1 := HS.out.row.cell (i := 1) rfl
  have HX := Lib.hid hX
  have HXI := Lib.hid hXI
  have HBW := Lib.hid bW
  have HRX := Lib.hid rX
  have HW := Lib.hid hW
  have h0 : (len : Int) = (b.length : Int) := by rw [HE.out]
  have hSec := c_Sectors b.length W (by omega)
  rw [← h0] at hSec
  have HSec := Lib.hid hSec
  obtain ⟨n, hn⟩ : ∃ n, n = secs b.length := ⟨_, rfl⟩
  rw [← hn] at hq hpos hsl HSec
  have HNN := Lib.hid hn
  clear hW hX bW rX hXI e0 hSec hn h0
  go_wp2_with fail
  rw [← HW.out, ← HX.out]
  clear HW
  refine HSec.out.mono ?_
  rintro e w' ⟨rfl, rfl⟩
  clear HSec
  have HF := Lib.hid (c_First _ _ _ _ W HS.out.bt (n : Int) (by omega))
  go_wp2_with fail
  refine HF.out.mono ?_
  rintro e w' ⟨⟨o, ho, rfl⟩, rfl⟩
  clear HF
  have ho2 : FirstIs S.b S.N n o := by
    rcases ho with ⟨h1, -⟩ | ⟨-, h1⟩
    · omega
    · rwa [Int.toNat_natCast] at h1
  have HO := Lib.hid ho2
  clear ho ho2
  cases o with
  | none =>
    have x0 := HRX.out.free 0
    have x1 := HRX.out.free 1
    have x2 := HRX.out.free 2
    have y0 := HRX.out.cell (i := 0) rfl
    have y1 := HRX.out.cell (i := 1) rfl
    have y2 := HRX.out.cell (i := 2) rfl
    unfold firstV
    go_wp2_with fail
    obtain ⟨v3, hv3⟩ : ∃ v3, v3 = ((W.setCell ⟨X, 0, none⟩ (.int .i64 0)).setCell ⟨X, 1, none⟩ (.int .i64 0)).setCell ⟨X, 2, none⟩ (.int .i64 0) := ⟨_, rfl⟩
    have hR3 : Row v3 X 34 [.int .i64 0, .int .i64 0, .int .i64 0] := by rw [hv3]; exact ((HRX.out.set 0 _).set 1 _).set 2 _
    have u3 : Upd [X] W v3 := by rw [hv3]; exact (((Upd.refl [X] W).setCell (by simp) _).setCell (by simp) _).setCell (by simp) _
    rw [← hv3]
    have HU3 := Lib.hid u3
    clear hv3 u3 y0 y1 y2 x0 x1 x2
    have z0 := hR3.cell (i := 0) rfl
    have z1 := hR3.cell (i := 1) rfl
    have z2 := hR3.cell (i := 2) rfl
    clear hR3
    (try simp only [Exit.inBlock, Exit.then])
    refine bodyPost_ret (by rw [results_cellT rfl]; go_simp; rfl) rfl ?_
    have hIX : ∀ k ∈ I.all, k ∉ [X] := fun k hk hm => by
      have := HXI.out k hk
      simp at hm
      omega
    refine .inl ⟨by rw [← HNN.out]; exact HO.out, rfl, HS.out.keep HU3.out hIX, ?_⟩
    refine Upd.new (m := [X]) ((Upd.of_below HBW.out).trans HU3.out) (fun j hj => ?_)
    have := HX.out
    simp at hj
    omega
  | some F =>
    have hfit : F + n ≤ S.N := HO.out.1
    have hrun : runIs S.b F n false := HO.out.2.1
    have hok : okRun S.N (F : Int) (n : Int) := ⟨by omega, by omega, by omega⟩
    have hrun' : runIs S.b (F : Int).toNat (n : Int).toNat false := by rw [Int.toNat_natCast, Int.toNat_natCast]; exact hrun
    have hE : chgE S.b S.N (F : Int) (n : Int) false 3 = 0 := by unfold chgE; rw [if_pos hok, if_pos hrun']
    have hB2 : chgB S.b S.N (F : Int) (n : Int) false = fill S.b F n true := by unfold chgB; rw [if_pos ⟨hok, hrun'⟩, Int.toNat_natCast, Int.toNat_natCast]; rfl
    have hT := c_Take _ _ _ _ W HS.out.bt (F : Int) (n : Int) (by omega) (by omega) (by omega)
    unfold ChgPost at hT
    rw [hE, hB2] at hT
    have HT := Lib.hid hT
    clear hok hrun hrun' hE hB2 hT
    unfold firstV
    go_wp2_with fail
    refine HT.out.mono ?_
    rintro e wt ⟨rfl, hm, hu⟩
    have HS1 : Hid (SpAt wt I { S with b := fill S.b F n true }) := HS.out.bits hm hu
    have HU1 := Lib.hid hu
    have hne : X ∉ [I.bg] := fun hm => by
      have := HXI.out I.bg (by simp [SpI.all])
      simp at hm
      omega
    have HRX1 := Lib.hid (HRX.out.keep hu hne)
    clear hm hu hne HT k1
    have hL := c_lay HS1.out F b (by rw [← HNN.out]; exact hfit) 0 (by rw [← HNN.out]; exact hq) hcS a len cap HE.out HB.out (reads_keep (HR.out.below HBW.out) HU1.out (fun h0 y hy hm => HD.out (by have := HE.out; simp at h0; omega) y hy (by simp [SpI.all]; simp at hm; omega))) hcap HD.out
    rw [← HNN.out] at hL
    have HL := Lib.hid hL
    clear hL
    go_wp2_with fail
    refine HL.out.mono ?_
    rintro e wl ⟨rfl, hs, hu⟩
    unfold exV
    rw [← HNN.out, ← HE.out]
    have hne : X ∉ [I.d, I.dg, I.mp] := fun hm => by
      have h1 := HXI.out I.d (by simp [SpI.all])
      have h2 := HXI.out I.dg (by simp [SpI.all])
      have h3 := HXI.out I.mp (by simp [SpI.all])
      simp at hm
      omega
    have HRX := Lib.hid (HRX1.out.keep hu hne)
    have HS2 := Lib.hid hs
    have HU2 := Lib.hid hu
    clear hs hu hne HL
    have x0 := HRX.out.free 0
    have x1 := HRX.out.free 1
    have x2 := HRX.out.free 2
    have y0 := HRX.out.cell (i := 0) rfl
    have y1 := HRX.out.cell (i := 1) rfl
    have y2 := HRX.out.cell (i := 2) rfl
    go_wp2
    obtain ⟨v3, hv3⟩ : ∃ v3, v3 = ((wl.setCell ⟨X, 0, none⟩ (.int .i64 F)).setCell ⟨X, 1, none⟩ (.int .i64 n)).setCell ⟨X, 2, none⟩ (.int .i64 len) := ⟨_, rfl⟩
    have hR3 : Row v3 X 34 [.int .i64 F, .int .i64 n, .int .i64 len] := by rw [hv3]; exact ((HRX.out.set 0 _).set 1 _).set 2 _
    have u3 : Upd [X] wl v3 := by rw [hv3]; exact (((Upd.refl [X] wl).setCell (by simp) _).setCell (by simp) _).setCell (by simp) _
    rw [← hv3]
    have HU3 := Lib.hid u3
    clear hv3 u3 y0 y1 y2 x0 x1 x2
    have z0 := hR3.cell (i := 0) rfl
    have z1 := hR3.cell (i := 1) rfl
    have z2 := hR3.cell (i := 2) rfl
    clear hR3
    (try simp only [Exit.inBlock, Exit.then])
    refine bodyPost_ret (by rw [results_cellT rfl]; go_simp; rfl) rfl ?_
    have hIX : ∀ k ∈ I.all, k ∉ [X] := fun k hk hm => by
      have := HXI.out k hk
      simp at hm
      omega
    refine .inr ⟨F, by rw [← HNN.out]; exact HO.out, by rw [← HNN.out, ← HE.out]; rfl, ?_, ?_⟩
    · have := HS2.out.keep HU3.out hIX
      unfold putS
      rw [← HNN.out]
      exact this
    · refine Upd.new (m := [I.d, I.dg, I.mp, I.bg, X]) ((((Upd.of_below HBW.out).trans (HU1.out.mono (by simp))).trans (HU2.out.mono (by simp))).trans (HU3.out.mono (by simp))) (fun j hj => ?_)
      have := HX.out
      simp at hj ⊢
      omega

end Go.Proofs.Ytpbokmmobepolaa
