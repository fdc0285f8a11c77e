/-
  A space told by its rows: the contracts.
-/
import Derived.Test.YtpbokmmobepolaaExtQ
import Derived.Test.YtpbokmmobepolaaSame
namespace Go.Proofs.Ytpbokmmobepolaa
open Go.RowKit Go.Maps
set_option linter.unusedVariables false
set_option maxHeartbeats 1000000

def Ovl (x : Rw4) (F n : Nat) : Prop := F < x.1 + rN x ∧ x.1 < F + n
def FirstL (L : List Rw4) (N n : Nat) : Option Nat → Prop
  | some F => F + n ≤ N ∧ (∀ x ∈ L, ¬ Ovl x F n) ∧ ∀ F', F' < F → ∃ x ∈ L, Ovl x F' n
  | none => ∀ F', F' + n ≤ N → ∃ x ∈ L, Ovl x F' n

theorem Good.free {S : SpS} {L : List Rw4} (h : Good S L) {F n : Nat} (hn : 1 ≤ n) : runIs S.b F n false ↔ ∀ x ∈ L, ¬ Ovl x F n := by
  constructor
  · intro hr x hx ho
    have := h.not_cov hr hn hx
    have h1 := ho.1
    have h2 := ho.2
    omega
  · intro ha i hi
    cases hb : S.b (F + i) with
    | false => rfl
    | true =>
      obtain ⟨x, hx, h1, h2⟩ := (h.bits _).1 hb
      exact absurd ⟨by omega, by omega⟩ (ha x hx)
theorem Good.ovl {S : SpS} {L : List Rw4} (h : Good S L) {F n : Nat} (hn : 1 ≤ n) (hr : ¬ runIs S.b F n false) : ∃ x ∈ L, Ovl x F n := by
  rcases Classical.em (∃ x ∈ L, Ovl x F n) with h1 | h1
  · exact h1
  · exact absurd ((h.free hn).2 (fun x hx ho => h1 ⟨x, hx, ho⟩)) hr
theorem Good.first {S : SpS} {L : List Rw4} (h : Good S L) {n : Nat} (hn : 1 ≤ n) {o : Option Nat} (hf : FirstIs S.b S.N n o) : FirstL L S.N n o := by
  cases o with
  | none => exact fun F' hF => h.ovl hn (hf F' hF)
  | some F => exact ⟨hf.1, (h.free hn).1 hf.2.1, fun F' hF => h.ovl hn (hf.2.2 F' hF)⟩

theorem Good.setSame {S : SpS} {L : List Rw4} (h : Good S L) {k : Nat} {x : Rw4} (hk : L[k]? = some x) {d : List Int} (hd : Byt d) (hs : secs d.length = rN x) :
    Good (laid { S with f := liveOut (rE x) S.f } x.1 d) (L.eraseIdx k ++ [(x.1, d)]) := by
  have hx : x ∈ L := List.mem_of_getElem? hk
  have hf := h.fit x hx
  have hrun : runIs S.b x.1 (rN x) true := fun i hi => (h.bits _).2 ⟨x, hx, by omega, by omega⟩
  have h1 := h.cut hk (bs := S.bs) h.len (fun F m _ => rfl) S.c S.q S.r
  have h2 := h1.add (F := x.1) (d := d) (by rw [hs]; exact hf) (by rw [hs]; exact fill_run _ _ _ _) hd
  have e : putS { S with bs := S.bs, b := fill S.b x.1 (rN x) false, f := liveOut (rE x) S.f, c := S.c, q := S.q, r := S.r } x.1 d = laid { S with f := liveOut (rE x) S.f } x.1 d := by
    unfold putS
    rw [show fill (fill S.b x.1 (rN x) false) x.1 (secs d.length) true = S.b by rw [hs]; exact fill_back hrun false]
  rw [e] at h2
  exact h2
theorem Good.setElse {S : SpS} {L : List Rw4} (h : Good S L) {k : Nat} {x : Rw4} (hk : L[k]? = some x) {d : List Int} (hd : Byt d) {G : Nat} (hf : FirstIs (fill S.b x.1 (rN x) false) S.N (secs d.length) (some G)) :
    Good (putS (wiped { S with b := fill S.b x.1 (rN x) false } x.1 (rN x) (x.2.length : Int)) G d) (L.eraseIdx k ++ [(G, d)]) := (h.wipe hk).add hf.1 hf.2.1 hd
theorem Good.setFirst {S : SpS} {L : List Rw4} (h : Good S L) {k : Nat} {x : Rw4} (hk : L[k]? = some x) {n : Nat} (hn : 1 ≤ n) {o : Option Nat} (hf : FirstIs (fill S.b x.1 (rN x) false) S.N n o) : FirstL (L.eraseIdx k) S.N n o := (h.wipe hk).first hn hf
theorem Good.reads {S : SpS} {L : List Rw4} (h : Good S L) (r : Nat) : Good { S with r := r } L := ⟨h.live, h.fit, h.bits, h.data, h.apart, h.byt, h.len, h.cnt⟩
theorem Good.run {S : SpS} {L : List Rw4} (h : Good S L) {x : Rw4} (hx : x ∈ L) : runIs S.b x.1 (rN x) true := fun i hi => (h.bits _).2 ⟨x, hx, by omega, by omega⟩

/-- A space with these rows, behind k things. -/
def SG (w : World) (I : SpI) (L : List Rw4) (N k : Nat) : Prop :=
  ∃ S, SpAt w I S ∧ Good S L ∧ S.N = N ∧ S.r ≤ 300 * k ∧ S.q ≤ 300 * k ∧ S.c ≤ k

section
variable {w w' : World} {I : SpI} {L : List Rw4} {N k : Nat}
theorem SG.keep (h : SG w I L N k) {l : List Nat} (u : Upd l w w') (hl : ∀ k ∈ I.all, k ∉ l) : SG w' I L N k := by
  obtain ⟨S, h1, h2⟩ := h; exact ⟨S, h1.keep u hl, h2⟩
theorem SG.below (h : SG w I L N k) (hb : Below w.heap.size w w') : SG w' I L N k := h.keep (l := []) (.of_below hb) (by simp)
theorem SG.lt (h : SG w I L N k) : ∀ j ∈ I.all, j < w.heap.size := by obtain ⟨S, h1, -⟩ := h; exact h1.lt
theorem SG.mono (h : SG w I L N k) {k' : Nat} (hk : k ≤ k') : SG w I L N k' := by
  obtain ⟨S, h1, h2, h3, h4, h5, h6⟩ := h; exact ⟨S, h1, h2, h3, by omega, by omega, by omega⟩
theorem SG.fit (h : SG w I L N k) : ∀ x ∈ L, x.1 + rN x ≤ N := by
  obtain ⟨S, h1, h2, rfl, -⟩ := h; exact h2.fit
theorem SG.small (h : SG w I L N k) : N ≤ 20000 := by obtain ⟨S, h1, h2, rfl, -⟩ := h; exact h1.dk.small
theorem SG.apart (h : SG w I L N k) : L.Pairwise Ap := by obtain ⟨S, h1, h2, -⟩ := h; exact h2.apart
theorem SG.byt (h : SG w I L N k) : ∀ x ∈ L, Byt x.2 := by obtain ⟨S, h1, h2, -⟩ := h; exact h2.byt

theorem gNew (n : Nat) (w : World) (hn : n ≤ 20000) : Calls Try.prog 11 #[.int .i64 n] w fun e w' => ∃ I, e = .returned (.tuple #[.pointer (some ⟨I.m, 0, none⟩), .int .i64 0]) ∧ SG w' I [] n 0 ∧ (∀ k ∈ I.all, w.heap.size ≤ k) ∧ Below w.heap.size w w' :=
  (c_ENew n w hn).mono fun e w' ⟨I, h1, h2, h3, h4⟩ => ⟨I, h1, ⟨_, h2, Good.new n, rfl, Nat.le_refl _, Nat.le_refl _, Nat.le_refl _⟩, h3, h4.below (Nat.le_refl _) (by simp)⟩

theorem argOut {M : Nat} {a : Option Addr} {len cap : Nat} {l : List Int} (hr : Reads w a cap (l.map (Value.int .u8))) (e : len = l.length) (hM : w.heap.size = M) (hI : ∀ j ∈ I.all, M ≤ j) : 0 < len → ∀ y, a = some y → y.block ∉ I.all := fun h0 y hy hm => by
  have h1 := readBlock hr (by simp; omega) y hy
  have h2 := hI _ hm
  omega
def exA (F n s : Int) : Value := .agg #[.int .i64 F, .int .i64 n, .int .i64 s]
def PutG (I : SpI) (L : List Rw4) (N k : Nat) (d : List Int) (w : World) (e : Ending) (w' : World) : Prop :=
  (FirstL L N (secs d.length) none ∧ e = .returned (.tuple #[exA 0 0 0, .int .i64 3]) ∧ SG w' I L N k ∧ Upd I.all w w') ∨
  ∃ F : Nat, FirstL L N (secs d.length) (some F) ∧ e = .returned (.tuple #[exA F (secs d.length) d.length, .int .i64 0]) ∧ SG w' I (L ++ [(F, d)]) N (k + 1) ∧ Upd I.all w w'

theorem gPut (h : SG w I L N k) (hN : N ≤ 300) (hk : k ≤ 2000) (d : List Int) (a : Option Addr) (len cap : Nat) (e0 : len = d.length) (hl : len ≤ 1000000)
    (hb : Byt d) (hr : Reads w a cap (d.map (Value.int .u8))) (hcap : len ≤ cap) (hd : 0 < len → ∀ y, a = some y → y.block ∉ I.all) :
    Calls Try.prog 12 #[.pointer (some ⟨I.m, 0, none⟩), .slice a len cap] w (PutG I L N k d w) := by
  obtain ⟨S, h1, h2, rfl, h4, h5, h6⟩ := h
  have hs : secs d.length ≤ 20000 := by unfold secs; omega
  refine (c_EPut h1 d (by omega) (by omega) a len cap e0 hl hb hr hcap hd).mono ?_
  rintro e w' (⟨hf, rfl, k2, k3⟩ | ⟨F, hf, rfl, k2, k3⟩)
  · exact .inl ⟨h2.first (secs_pos _) hf, rfl, ⟨S, k2, h2, rfl, h4, h5, h6⟩, k3.mono (by simp)⟩
  · have hfit := hf.1
    exact .inr ⟨F, h2.first (secs_pos _) hf, rfl, ⟨_, k2, h2.add hf.1 hf.2.1 hb, rfl, by show S.r ≤ _; omega, by show S.q + secs d.length ≤ _; omega, by show S.c + 1 ≤ _; omega⟩, k3.mono (by simp [SpI.all])⟩

def GetG (I : SpI) (L : List Rw4) (N k : Nat) (x : Rw4) (w : World) (e : Ending) (w' : World) : Prop :=
  ∃ a c, e = .returned (.tuple #[.slice a x.2.length c, .int .i64 0]) ∧ Reads w' a c (x.2.map (Value.int .u8)) ∧ (∀ y, a = some y → w.heap.size ≤ y.block) ∧ SG w' I L N (k + 1) ∧ Upd I.all w w'
theorem gGet (h : SG w I L N k) (hN : N ≤ 300) (hk : k ≤ 2000) {x : Rw4} (hx : x ∈ L) :
    Calls Try.prog 13 #[.pointer (some ⟨I.m, 0, none⟩), exA x.1 (rN x) x.2.length] w (GetG I L N k x w) := by
  obtain ⟨S, h1, h2, rfl, h4, h5, h6⟩ := h
  have hf := h2.fit x hx
  refine (c_EGet h1 x.1 (rN x) x.2.length hf (secs_room _) (by omega) ((h2.live _).2 ⟨x, hx, rfl⟩)).mono ?_
  rintro e w' ⟨a, c, rfl, k2, k3, k4, k5⟩
  have hdat : (S.bs.drop (64 * x.1)).take x.2.length = x.2 := h2.data x hx
  rw [hdat] at k2
  exact ⟨a, c, rfl, k2, k3, ⟨_, k4, h2.reads _, rfl, by show S.r + rN x ≤ _; omega, by show S.q ≤ _; omega, by show S.c ≤ _; omega⟩, k5.mono (by simp [SpI.all])⟩
theorem SG.dead (h : SG w I L N k) {p n s : Int} (hx : ∀ x ∈ L, (p, n, s) ≠ rE x) : ∃ S, SpAt w I S ∧ S.f (p, n, s) = false := by
  obtain ⟨S, h1, h2, -⟩ := h
  refine ⟨S, h1, ?_⟩
  cases hf : S.f (p, n, s) with
  | false => rfl
  | true =>
    obtain ⟨x, hx1, e⟩ := (h2.live _).1 hf
    exact absurd e (hx x hx1)
theorem gGetNo (h : SG w I L N k) (p n s : Int) (ho : exOk (p, n, s)) (hx : ∀ x ∈ L, (p, n, s) ≠ rE x) :
    Calls Try.prog 13 #[.pointer (some ⟨I.m, 0, none⟩), exA p n s] w fun e w' => e = .returned (.tuple #[.slice none 0 0, .int .i64 4]) ∧ SG w' I L N k ∧ Upd I.all w w' := by
  obtain ⟨S, h1, hf⟩ := h.dead hx
  refine (c_EGetNo h1 p n s ho hf).mono ?_
  rintro e w' ⟨rfl, hb⟩
  exact ⟨rfl, h.below hb, .of_below hb⟩

def SetG (I : SpI) (L : List Rw4) (N k j : Nat) (x : Rw4) (d : List Int) (w : World) (e : Ending) (w' : World) : Prop :=
  Upd I.all w w' ∧
  ((secs d.length = rN x ∧ e = .returned (.tuple #[exA x.1 (secs d.length) d.length, .int .i64 0]) ∧ SG w' I (L.eraseIdx j ++ [(x.1, d)]) N (k + 1)) ∨
   (secs d.length ≠ rN x ∧ FirstL (L.eraseIdx j) N (secs d.length) none ∧ e = .returned (.tuple #[exA 0 0 0, .int .i64 3]) ∧ SG w' I L N k) ∨
   (secs d.length ≠ rN x ∧ ∃ G : Nat, FirstL (L.eraseIdx j) N (secs d.length) (some G) ∧ e = .returned (.tuple #[exA G (secs d.length) d.length, .int .i64 0]) ∧ SG w' I (L.eraseIdx j ++ [(G, d)]) N (k + 1)))
theorem gSet (h : SG w I L N k) (hN : N ≤ 300) (hk : k ≤ 2000) {j : Nat} {x : Rw4} (hj : L[j]? = some x) (hxl : x.2.length ≤ 1000000) (d : List Int) (a : Option Addr) (len cap : Nat) (e0 : len = d.length) (hl : len ≤ 1000000)
    (hb : Byt d) (hr : Reads w a cap (d.map (Value.int .u8))) (hcap : len ≤ cap) (hd : 0 < len → ∀ y, a = some y → y.block ∉ I.all) :
    Calls Try.prog 17 #[.pointer (some ⟨I.m, 0, none⟩), exA x.1 (rN x) x.2.length, .slice a len cap] w (SetG I L N k j x d w) := by
  obtain ⟨S, h1, h2, rfl, h4, h5, h6⟩ := h
  have hx : x ∈ L := List.mem_of_getElem? hj
  have hs : secs d.length ≤ 20000 := by unfold secs; omega
  have hf := h2.fit x hx
  refine (c_ESet h1 x.1 (rN x) x.2.length hf (rN_pos x) (by omega) ((h2.live _).2 ⟨x, hx, rfl⟩) (h2.run hx) d (by omega) (by omega) a len cap e0 hl hb hr hcap hd).mono ?_
  rintro e w' ⟨ku, h⟩
  refine ⟨ku.mono (by simp [SpI.all]), ?_⟩
  rcases h with ⟨ks, rfl, k2⟩ | ⟨ks, kf, rfl, k2⟩ | ⟨ks, G, kf, rfl, k2⟩
  · exact .inl ⟨ks, rfl, ⟨_, k2, h2.setSame hj hb ks, rfl, by show S.r ≤ _; omega, by show S.q + secs d.length ≤ _; omega, by show S.c + 1 ≤ _; omega⟩⟩
  · exact .inr (.inl ⟨ks, h2.setFirst hj (secs_pos _) kf, rfl, ⟨S, k2, h2, rfl, h4, h5, h6⟩⟩)
  · have hfit := kf.1
    exact .inr (.inr ⟨ks, G, h2.setFirst hj (secs_pos _) kf, rfl, ⟨_, k2, h2.setElse hj hb kf, rfl, by show S.r ≤ _; omega, by show S.q + secs d.length ≤ _; omega, by show S.c + 1 ≤ _; omega⟩⟩)

theorem gUsed (h : SG w I L N k) : Calls Try.prog 15 #[.pointer (some ⟨I.m, 0, none⟩)] w fun e w' => e = .returned (.int .i64 ((L.map rN).sum : Nat)) ∧ w = w' := by
  obtain ⟨S, h1, h2, -⟩ := h
  have := c_EUsed h1
  rw [h2.cnt] at this
  exact this
end

end Go.Proofs.Ytpbokmmobepolaa
