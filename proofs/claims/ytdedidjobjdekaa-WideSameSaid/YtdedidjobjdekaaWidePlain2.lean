/-
  Wide objects, plain: what is read from bytes is what was written.
-/
import Derived.Test.YtdedidjobjdekaaWidePlain
namespace Go.Proofs.Ytdedidjobjdekaa
open Go.RowKit
set_option linter.unusedVariables false
set_option maxHeartbeats 400000

theorem put4_be4 {b0 b1 b2 b3 : Int} (h0 : 0 ≤ b0 ∧ b0 ≤ 255) (h1 : 0 ≤ b1 ∧ b1 ≤ 255) (h2 : 0 ≤ b2 ∧ b2 ≤ 255) (h3 : 0 ≤ b3 ∧ b3 ≤ 255) : put4 (be4 b0 b1 b2 b3) = [b0, b1, b2, b3] := by
  unfold put4 be4 wrap32
  have e0 : (((((b0 * 256 + b1) * 256 + b2) * 256 + b3 + 2147483648) % 4294967296 - 2147483648) / 16777216 % 256) = b0 := by omega
  have e1 : (((((b0 * 256 + b1) * 256 + b2) * 256 + b3 + 2147483648) % 4294967296 - 2147483648) / 65536 % 256) = b1 := by omega
  have e2 : (((((b0 * 256 + b1) * 256 + b2) * 256 + b3 + 2147483648) % 4294967296 - 2147483648) / 256 % 256) = b2 := by omega
  have e3 : (((((b0 * 256 + b1) * 256 + b2) * 256 + b3 + 2147483648) % 4294967296 - 2147483648) % 256) = b3 := by omega
  first
    | rw [e0, e1, e2, e3]
    | (congr 1; · omega
       congr 1; · omega
       congr 1; · omega
       congr 1; omega)
theorem be4_put4 (x : Int) : be4 (x / 16777216 % 256) (x / 65536 % 256) (x / 256 % 256) (x % 256) = wrap32 x := by
  unfold be4 wrap32
  omega
theorem wrap32_id {x : Int} (h : -2147483648 ≤ x ∧ x ≤ 2147483647) : wrap32 x = x := by unfold wrap32; omega
theorem be4_range (b0 b1 b2 b3 : Int) : -2147483648 ≤ be4 b0 b1 b2 b3 ∧ be4 b0 b1 b2 b3 ≤ 2147483647 := by unfold be4 wrap32; omega

theorem four_at {b : List Int} {p : Nat} (h : p + 4 ≤ b.length) : (b.drop p).take 4 = [b.getD p 0, b.getD (p + 1) 0, b.getD (p + 2) 0, b.getD (p + 3) 0] := by
  apply List.ext_getElem
  · simp; omega
  · intro i h1 h2
    simp only [List.length_cons, List.length_nil] at h2
    simp only [List.getElem_take, List.getElem_drop, List.getD_eq_getElem?_getD]
    match i, h2 with
    | 0, _ => simp [List.getElem?_eq_getElem (show p < b.length by omega)]
    | 1, _ => simp [List.getElem?_eq_getElem (show p + 1 < b.length by omega)]
    | 2, _ => simp [List.getElem?_eq_getElem (show p + 2 < b.length by omega)]
    | 3, _ => simp [List.getElem?_eq_getElem (show p + 3 < b.length by omega)]

theorem getV_in {b : List Int} {p : Nat} (h : p + 4 ≤ b.length) : getV b (p : Int) = be4 (b.getD p 0) (b.getD (p + 1) 0) (b.getD (p + 2) 0) (b.getD (p + 3) 0) := by
  unfold getV
  rw [if_pos (by omega), Int.toNat_natCast]
theorem getV_range {b : List Int} {p : Nat} : -2147483648 ≤ getV b (p : Int) ∧ getV b (p : Int) ≤ 2147483647 := by
  unfold getV
  split
  · exact be4_range _ _ _ _
  · omega
/-- What is read at a place is what its four bytes say. -/
theorem put_getV {b : List Int} {p : Nat} (hb : Byt b) (h : p + 4 ≤ b.length) : put4 (getV b (p : Int)) = (b.drop p).take 4 := by
  have hg : ∀ i, i < b.length → 0 ≤ b.getD i 0 ∧ b.getD i 0 ≤ 255 := fun i hi => hb _ (by rw [List.getD_eq_getElem?_getD, List.getElem?_eq_getElem hi]; exact List.getElem_mem hi)
  rw [getV_in h, four_at h, put4_be4 (hg _ (by omega)) (hg _ (by omega)) (hg _ (by omega)) (hg _ (by omega))]
theorem getV_at {b : List Int} {p : Nat} {x : Int} (h : (b.drop p).take 4 = put4 x) (hl : p + 4 ≤ b.length) : getV b (p : Int) = wrap32 x := by
  rw [four_at hl] at h
  unfold put4 at h
  simp only [List.cons.injEq, and_true] at h
  obtain ⟨e0, e1, e2, e3⟩ := h
  rw [getV_in hl, e0, e1, e2, e3, be4_put4]

theorem words_len (b : List Int) (p : Nat) : ∀ k, (words b p k).length = k
  | 0 => rfl
  | k + 1 => by rw [words, List.length_append, words_len b p k]; rfl
theorem allB_append (a b : List Int) : allB (a ++ b) = allB a ++ allB b := by simp [allB]
theorem allB_one (x : Int) : allB [x] = put4 x := by simp [allB]
/-- The words' bytes are the bytes. -/
theorem allB_words {b : List Int} {p : Nat} (hb : Byt b) : ∀ k, p + 4 * k ≤ b.length → allB (words b p k) = (b.drop p).take (4 * k)
  | 0, _ => by simp [words, allB]
  | k + 1, h => by
    rw [words, allB_append, allB_one, allB_words hb k (by omega), put_getV hb (by omega)]
    rw [show 4 * (k + 1) = 4 * k + 4 from by omega, List.take_add, List.drop_drop]
/-- The bytes' words are the words. -/
theorem words_allB : ∀ {W pre rest : List Int}, (∀ x ∈ W, -2147483648 ≤ x ∧ x ≤ 2147483647) → ∀ k, k ≤ W.length → words (pre ++ (allB W ++ rest)) pre.length k = W.take k
  | W, pre, rest, h, 0, _ => by simp [words]
  | W, pre, rest, h, k + 1, hk => by
    rw [words, words_allB h k (by omega)]
    have hkl : k < W.length := by omega
    have e : W = W.take k ++ (W[k] :: W.drop (k + 1)) := by simp
    have hx := h W[k] (List.getElem_mem hkl)
    have hd : ((pre ++ (allB W ++ rest)).drop (pre.length + 4 * k)).take 4 = put4 W[k] := by
      have ea : allB W = allB (W.take k) ++ (put4 W[k] ++ allB (W.drop (k + 1))) := by
        rw [← allB_one, ← allB_append, ← allB_append]
        congr 1
      have hl : (allB (W.take k)).length = 4 * k := by rw [allB_len, List.length_take, Nat.min_eq_left (by omega)]
      rw [ea, ← List.drop_drop, List.drop_left, List.append_assoc, List.drop_append_of_le_length (by omega), List.drop_of_length_le (by omega), List.nil_append, List.append_assoc, List.take_append_of_le_length (by rw [put4_len]; exact Nat.le_refl _), List.take_of_length_le (by rw [put4_len]; exact Nat.le_refl _)]
    have hlen : pre.length + 4 * k + 4 ≤ (pre ++ (allB W ++ rest)).length := by
      simp only [List.length_append, allB_len]; omega
    rw [getV_at hd hlen, wrap32_id hx, List.take_add_one, List.getElem?_eq_getElem hkl]
    rfl

theorem refIs_range {x : Int} (h : refIs x = true) : -2147483648 ≤ x ∧ x ≤ 2147483647 := by
  by_cases hc : x % 2 = 1 ∧ -2147483647 ≤ x ∧ x ≤ 2147483647 ∨ x % 2 = 0 ∧ 2 ≤ x ∧ x ≤ 2147483646
  · omega
  · rw [refIs_no hc] at h; cases h
theorem namIs_range {x : Int} (h : namIs x = true) : 2 ≤ x ∧ x ≤ 2147483646 := by
  by_cases hc : x % 2 = 0 ∧ 2 ≤ x ∧ x ≤ 2147483646
  · omega
  · rw [namIs_no hc] at h; cases h

/-! ### Decoding -/

def decC (b : List Int) : Int := getV b 0
def decK (b : List Int) : Int := getV b 4
def decW (b : List Int) : List Int := if decK b = 1 then words b 12 ((b.length - 12) / 4) else []
def decB (b : List Int) : List Int := if decK b = 2 then b.drop 12 else []
/-- Are bytes an object? -/
def isObj (b : List Int) : Prop := 12 ≤ b.length ∧ okObj (decC b) (decK b) (decW b) (decB b) ∧ encB (decC b) (decK b) (decW b) (decB b) = b
/-- The same, as the document has it. -/
def isRef (b : List Int) : Prop := 12 ≤ b.length ∧ (0 ≤ getV b 8 ∧ getV b 8 ≤ 1000) ∧ (decK b = 1 ∧ b.length = 12 + 4 * (getV b 8).toNat ∨ decK b ≠ 1 ∧ b.length = 12 + (getV b 8).toNat) ∧ okObj (decC b) (decK b) (decW b) (decB b)

theorem parts {b : List Int} (h : 12 ≤ b.length) : b = b.take 4 ++ ((b.drop 4).take 4 ++ ((b.drop 8).take 4 ++ b.drop 12)) := by
  have e1 : b.drop 8 = (b.drop 8).take 4 ++ b.drop 12 := by
    have := (List.take_append_drop 4 (b.drop 8)).symm
    rwa [List.drop_drop] at this
  have e2 : b.drop 4 = (b.drop 4).take 4 ++ b.drop 8 := by
    have := (List.take_append_drop 4 (b.drop 4)).symm
    rwa [List.drop_drop] at this
  rw [← e1, ← e2, List.take_append_drop]

theorem enc_size (cls kind : Int) (W B : List Int) : ((encB cls kind W B).drop 8).take 4 = put4 (sizeO kind W B) := by
  unfold encB
  rw [show (8 : Nat) = (put4 cls ++ put4 kind).length from by simp [put4_len], ← List.append_assoc, List.drop_left, List.take_append_of_le_length (by rw [put4_len]; exact Nat.le_refl _), List.take_of_length_le (by rw [put4_len]; exact Nat.le_refl _)]

theorem isObj_iff {b : List Int} (hb : Byt b) : isObj b ↔ isRef b := by
  constructor
  · rintro ⟨h1, h2, h3⟩
    have hl := encB_len (decC b) (decK b) (decW b) (decB b)
    rw [h3] at hl
    have hs : getV b 8 = wrap32 (sizeO (decK b) (decW b) (decB b)) := by
      have hz := enc_size (decC b) (decK b) (decW b) (decB b)
      rw [h3] at hz
      exact getV_at (p := 8) hz (by omega)
    refine ⟨h1, ?_⟩
    rcases h2.2 with ⟨hk, hB, hW, _⟩ | ⟨hk, hW, hB⟩
    · have hz : sizeO (decK b) (decW b) (decB b) = (decW b).length := by unfold sizeO; rw [if_pos hk]
      rw [hz, wrap32_id (by omega)] at hs
      rw [hB] at hl
      simp only [List.length_nil] at hl
      refine ⟨by omega, .inl ⟨hk, by omega⟩, h2⟩
    · have hz : sizeO (decK b) (decW b) (decB b) = (decB b).length := by unfold sizeO; rw [if_neg (by omega), if_pos hk]
      rw [hz, wrap32_id (by omega)] at hs
      rw [hW] at hl
      simp only [List.length_nil] at hl
      refine ⟨by omega, .inr ⟨by omega, by omega⟩, h2⟩
  · rintro ⟨h1, h2, h3, h4⟩
    refine ⟨h1, h4, ?_⟩
    have p0 := put_getV (p := 0) hb (by omega)
    have p1 := put_getV (p := 4) hb (by omega)
    have p2 := put_getV (p := 8) hb (by omega)
    rw [List.drop_zero] at p0
    have key : ∀ s : Nat, (s : Int) = getV b 8 → sizeO (decK b) (decW b) (decB b) = s → allB (decW b) ++ decB b = b.drop 12 → encB (decC b) (decK b) (decW b) (decB b) = b := fun s e1 e2 e3 => by
      unfold encB
      rw [e2, e3, e1]
      have q0 : put4 (decC b) = b.take 4 := p0
      have q1 : put4 (decK b) = (b.drop 4).take 4 := p1
      have q2 : put4 (getV b 8) = (b.drop 8).take 4 := p2
      rw [q0, q1, q2]
      exact (parts h1).symm
    rcases h3 with ⟨hk, hl⟩ | ⟨hk, hl⟩
    · have hB : decB b = [] := by unfold decB; rw [if_neg (by omega)]
      have hW : decW b = words b 12 (getV b 8).toNat := by unfold decW; rw [if_pos hk, hl]; congr 1; omega
      refine key (getV b 8).toNat (by omega) ?_ ?_
      · unfold sizeO; rw [if_pos hk, hW, words_len]
      · rw [hB, List.append_nil, hW, allB_words hb _ (by omega), List.take_of_length_le (by rw [List.length_drop]; omega)]
    · rcases h4.2 with ⟨hk1, _⟩ | ⟨hk2, hW, hBl⟩
      · exact absurd hk1 hk
      · have hB : decB b = b.drop 12 := by unfold decB; rw [if_pos hk2]
        refine key (getV b 8).toNat (by omega) ?_ ?_
        · unfold sizeO; rw [if_neg hk, if_pos hk2, hB, List.length_drop]; omega
        · rw [hW, hB]; rfl

/-- An object's bytes are that object. -/
theorem dec_enc {cls kind : Int} {W B : List Int} (h : okObj cls kind W B) : decC (encB cls kind W B) = cls ∧ decK (encB cls kind W B) = kind ∧ decW (encB cls kind W B) = W ∧ decB (encB cls kind W B) = B := by
  have hlen := encB_len cls kind W B
  have hc := namIs_range h.1
  have h1 : decC (encB cls kind W B) = cls := by
    have := getV_at (b := encB cls kind W B) (p := 0) (x := cls) (by
      unfold encB
      rw [List.drop_zero, List.take_append_of_le_length (by rw [put4_len]; exact Nat.le_refl _), List.take_of_length_le (by rw [put4_len]; exact Nat.le_refl _)]) (by omega)
    rw [wrap32_id (by omega)] at this
    exact this
  have hk : -2147483648 ≤ kind ∧ kind ≤ 2147483647 := by rcases h.2 with ⟨hk, _⟩ | ⟨hk, _⟩ <;> omega
  have h2 : decK (encB cls kind W B) = kind := by
    have := getV_at (b := encB cls kind W B) (p := 4) (x := kind) (by
      unfold encB
      rw [show (4 : Nat) = (put4 cls).length from rfl, List.drop_left, List.take_append_of_le_length (by rw [put4_len]; exact Nat.le_refl _), List.take_of_length_le (by rw [put4_len]; exact Nat.le_refl _)]) (by omega)
    rw [wrap32_id hk] at this
    exact this
  refine ⟨h1, h2, ?_, ?_⟩
  · unfold decW
    rw [h2]
    rcases h.2 with ⟨hk1, hB, hWl, hr⟩ | ⟨hk2, hW, _⟩
    · rw [if_pos hk1]
      have e : encB cls kind W B = (put4 cls ++ (put4 kind ++ put4 (sizeO kind W B))) ++ (allB W ++ B) := by
        unfold encB; simp only [List.append_assoc]
      have hpl : (put4 cls ++ (put4 kind ++ put4 (sizeO kind W B))).length = 12 := by simp [put4_len]
      have := words_allB (W := W) (pre := put4 cls ++ (put4 kind ++ put4 (sizeO kind W B))) (rest := B) (fun x hx => refIs_range (hr x hx)) W.length (Nat.le_refl _)
      rw [hpl, ← e, List.take_length] at this
      have hq : ((encB cls kind W B).length - 12) / 4 = W.length := by rw [hlen, hB]; simp only [List.length_nil]; omega
      rw [hq]; exact this
    · rw [if_neg (by omega), hW]
  · unfold decB
    rw [h2]
    rcases h.2 with ⟨hk1, hB, _⟩ | ⟨hk2, hW, _⟩
    · rw [if_neg (by omega), hB]
    · rw [if_pos hk2, hW]
      unfold encB
      rw [show allB [] = [] from rfl, List.nil_append, ← List.append_assoc, ← List.append_assoc]
      rw [show (12 : Nat) = ((put4 cls ++ put4 kind) ++ put4 (sizeO kind [] B)).length from by simp [put4_len], List.drop_left]

end Go.Proofs.Ytdedidjobjdekaa
