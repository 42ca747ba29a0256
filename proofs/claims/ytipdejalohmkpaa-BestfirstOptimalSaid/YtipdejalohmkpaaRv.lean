/- Reversing a list in place by exchanging its ends: the loop's answer is the reversed list. -/
import Derived.Test.YtipdejalohmkpaaGr
namespace Go.Proofs.Ytipdejalohmkpaa.Gr
open Go.RowKit

def RevOk {α : Type} (xs x : List α) (i : Nat) : Prop := x.length = xs.length ∧ ∀ t, t < xs.length → x[t]? = if t < i ∨ xs.length - i ≤ t then xs[xs.length - 1 - t]? else xs[t]?
theorem rev_done {α : Type} {xs x : List α} {i : Nat} (h : RevOk xs x i) (hi : xs.length ≤ 2 * i + 1) : x = xs.reverse := by
  apply List.ext_getElem?
  intro t
  by_cases ht : t < xs.length
  · rw [h.2 t ht, List.getElem?_reverse ht]
    by_cases c : t < i ∨ xs.length - i ≤ t
    · rw [if_pos c]
    · rw [if_neg c]
      congr 1; omega
  · have hl := h.1
    rw [List.getElem?_eq_none (by omega), List.getElem?_eq_none (by simp; omega)]
theorem rev_step {α : Type} (d : α) {xs x : List α} {i : Nat} (h : RevOk xs x i) (hi : 2 * i + 1 < xs.length) : RevOk xs ((x.set i (x.getD (xs.length - 1 - i) d)).set (xs.length - 1 - i) (x.getD i d)) (i + 1) := by
  obtain ⟨hl, hx⟩ := h
  refine ⟨by simp [hl], fun t ht => ?_⟩
  have e1 : x.getD i d = xs[i] := by
    have := hx i (by omega)
    rw [if_neg (by omega), List.getElem?_eq_getElem (show i < xs.length by omega)] at this
    simp [List.getD_eq_getElem?_getD, this]
  have e2 : x.getD (xs.length - 1 - i) d = xs[xs.length - 1 - i] := by
    have := hx (xs.length - 1 - i) (by omega)
    rw [if_neg (by omega), List.getElem?_eq_getElem (show xs.length - 1 - i < xs.length by omega)] at this
    simp [List.getD_eq_getElem?_getD, this]
  rw [e1, e2, List.getElem?_set, List.getElem?_set]
  simp only [List.length_set, hl]
  by_cases c1 : xs.length - 1 - i = t
  · rw [if_pos c1, if_pos (by omega), if_pos (by omega)]
    rw [← c1, List.getElem?_eq_getElem (show xs.length - 1 - (xs.length - 1 - i) < xs.length by omega)]
    congr 2; omega
  · rw [if_neg c1]
    by_cases c2 : i = t
    · rw [if_pos c2, if_pos (by omega), if_pos (by omega), ← c2, List.getElem?_eq_getElem (show xs.length - 1 - i < xs.length by omega)]
    · rw [if_neg c2, hx t ht]
      by_cases c3 : t < i ∨ xs.length - i ≤ t
      · rw [if_pos c3, if_pos (by omega)]
      · rw [if_neg c3, if_neg (by omega)]
theorem rev_loop {α : Type} (d : α) (l0 : Nat → List α → Int → Int → Option (List α))
    (h0 : ∀ k x (i j : Int), l0 (k + 1) x i j = if i < j then (if 0 ≤ j then (if j < (x.length : Int) then (if 0 ≤ i then (if i < (x.length : Int) then (l0 k ((x.set i.toNat (x.getD j.toNat d)).set j.toNat (x.getD i.toNat d)) (wrap64 (i + 1)) (wrap64 (j - 1))) else none) else none) else none) else none) else some x)
    (xs : List α) (hx : xs.length < 1000000000) : ∀ (n k i : Nat) (x : List α), xs.length - 2 * i ≤ n → n < k → RevOk xs x i → i ≤ xs.length → l0 k x (i : Int) ((xs.length : Int) - 1 - i) = some xs.reverse := by
  intro n
  induction n with
  | zero =>
    intro k i x hn hk hr hi
    obtain ⟨k, rfl⟩ : ∃ m, k = m + 1 := ⟨k - 1, by omega⟩
    rw [h0, if_neg (by omega), rev_done hr (by omega)]
  | succ n ih =>
    intro k i x hn hk hr hi
    obtain ⟨k, rfl⟩ : ∃ m, k = m + 1 := ⟨k - 1, by omega⟩
    rw [h0]
    by_cases c : 2 * i + 1 < xs.length
    · have hl := hr.1
      have a1 : ((xs.length : Int) - 1 - i).toNat = xs.length - 1 - i := by omega
      have w1 : wrap64 ((i : Int) + 1) = ((i + 1 : Nat) : Int) := by rw [w64 (by omega) (by omega)]; omega
      have w2 : wrap64 ((xs.length : Int) - 1 - i - 1) = (xs.length : Int) - 1 - ((i + 1 : Nat) : Int) := by rw [w64 (by omega) (by omega)]; omega
      have c1 : (i : Int) < (xs.length : Int) - 1 - i := by omega
      have c2 : 0 ≤ (xs.length : Int) - 1 - i := by omega
      have c3 : (xs.length : Int) - 1 - i < (x.length : Int) := by omega
      have c4 : 0 ≤ (i : Int) := by omega
      have c5 : (i : Int) < (x.length : Int) := by omega
      have e := ih k (i + 1) _ (by omega) (by omega) (rev_step d hr c) (by omega)
      rw [if_pos c1, if_pos c2, if_pos c3, if_pos c4, if_pos c5, w1, w2, a1, Int.toNat_natCast]
      exact e
    · rw [if_neg (by omega), rev_done hr (by omega)]
theorem rev_all {α : Type} (d : α) (l0 : Nat → List α → Int → Int → Option (List α))
    (h0 : ∀ k x (i j : Int), l0 (k + 1) x i j = if i < j then (if 0 ≤ j then (if j < (x.length : Int) then (if 0 ≤ i then (if i < (x.length : Int) then (l0 k ((x.set i.toNat (x.getD j.toNat d)).set j.toNat (x.getD i.toNat d)) (wrap64 (i + 1)) (wrap64 (j - 1))) else none) else none) else none) else none) else some x)
    (xs : List α) (hx : xs.length < 1000000000) : l0 (xs.length + 1) xs 0 (wrap64 ((xs.length : Int) - 1)) = some xs.reverse := by
  have h := rev_loop d l0 h0 xs hx xs.length (xs.length + 1) 0 xs (by omega) (by omega) ⟨rfl, fun t ht => by rw [if_neg (by omega)]⟩ (by omega)
  have w : wrap64 ((xs.length : Int) - 1) = (xs.length : Int) - 1 - ((0 : Nat) : Int) := by rw [w64 (by omega) (by omega)]; omega
  rw [w]
  exact h
end Go.Proofs.Ytipdejalohmkpaa.Gr
