/- Plain facts on binary heaps kept in lists: sift up, sift down, and the least element at the root. No program here. -/
namespace Go.Proofs.Ytipdejalohmkpaa.Hp

/-- Keys: a cost and a number, compared in this order. -/
def ltK (a b : Int × Int) : Bool := if a.1 = b.1 then decide (a.2 < b.2) else decide (a.1 < b.1)
def leK (a b : Int × Int) : Prop := ltK b a = false
theorem leK_iff {a b : Int × Int} : leK a b ↔ (a.1 < b.1 ∨ (a.1 = b.1 ∧ a.2 ≤ b.2)) := by
  unfold leK ltK; split <;> simp <;> omega
theorem leK_refl (a : Int × Int) : leK a a := by rw [leK_iff]; omega
theorem leK_trans {a b c : Int × Int} (h : leK a b) (k : leK b c) : leK a c := by rw [leK_iff] at *; omega
theorem ltK_iff {a b : Int × Int} : ltK a b = true ↔ (a.1 < b.1 ∨ (a.1 = b.1 ∧ a.2 < b.2)) := by
  unfold ltK; split <;> simp <;> omega
theorem leK_of_lt {a b : Int × Int} (h : ltK a b = true) : leK a b := by rw [leK_iff]; rw [ltK_iff] at h; omega
theorem leK_of_not {a b : Int × Int} (h : ltK a b = false) : leK b a := h

def at_ (l : List Nat) (i : Nat) : Nat := l.getD i 0
def swp (l : List Nat) (i j : Nat) : List Nat := (l.set i (at_ l j)).set j (at_ l i)
theorem swp_length (l : List Nat) (i j : Nat) : (swp l i j).length = l.length := by simp [swp]
theorem at_swp {l : List Nat} {i j k : Nat} (hi : i < l.length) (hj : j < l.length) : at_ (swp l i j) k = if k = j then at_ l i else if k = i then at_ l j else at_ l k := by
  unfold swp at_
  simp only [List.getD_eq_getElem?_getD, List.getElem?_set, List.length_set]
  by_cases h1 : k = j
  · subst h1; simp [hj]
  · have h1' : j ≠ k := fun h => h1 h.symm
    simp only [if_neg h1, if_neg h1']
    by_cases h2 : k = i
    · subst h2; simp [hi]
    · have h2' : i ≠ k := fun h => h2 h.symm
      simp only [if_neg h2, if_neg h2']
theorem swp_perm {l : List Nat} {i j : Nat} (hi : i < l.length) (hj : j < l.length) : (swp l i j).Perm l := by
  have h := Array.swap_perm (xs := l.toArray) (i := i) (j := j) (by simpa using hi) (by simpa using hj)
  have h2 := h.toList
  simp only [Array.toList_swap] at h2
  unfold swp at_
  simpa [List.getD_eq_getElem?_getD, List.getElem?_eq_getElem hi, List.getElem?_eq_getElem hj] using h2

variable (kf : Nat → Int × Int)

/-- The first n places of l form a heap. -/
def HeapN (l : List Nat) (n : Nat) : Prop := ∀ k, 0 < k → k < n → leK (kf (at_ l ((k - 1) / 2))) (kf (at_ l k))
def UpInv (l : List Nat) (j : Nat) : Prop :=
  (∀ k, 0 < k → k < l.length → k ≠ j → leK (kf (at_ l ((k - 1) / 2))) (kf (at_ l k))) ∧
  (∀ k, 0 < k → k < l.length → (k - 1) / 2 = j → 0 < j → leK (kf (at_ l ((j - 1) / 2))) (kf (at_ l k)))
def DnInv (l : List Nat) (n i : Nat) : Prop :=
  (∀ k, 0 < k → k < n → (k - 1) / 2 ≠ i → leK (kf (at_ l ((k - 1) / 2))) (kf (at_ l k))) ∧
  (∀ k, 0 < k → k < n → (k - 1) / 2 = i → 0 < i → leK (kf (at_ l ((i - 1) / 2))) (kf (at_ l k)))

variable {kf}
theorem up_start {l : List Nat} {x : Nat} (h : HeapN kf l l.length) : UpInv kf (l ++ [x]) l.length := by
  refine ⟨fun k h0 hk hne => ?_, fun k h0 hk he _ => ?_⟩
  · simp at hk
    have hk' : k < l.length := by omega
    have e1 : at_ (l ++ [x]) k = at_ l k := by simp [at_, List.getElem?_append_left hk']
    have e2 : at_ (l ++ [x]) ((k - 1) / 2) = at_ l ((k - 1) / 2) := by
      have : (k - 1) / 2 < l.length := by omega
      simp [at_, List.getElem?_append_left this]
    rw [e1, e2]; exact h k h0 hk'
  · simp at hk; omega
theorem up_root {l : List Nat} (h : UpInv kf l 0) : HeapN kf l l.length := fun k h0 hk => h.1 k h0 hk (by omega)
theorem up_stop {l : List Nat} {j : Nat} (h : UpInv kf l j) (hl : ltK (kf (at_ l j)) (kf (at_ l ((j - 1) / 2))) = false) : HeapN kf l l.length := fun k h0 hk => by
  by_cases e : k = j
  · subst e; exact leK_of_not hl
  · exact h.1 k h0 hk e
theorem up_step {l : List Nat} {j : Nat} (hj0 : 0 < j) (hj : j < l.length) (h : UpInv kf l j) (hl : ltK (kf (at_ l j)) (kf (at_ l ((j - 1) / 2))) = true) : UpInv kf (swp l ((j - 1) / 2) j) ((j - 1) / 2) := by
  have hi : (j - 1) / 2 < l.length := by omega
  have hle := leK_of_lt hl
  obtain ⟨h1, h2⟩ := h
  refine ⟨fun k h0 hk hne => ?_, fun k h0 hk he hp => ?_⟩
  · rw [swp_length] at hk
    rw [at_swp hi hj, at_swp hi hj]
    by_cases e1 : k = j
    · subst e1
      rw [if_pos rfl, if_neg (by omega), if_pos rfl]
      exact hle
    · rw [if_neg (c := k = j) e1, if_neg (c := k = (j - 1) / 2) hne]
      by_cases e2 : (k - 1) / 2 = j
      · rw [if_pos e2]; exact h2 k h0 hk e2 hj0
      · rw [if_neg e2]
        by_cases e3 : (k - 1) / 2 = (j - 1) / 2
        · rw [if_pos e3]
          have := h1 k h0 hk e1
          rw [e3] at this
          exact leK_trans hle this
        · rw [if_neg e3]; exact h1 k h0 hk e1
  · rw [swp_length] at hk
    rw [at_swp hi hj, at_swp hi hj]
    rw [if_neg (by omega), if_neg (by omega)]
    have hpar := h1 ((j - 1) / 2) hp hi (by omega)
    by_cases e1 : k = j
    · subst e1; rw [if_pos rfl]; exact hpar
    · rw [if_neg e1, if_neg (by omega)]
      have := h1 k h0 hk e1
      rw [he] at this
      exact leK_trans hpar this

theorem dn_start {l : List Nat} {m : Nat} (hm : m < l.length) (h : HeapN kf l l.length) : DnInv kf (swp l 0 m) m 0 := by
  refine ⟨fun k h0 hk hne => ?_, fun k h0 hk he h => absurd h (by omega)⟩
  rw [at_swp (by omega) hm, at_swp (by omega) hm, if_neg (by omega), if_neg (by omega), if_neg (by omega), if_neg (by omega)]
  exact h k h0 (by omega)
theorem dn_leaf {l : List Nat} {n i : Nat} (h : DnInv kf l n i) (hl : n ≤ 2 * i + 1) : HeapN kf l n := fun k h0 hk => h.1 k h0 hk (by omega)
theorem dn_stop {l : List Nat} {n i j : Nat} (h : DnInv kf l n i) (hsm : ∀ k, 0 < k → k < n → (k - 1) / 2 = i → leK (kf (at_ l j)) (kf (at_ l k))) (hl : ltK (kf (at_ l j)) (kf (at_ l i)) = false) : HeapN kf l n := fun k h0 hk => by
  by_cases e : (k - 1) / 2 = i
  · rw [e]; exact leK_trans (leK_of_not hl) (hsm k h0 hk e)
  · exact h.1 k h0 hk e
theorem dn_step {l : List Nat} {n i j : Nat} (hn : n ≤ l.length) (hj0 : 0 < j) (hj : j < n) (hji : (j - 1) / 2 = i) (h : DnInv kf l n i) (hsm : ∀ k, 0 < k → k < n → (k - 1) / 2 = i → leK (kf (at_ l j)) (kf (at_ l k)))
    (hl : ltK (kf (at_ l j)) (kf (at_ l i)) = true) : DnInv kf (swp l i j) n j := by
  obtain ⟨h1, h2⟩ := h
  have hle := leK_of_lt hl
  have hi' : i < l.length := by omega
  have hj' : j < l.length := by omega
  refine ⟨fun k h0 hk hne => ?_, fun k h0 hk he hp => ?_⟩
  · rw [at_swp hi' hj', at_swp hi' hj']
    rw [if_neg (c := (k - 1) / 2 = j) hne]
    by_cases e1 : (k - 1) / 2 = i
    · rw [if_pos e1]
      by_cases e2 : k = j
      · rw [if_pos e2]; exact hle
      · rw [if_neg e2, if_neg (by omega)]; exact hsm k h0 hk e1
    · rw [if_neg e1]
      by_cases e2 : k = j
      · omega
      · rw [if_neg e2]
        by_cases e3 : k = i
        · rw [if_pos e3]
          have := h2 j hj0 hj hji (by omega)
          rw [e3]; exact this
        · rw [if_neg e3]; exact h1 k h0 hk e1
  · rw [at_swp hi' hj', at_swp hi' hj']
    rw [hji, if_neg (by omega), if_pos rfl, if_neg (by omega), if_neg (by omega)]
    have := h1 k h0 hk (by omega)
    rw [he] at this
    exact this
theorem heap_root {l : List Nat} {n : Nat} (h : HeapN kf l n) : ∀ k, k < n → leK (kf (at_ l 0)) (kf (at_ l k)) := by
  intro k
  induction k using Nat.strongRecOn with
  | ind k ih =>
    intro hk
    by_cases h0 : k = 0
    · subst h0; exact leK_refl _
    · exact leK_trans (ih ((k - 1) / 2) (by omega) (by omega)) (h k (by omega) hk)
theorem heap_take {l : List Nat} {n : Nat} (hn : n ≤ l.length) (h : HeapN kf l n) : HeapN kf (l.take n) (l.take n).length := fun k h0 hk => by
  have hk' : k < n := by simp at hk; omega
  have e1 : at_ (l.take n) k = at_ l k := by simp [at_, hk']
  have e2 : at_ (l.take n) ((k - 1) / 2) = at_ l ((k - 1) / 2) := by
    have : (k - 1) / 2 < n := by omega
    simp [at_, this]
  rw [e1, e2]; exact h k h0 hk'

end Go.Proofs.Ytipdejalohmkpaa.Hp
