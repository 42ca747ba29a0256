/- The search, without program and memory: a list of entries in the order in which they were added; each step takes the first of the cheapest. -/
namespace Go.Proofs.Ytipdejalohmkpaa.Sr

def maxCount : Int := 1099511627776
def maxBudget : Int := 1048576
/-- A state, the states before it (the last one first), the cost of the path and a number. -/
structure Ent (σ : Type) where
  st : σ
  bk : List σ
  cost : Int
  num : Nat
def Ent.rp {σ : Type} (e : Ent σ) : List σ := e.st :: e.bk
inductive Out (σ : Type) where
  | notFound (order : List σ)
  | budget (order : List σ)
  | found (e : Ent σ) (order : List σ)
structure Prob (σ : Type) where
  key : σ → ByteArray
  next : σ → List (σ × Int)

variable {σ : Type}
/-- The entries that an expansion adds. -/
def pushes (e : Ent σ) : List (σ × Int) → Nat → List (Ent σ)
  | [], _ => []
  | x :: r, n => if x.2 < 0 ∨ x.2 > maxCount - e.cost then pushes e r n else ⟨x.1, e.st :: e.bk, e.cost + x.2, n⟩ :: pushes e r (n + 1)
/-- The index of the first of the cheapest entries: the scan from place i on, k being the best so far. -/
def scan (L : List (Ent σ)) : List (Ent σ) → Nat → Nat → Nat
  | [], _, k => k
  | x :: r, i, k => scan L r (i + 1) (if x.cost < (L[k]?.map (·.cost)).getD 0 then i else k)
def minIdx (L : List (Ent σ)) : Nat := scan L L 0 0
def was (p : Prob σ) (order : List σ) (s : σ) : Bool := order.any fun x => p.key x == p.key s
/-- The search: at most k rounds. -/
def run (p : Prob σ) (goal : σ → Bool) (budget : Nat) : Nat → List (Ent σ) → List σ → Nat → Option (Out σ)
  | 0, _, _, _ => none
  | k + 1, L, order, added =>
    match L[minIdx L]? with
    | none => some (.notFound order)
    | some e =>
      if was p order e.st then run p goal budget k (L.eraseIdx (minIdx L)) order added
      else if goal e.st then some (.found e order)
      else if order.length = budget then some (.budget order)
      else run p goal budget k (L.eraseIdx (minIdx L) ++ pushes e (p.next e.st) added) (order ++ [e.st]) (added + (pushes e (p.next e.st) added).length)

theorem run_mono (p : Prob σ) (goal : σ → Bool) (budget : Nat) : ∀ (k : Nat) (L : List (Ent σ)) (order : List σ) (added : Nat) (o : Out σ), run p goal budget k L order added = some o → run p goal budget (k + 1) L order added = some o := by
  intro k
  induction k with
  | zero => intro L order added o h; simp [run] at h
  | succ k ih =>
    intro L order added o h
    rw [run] at h ⊢
    split at h
    · exact h
    · rename_i e he
      split
      · rename_i hw; rw [if_pos hw] at h; exact ih _ _ _ _ h
      · rename_i hw
        rw [if_neg hw] at h
        split
        · rename_i hg; rw [if_pos hg] at h; exact h
        · rename_i hg
          rw [if_neg hg] at h
          split
          · rename_i hb; rw [if_pos hb] at h; exact h
          · rename_i hb; rw [if_neg hb] at h; exact ih _ _ _ _ h

section
variable {p : Prob σ} {goal : σ → Bool} {budget k : Nat} {L : List (Ent σ)} {order : List σ} {added : Nat} {o : Out σ} {x : Ent σ}
theorem run_was (hx : L[minIdx L]? = some x) (hw : was p order x.st = true) (h : run p goal budget (k + 1) L order added = some o) : run p goal budget k (L.eraseIdx (minIdx L)) order added = some o := by
  rw [run, hx] at h; simpa [hw] using h
theorem run_goal (hx : L[minIdx L]? = some x) (hw : was p order x.st = false) (hg : goal x.st = true) (h : run p goal budget (k + 1) L order added = some o) : o = .found x order := by
  rw [run, hx] at h; simpa [hw, hg, eq_comm] using h
theorem run_budget (hx : L[minIdx L]? = some x) (hw : was p order x.st = false) (hg : goal x.st = false) (hb : order.length = budget) (h : run p goal budget (k + 1) L order added = some o) : o = .budget order := by
  rw [run, hx] at h; simpa [hw, hg, hb, eq_comm] using h
theorem run_expand (hx : L[minIdx L]? = some x) (hw : was p order x.st = false) (hg : goal x.st = false) (hb : order.length ≠ budget) (h : run p goal budget (k + 1) L order added = some o) :
    run p goal budget k (L.eraseIdx (minIdx L) ++ pushes x (p.next x.st) added) (order ++ [x.st]) (added + (pushes x (p.next x.st) added).length) = some o := by
  rw [run, hx] at h; simpa [hw, hg, hb] using h
theorem was_any (s : σ) : ((order.map p.key).any fun y => y == p.key s) = was p order s := by simp [was, List.any_map, Function.comp_def]
end

/-- Numbers rise along the list. -/
def Rising (L : List (Ent σ)) (added : Nat) : Prop := L.Pairwise (fun a b => a.num < b.num) ∧ ∀ e ∈ L, e.num < added
def costs (L : List (Ent σ)) (i : Nat) : Int := (L[i]?.map (·.cost)).getD 0
theorem scan_spec (L : List (Ent σ)) : ∀ (r : List (Ent σ)) (i k : Nat), L.drop i = r → k ≤ i → k < L.length → (∀ j, j < i → j < k → costs L k < costs L j) → (∀ j, j < i → costs L k ≤ costs L j) →
    scan L r i k < L.length ∧ (∀ j, j < scan L r i k → costs L (scan L r i k) < costs L j) ∧ (∀ j, j < L.length → costs L (scan L r i k) ≤ costs L j) := by
  intro r
  induction r with
  | nil =>
    intro i k hr hki hk h1 h2
    have hi : L.length ≤ i := by
      have : (L.drop i).length = 0 := by rw [hr]; rfl
      simp at this; omega
    exact ⟨hk, fun j hj => h1 j (by have : scan L [] i k = k := rfl; omega) hj, fun j hj => h2 j (by omega)⟩
  | cons x r ih =>
    intro i k hr hki hk h1 h2
    have hi : i < L.length := by
      have : (L.drop i).length = r.length + 1 := by rw [hr]; rfl
      simp at this; omega
    have hx : L[i]? = some x := by
      have : (L.drop i)[0]? = some x := by rw [hr]; rfl
      simpa using this
    have hr' : L.drop (i + 1) = r := by
      have : (L.drop i).drop 1 = r := by rw [hr]; rfl
      rwa [List.drop_drop] at this
    have hxc : costs L i = x.cost := by simp [costs, hx]
    rw [scan]
    by_cases hc : x.cost < (L[k]?.map (·.cost)).getD 0
    · rw [if_pos hc]
      have hc' : costs L i < costs L k := by rw [hxc]; exact hc
      refine ih (i + 1) i hr' (by omega) hi (fun j hj hji => ?_) (fun j hj => ?_)
      · have := h2 j hji; omega
      · by_cases e : j = i
        · subst e; omega
        · have := h2 j (by omega); omega
    · rw [if_neg hc]
      have hc' : costs L k ≤ costs L i := by rw [hxc]; unfold costs; omega
      refine ih (i + 1) k hr' (by omega) hk (fun j hj hjk => h1 j (by omega) hjk) (fun j hj => ?_)
      by_cases e : j = i
      · subst e; exact hc'
      · exact h2 j (by omega)
theorem minIdx_spec (L : List (Ent σ)) (h : L ≠ []) : minIdx L < L.length ∧ (∀ j, j < minIdx L → costs L (minIdx L) < costs L j) ∧ (∀ j, j < L.length → costs L (minIdx L) ≤ costs L j) := by
  have hl : 0 < L.length := List.length_pos_iff.2 h
  exact scan_spec L L 0 0 (by simp) (by omega) hl (fun j hj => by omega) (fun j hj => by omega)
theorem minIdx_nil : (([] : List (Ent σ))[minIdx ([] : List (Ent σ))]?) = none := by simp

/-- The first of the cheapest is the least by cost and number. -/
theorem min_least {L : List (Ent σ)} {added : Nat} (hr : Rising L added) {e : Ent σ} (he : L[minIdx L]? = some e) : ∀ x ∈ L, e.cost < x.cost ∨ (e.cost = x.cost ∧ e.num ≤ x.num) := by
  have hne : L ≠ [] := by rintro rfl; simp at he
  obtain ⟨hlt, h1, h2⟩ := minIdx_spec L hne
  intro x hx
  obtain ⟨j, hj, hjx⟩ := List.getElem_of_mem hx
  have hej : L[minIdx L] = e := by simpa [List.getElem?_eq_getElem hlt] using he
  have cj : costs L j = x.cost := by simp [costs, List.getElem?_eq_getElem hj, hjx]
  have ce : costs L (minIdx L) = e.cost := by simp [costs, he]
  by_cases hlt2 : j < minIdx L
  · have := h1 j hlt2; left; omega
  · by_cases heq : j = minIdx L
    · subst heq; right; rw [hej] at hjx; subst hjx; exact ⟨rfl, Nat.le_refl _⟩
    · have h3 := h2 j hj
      rw [ce, cj] at h3
      by_cases h4 : e.cost = x.cost
      · right
        refine ⟨h4, ?_⟩
        have := List.pairwise_iff_getElem.1 hr.1 (minIdx L) j hlt hj (by omega)
        rw [hej, hjx] at this
        omega
      · left; omega
/-- Of a rearrangement whose head is least by cost and number, the head is the one that the search takes. -/
theorem min_head {L : List (Ent σ)} {added : Nat} (hr : Rising L added) {x : Ent σ} {r : List (Ent σ)} (hp : (x :: r).Perm L) (hx : ∀ y ∈ L, x.cost < y.cost ∨ (x.cost = y.cost ∧ x.num ≤ y.num)) :
    L[minIdx L]? = some x ∧ r.Perm (L.eraseIdx (minIdx L)) := by
  have hne : L ≠ [] := by rintro rfl; exact absurd hp.length_eq (by simp)
  obtain ⟨hlt, _, _⟩ := minIdx_spec L hne
  have he : L[minIdx L]? = some L[minIdx L] := List.getElem?_eq_getElem hlt
  have hxm : x ∈ L := hp.mem_iff.1 (by simp)
  have h1 := min_least hr he x hxm
  have h2 := hx L[minIdx L] (List.getElem_mem hlt)
  have hnum : L[minIdx L].num = x.num := by omega
  have hxe : L[minIdx L] = x := by
    obtain ⟨j, hj, hjx⟩ := List.getElem_of_mem hxm
    by_cases e : j = minIdx L
    · subst e; exact hjx
    · exfalso
      rcases Nat.lt_or_gt_of_ne e with h | h
      · have := List.pairwise_iff_getElem.1 hr.1 j (minIdx L) hj hlt h
        rw [hjx] at this; omega
      · have := List.pairwise_iff_getElem.1 hr.1 (minIdx L) j hlt hj h
        rw [hjx] at this; omega
  refine ⟨by rw [he, hxe], ?_⟩
  have hp2 : (x :: L.eraseIdx (minIdx L)).Perm L := by
    rw [List.eraseIdx_eq_take_drop_succ]
    have h3 : L = L.take (minIdx L) ++ x :: L.drop (minIdx L + 1) := by
      have h4 := (List.take_append_drop (minIdx L) L).symm
      rw [List.drop_eq_getElem_cons hlt, hxe] at h4
      exact h4
    conv => rhs; rw [h3]
    exact List.perm_middle.symm
  exact (hp.trans hp2.symm).cons_inv
theorem rising_len (L : List (Ent σ)) : ∀ (n : Nat), L.Pairwise (fun a b => a.num < b.num) → (∀ e ∈ L, n ≤ e.num) → ∀ added, (∀ e ∈ L, e.num < added) → n ≤ added → n + L.length ≤ added := by
  induction L with
  | nil => intro n _ _ added _ h; simpa using h
  | cons x r ih =>
    intro n hp hn added ha _
    have h1 := List.pairwise_cons.1 hp
    have hx := hn x (by simp)
    have hx2 := ha x (by simp)
    have := ih (n + 1) h1.2 (fun e he => by have := h1.1 e he; omega) added (fun e he => ha e (by simp [he])) (by omega)
    simp; omega
theorem Rising.length {L : List (Ent σ)} {added : Nat} (h : Rising L added) : L.length ≤ added := by
  have := rising_len L 0 h.1 (fun _ _ => Nat.zero_le _) added h.2 (Nat.zero_le _)
  omega
theorem Rising.erase {L : List (Ent σ)} {added : Nat} (hr : Rising L added) (i : Nat) : Rising (L.eraseIdx i) added :=
  ⟨hr.1.sublist (List.eraseIdx_sublist ..), fun e he => hr.2 e ((List.eraseIdx_sublist ..).subset he)⟩
theorem pushes_mem (e : Ent σ) : ∀ (r : List (σ × Int)) (n : Nat) (x : Ent σ), x ∈ pushes e r n → n ≤ x.num ∧ x.num < n + (pushes e r n).length := by
  intro r
  induction r with
  | nil => intro n x hx; simp [pushes] at hx
  | cons y r ih =>
    intro n x hx
    unfold pushes at hx ⊢
    split at hx
    · rename_i h; rw [if_pos h]; exact ih n x hx
    · rename_i h
      rw [if_neg h]
      rcases List.mem_cons.1 hx with rfl | hx
      · simp
      · have := ih (n + 1) x hx; simp; omega
theorem pushes_rising (e : Ent σ) : ∀ (r : List (σ × Int)) (n : Nat), (pushes e r n).Pairwise (fun a b => a.num < b.num) := by
  intro r
  induction r with
  | nil => intro n; simp [pushes]
  | cons y r ih =>
    intro n
    unfold pushes
    split
    · exact ih n
    · exact List.pairwise_cons.2 ⟨fun b hb => by have := pushes_mem e r (n + 1) b hb; simp; omega, ih (n + 1)⟩
theorem Rising.push {L : List (Ent σ)} {added : Nat} (hr : Rising L added) (e : Ent σ) (r : List (σ × Int)) : Rising (L ++ pushes e r added) (added + (pushes e r added).length) := by
  refine ⟨List.pairwise_append.2 ⟨hr.1, pushes_rising e r added, fun a ha b hb => ?_⟩, fun x hx => ?_⟩
  · have := hr.2 a ha; have := pushes_mem e r added b hb; omega
  · rcases List.mem_append.1 hx with h | h
    · have := hr.2 x h; omega
    · exact (pushes_mem e r added x h).2

end Go.Proofs.Ytipdejalohmkpaa.Sr
