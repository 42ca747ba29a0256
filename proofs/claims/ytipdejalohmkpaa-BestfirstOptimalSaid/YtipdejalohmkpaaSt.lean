/- The search ends; its paths are short; the same search over other names of the states. -/
import Derived.Test.YtipdejalohmkpaaSr
import Derived.Test.YtipdejalohmkpaaMp
namespace Go.Proofs.Ytipdejalohmkpaa.Sr
variable {σ : Type}

theorem pushes_le (x : Ent σ) : ∀ (r : List (σ × Int)) (n : Nat), (pushes x r n).length ≤ r.length := by
  intro r
  induction r with
  | nil => intro n; simp [pushes]
  | cons y r ih =>
    intro n
    unfold pushes
    split
    · have := ih n; simp; omega
    · have := ih (n + 1); simp; omega
theorem pushes_st (x : Ent σ) : ∀ (r : List (σ × Int)) (n : Nat) (e : Ent σ), e ∈ pushes x r n → e.bk = x.st :: x.bk ∧ ∃ y ∈ r, y.1 = e.st := by
  intro r
  induction r with
  | nil => intro n e he; simp [pushes] at he
  | cons y r ih =>
    intro n e he
    unfold pushes at he
    split at he
    · obtain ⟨h1, z, hz, h2⟩ := ih n e he; exact ⟨h1, z, by simp [hz], h2⟩
    · rcases List.mem_cons.1 he with rfl | he
      · exact ⟨rfl, y, by simp, rfl⟩
      · obtain ⟨h1, z, hz, h2⟩ := ih (n + 1) e he; exact ⟨h1, z, by simp [hz], h2⟩
theorem was_false {p : Prob σ} {order : List σ} {s : σ} (h : was p order s = false) : ∀ x ∈ order, p.key x ≠ p.key s := by
  intro x hx e
  unfold was at h
  rw [List.any_eq_false] at h
  exact h x hx (by rw [e]; exact beq_self_eq_true _)
theorem was_true {p : Prob σ} {order : List σ} {s : σ} (h : was p order s = true) : ∃ x ∈ order, p.key x = p.key s := by
  unfold was at h
  obtain ⟨x, hx, h1⟩ := List.any_eq_true.1 h
  exact ⟨x, hx, eq_of_beq h1⟩

/-- The states that were expanded have different keys. -/
def KeysNe (p : Prob σ) (order : List σ) : Prop := order.Pairwise fun a b => p.key a ≠ p.key b
theorem KeysNe.snoc {p : Prob σ} {order : List σ} {s : σ} (h : KeysNe p order) (hw : was p order s = false) : KeysNe p (order ++ [s]) :=
  List.pairwise_append.2 ⟨h, by simp, fun a ha b hb => by obtain rfl : b = s := by simpa using hb
                                                          exact was_false hw a ha⟩
theorem KeysNe.nodup {p : Prob σ} {order : List σ} (h : KeysNe p order) : order.Nodup := h.imp fun hab e => hab (by rw [e])

theorem run_ends (p : Prob σ) (goal : σ → Bool) (budget : Nat) (dom : List σ) (hclosed : ∀ s ∈ dom, ∀ y ∈ p.next s, y.1 ∈ dom) (hfew : ∀ s, (p.next s).length ≤ 8) :
    ∀ (k : Nat) (L : List (Ent σ)) (order : List σ) (added : Nat), L.length + 9 * (dom.length - order.length) < k → (∀ e ∈ L, e.st ∈ dom) → (∀ s ∈ order, s ∈ dom) → KeysNe p order → ∃ out, run p goal budget k L order added = some out := by
  intro k
  induction k with
  | zero => intro L order added h; omega
  | succ k ih =>
    intro L order added hk hL ho hn
    rw [run]
    cases hx : L[minIdx L]? with
    | none => exact ⟨_, rfl⟩
    | some x =>
      obtain ⟨hlt, _⟩ := List.getElem?_eq_some_iff.1 hx
      have hxm : x ∈ L := List.mem_of_getElem? hx
      have hel : (L.eraseIdx (minIdx L)).length + 1 = L.length := by rw [List.length_eraseIdx_of_lt hlt]; omega
      have hes : ∀ e ∈ L.eraseIdx (minIdx L), e.st ∈ dom := fun e he => hL e ((List.eraseIdx_sublist ..).subset he)
      dsimp only
      cases hw : was p order x.st with
      | true =>
        simp only [if_true]
        exact ih _ _ _ (by omega) hes ho hn
      | false =>
        simp only [Bool.false_eq_true, if_false]
        by_cases hg : goal x.st = true
        · rw [if_pos hg]; exact ⟨_, rfl⟩
        · rw [if_neg hg]
          by_cases hb : order.length = budget
          · rw [if_pos hb]; exact ⟨_, rfl⟩
          · rw [if_neg hb]
            have hn2 := hn.snoc hw
            have ho2 : ∀ s ∈ order ++ [x.st], s ∈ dom := fun s hs => by
              rcases List.mem_append.1 hs with h | h
              · exact ho s h
              · obtain rfl : s = x.st := by simpa using h
                exact hL x hxm
            have hle := List.Nodup.length_le_of_subset hn2.nodup ho2
            have hp := pushes_le x (p.next x.st) added
            have hf := hfew x.st
            simp at hle
            refine ih _ _ _ (by simp; omega) (fun e he => ?_) ho2 hn2
            rcases List.mem_append.1 he with h | h
            · exact hes e h
            · obtain ⟨_, y, hy, h2⟩ := pushes_st x _ _ e h
              rw [← h2]
              exact hclosed x.st (hL x hxm) y hy

theorem run_len (p : Prob σ) (goal : σ → Bool) (budget : Nat) : ∀ (k : Nat) (L : List (Ent σ)) (order : List σ) (added : Nat) (x : Ent σ) (o : List σ), (∀ e ∈ L, e.bk.length ≤ order.length) → order.length ≤ budget → run p goal budget k L order added = some (.found x o) → x.rp.length ≤ budget + 1 := by
  intro k
  induction k with
  | zero => intro L order added x o _ _ h; simp [run] at h
  | succ k ih =>
    intro L order added x o hL ho h
    rw [run] at h
    cases hx : L[minIdx L]? with
    | none => rw [hx] at h; cases h
    | some y =>
      rw [hx] at h
      dsimp only at h
      have hym : y ∈ L := List.mem_of_getElem? hx
      have hes : ∀ e ∈ L.eraseIdx (minIdx L), e.bk.length ≤ order.length := fun e he => hL e ((List.eraseIdx_sublist ..).subset he)
      split at h
      · exact ih _ _ _ _ _ hes ho h
      · split at h
        · injection h with h
          injection h with h1 h2
          subst h1
          have := hL y hym
          simp [Ent.rp]; omega
        · split at h
          · cases h
          · refine ih _ _ _ _ _ (fun e he => ?_) (by simp; omega) h
            rcases List.mem_append.1 he with h3 | h3
            · have := hes e h3; simp; omega
            · obtain ⟨h4, _⟩ := pushes_st y _ _ e h3
              have := hL y hym
              rw [h4]; simp; omega

/-- The same search over other names of the states. -/
def Ent.map {τ : Type} (f : σ → τ) (e : Ent σ) : Ent τ := ⟨f e.st, e.bk.map f, e.cost, e.num⟩
def Out.map {τ : Type} (f : σ → τ) : Out σ → Out τ
  | .notFound o => .notFound (o.map f)
  | .budget o => .budget (o.map f)
  | .found e o => .found (e.map f) (o.map f)
theorem scan_map {τ : Type} (f : σ → τ) (L : List (Ent σ)) : ∀ (r : List (Ent σ)) (i k : Nat), scan (L.map (Ent.map f)) (r.map (Ent.map f)) i k = scan L r i k := by
  intro r
  induction r with
  | nil => intro i k; rfl
  | cons x r ih =>
    intro i k
    rw [List.map_cons, scan, scan, ih]
    congr 2
    simp only [List.getElem?_map, Option.map_map]
    rfl
theorem minIdx_map {τ : Type} (f : σ → τ) (L : List (Ent σ)) : minIdx (L.map (Ent.map f)) = minIdx L := scan_map f L L 0 0
theorem pushes_map {τ : Type} (f : σ → τ) (x : Ent σ) : ∀ (r : List (σ × Int)) (n : Nat), pushes (x.map f) (r.map fun y => (f y.1, y.2)) n = (pushes x r n).map (Ent.map f) := by
  intro r
  induction r with
  | nil => intro n; rfl
  | cons y r ih =>
    intro n
    rw [List.map_cons]
    unfold pushes
    by_cases h : y.2 < 0 ∨ y.2 > maxCount - x.cost
    · rw [if_pos h, if_pos (show (f y.1, y.2).2 < 0 ∨ (f y.1, y.2).2 > maxCount - (x.map f).cost from h)]; exact ih n
    · rw [if_neg h, if_neg (show ¬ ((f y.1, y.2).2 < 0 ∨ (f y.1, y.2).2 > maxCount - (x.map f).cost) from h), List.map_cons, ih]
      rfl
theorem run_map {τ : Type} (f : σ → τ) (p : Prob σ) (q : Prob τ) (goal : σ → Bool) (goal' : τ → Bool) (dom : List σ) (hclosed : ∀ s ∈ dom, ∀ y ∈ p.next s, y.1 ∈ dom)
    (hkey : ∀ s ∈ dom, q.key (f s) = p.key s) (hnext : ∀ s ∈ dom, q.next (f s) = (p.next s).map fun y => (f y.1, y.2)) (hgoal : ∀ s ∈ dom, goal' (f s) = goal s) (budget : Nat) :
    ∀ (k : Nat) (L : List (Ent σ)) (order : List σ) (added : Nat), (∀ e ∈ L, e.st ∈ dom) → (∀ s ∈ order, s ∈ dom) → run q goal' budget k (L.map (Ent.map f)) (order.map f) added = (run p goal budget k L order added).map (Out.map f) := by
  intro k
  induction k with
  | zero => intro L order added _ _; rfl
  | succ k ih =>
    intro L order added hL ho
    rw [run, run, minIdx_map, List.getElem?_map]
    cases hx : L[minIdx L]? with
    | none => rfl
    | some x =>
      have hxm : x ∈ L := List.mem_of_getElem? hx
      have hxd := hL x hxm
      have hes : ∀ e ∈ L.eraseIdx (minIdx L), e.st ∈ dom := fun e he => hL e ((List.eraseIdx_sublist ..).subset he)
      have hmap : (L.map (Ent.map f)).eraseIdx (minIdx L) = (L.eraseIdx (minIdx L)).map (Ent.map f) := by simp [List.eraseIdx_eq_take_drop_succ, List.map_take, List.map_drop]
      have hw : was q (order.map f) (x.map f).st = was p order x.st := by
        unfold was
        rw [List.any_map]
        show order.any _ = order.any _
        have : ∀ (l : List σ), (∀ s ∈ l, s ∈ dom) → l.any ((fun y => q.key y == q.key (x.map f).st) ∘ f) = l.any fun y => p.key y == p.key x.st := by
          intro l
          induction l with
          | nil => intro _; rfl
          | cons a l ihl =>
            intro hl
            rw [List.any_cons, List.any_cons, ihl (fun s hs => hl s (by simp [hs]))]
            congr 1
            show (q.key (f a) == q.key (f x.st)) = _
            rw [hkey a (hl a (by simp)), hkey x.st hxd]
        exact this order ho
      simp only [Option.map_some]
      rw [hw, hmap]
      by_cases c1 : was p order x.st = true
      · rw [if_pos c1, if_pos c1]; exact ih _ _ _ hes ho
      · rw [if_neg c1, if_neg c1]
        rw [show goal' (x.map f).st = goal x.st from hgoal x.st hxd]
        by_cases c2 : goal x.st = true
        · rw [if_pos c2, if_pos c2]; rfl
        · rw [if_neg c2, if_neg c2, List.length_map]
          by_cases c3 : order.length = budget
          · rw [if_pos c3, if_pos c3]; rfl
          · rw [if_neg c3, if_neg c3]
            rw [show q.next (x.map f).st = (p.next x.st).map fun y => (f y.1, y.2) from hnext x.st hxd, pushes_map, List.length_map, ← List.map_append]
            rw [show order.map f ++ [(x.map f).st] = (order ++ [x.st]).map f from by rw [List.map_append]; rfl]
            refine ih _ _ _ (fun e he => ?_) (fun s hs => ?_)
            · rcases List.mem_append.1 he with h | h
              · exact hes e h
              · obtain ⟨_, y, hy, h2⟩ := pushes_st x _ _ e h
                rw [← h2]; exact hclosed x.st hxd y hy
            · rcases List.mem_append.1 hs with h | h
              · exact ho s h
              · obtain rfl : s = x.st := by simpa using h
                exact hxd
end Go.Proofs.Ytipdejalohmkpaa.Sr
