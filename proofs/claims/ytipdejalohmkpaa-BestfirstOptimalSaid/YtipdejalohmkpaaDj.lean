/- The search finds cheapest paths: what holds of the list and of the expanded states at every round. -/
import Derived.Test.YtipdejalohmkpaaSt
namespace Go.Proofs.Ytipdejalohmkpaa.Sr
variable {σ : Type}

/-- A path from the start, the last state first, and its cost. -/
inductive PW (p : Prob σ) (start : σ) : List σ → Int → Prop
  | base : PW p start [start] 0
  | step {s : σ} {r : List σ} {c : Int} {t : σ} {w : Int} : PW p start (s :: r) c → (t, w) ∈ p.next s → 0 ≤ w → w ≤ maxCount - c → PW p start (t :: s :: r) (c + w)
theorem PW.bound {p : Prob σ} {start : σ} {l : List σ} {c : Int} (h : PW p start l c) : 0 ≤ c ∧ c ≤ maxCount := by
  induction h with
  | base => exact ⟨Int.le_refl _, by decide⟩
  | step _ _ _ _ ih => omega
theorem PW.dom {p : Prob σ} {start : σ} {dom : List σ} (hs : start ∈ dom) (hc : ∀ s ∈ dom, ∀ y ∈ p.next s, y.1 ∈ dom) {l : List σ} {c : Int} (h : PW p start l c) : ∀ s ∈ l, s ∈ dom := by
  induction h with
  | base => intro s h; obtain rfl : s = start := by simpa using h
            exact hs
  | step _ hn _ _ ih =>
    intro s h
    rcases List.mem_cons.1 h with rfl | h
    · exact hc _ (ih _ (by simp)) _ hn
    · exact ih s h

structure Inv (p : Prob σ) (goal : σ → Bool) (start : σ) (L : List (Ent σ)) (order : List σ) (F : List (σ × Int)) : Prop where
  names : F.map Prod.fst = order
  paths : ∀ x ∈ F, ∃ r, PW p start (x.1 :: r) x.2 ∧ r.length ≤ order.length
  ents : ∀ e ∈ L, PW p start e.rp e.cost ∧ e.bk.length ≤ order.length
  first : (∃ c, c ≤ 0 ∧ (start, c) ∈ F) ∨ ∃ e ∈ L, e.st = start ∧ e.cost ≤ 0
  front : ∀ x ∈ F, ∀ y ∈ p.next x.1, 0 ≤ y.2 → y.2 ≤ maxCount - x.2 → (∃ c, c ≤ x.2 + y.2 ∧ (y.1, c) ∈ F) ∨ ∃ e ∈ L, e.st = y.1 ∧ e.cost ≤ x.2 + y.2
  mono : ∀ x ∈ F, ∀ e ∈ L, x.2 ≤ e.cost
  sorted : F.Pairwise fun a b => a.2 ≤ b.2
  goals : ∀ s ∈ order, goal s = false

theorem Inv.start (p : Prob σ) (goal : σ → Bool) (s : σ) : Inv p goal s [⟨s, [], 0, 0⟩] [] [] where
  names := rfl
  paths x hx := by simp at hx
  ents e he := by
    obtain rfl : e = ⟨s, [], 0, 0⟩ := by simpa using he
    exact ⟨PW.base, by simp⟩
  first := .inr ⟨⟨s, [], 0, 0⟩, by simp, rfl, Int.le_refl _⟩
  front x hx := by simp at hx
  mono x hx := by simp at hx
  sorted := List.Pairwise.nil
  goals s hs := by simp at hs

theorem Inv.cover {p : Prob σ} {goal : σ → Bool} {start : σ} {L : List (Ent σ)} {order : List σ} {F : List (σ × Int)} (h : Inv p goal start L order F) {l : List σ} {c : Int} (hw : PW p start l c) :
    ∀ t r, l = t :: r → (∃ c', c' ≤ c ∧ (t, c') ∈ F) ∨ ∃ e ∈ L, e.cost ≤ c := by
  induction hw with
  | base =>
    intro t r e
    injection e with e1 _
    subst e1
    rcases h.first with h1 | ⟨x, hx, _, h2⟩
    · exact .inl h1
    · exact .inr ⟨x, hx, h2⟩
  | @step s r c t w hw hn h0 hle ih =>
    intro t' r' e
    injection e with e1 _
    subst e1
    rcases ih s r rfl with ⟨c', hc', hF⟩ | ⟨x, hx, h2⟩
    · rcases h.front (s, c') hF (t, w) hn h0 (by simp only; omega) with ⟨c2, h3, h4⟩ | ⟨x, hx, _, h3⟩
      · exact .inl ⟨c2, by simp only at h3; omega, h4⟩
      · exact .inr ⟨x, hx, by simp only at h3; omega⟩
    · exact .inr ⟨x, hx, by omega⟩

theorem mem_erase {L : List (Ent σ)} {e x : Ent σ} (hx : L[minIdx L]? = some x) (he : e ∈ L) : e = x ∨ e ∈ L.eraseIdx (minIdx L) := by
  obtain ⟨hlt, hxe⟩ := List.getElem?_eq_some_iff.1 hx
  obtain ⟨j, hj, hje⟩ := List.getElem_of_mem he
  by_cases c : j = minIdx L
  · subst c; left; rw [← hje, hxe]
  · right
    rw [List.mem_eraseIdx_iff_getElem]
    exact ⟨j, hj, c, hje⟩
theorem min_cost {L : List (Ent σ)} {x : Ent σ} (hx : L[minIdx L]? = some x) : ∀ e ∈ L, x.cost ≤ e.cost := by
  have hne : L ≠ [] := by rintro rfl; simp at hx
  obtain ⟨hlt, _, h2⟩ := minIdx_spec L hne
  intro e he
  obtain ⟨j, hj, hje⟩ := List.getElem_of_mem he
  have := h2 j hj
  have cj : costs L j = e.cost := by simp [costs, List.getElem?_eq_getElem hj, hje]
  have cx : costs L (minIdx L) = x.cost := by simp [costs, hx]
  omega

theorem Inv.skip {p : Prob σ} {goal : σ → Bool} {start : σ} {L : List (Ent σ)} {order : List σ} {F : List (σ × Int)} {x : Ent σ} (h : Inv p goal start L order F) (hx : L[minIdx L]? = some x) (hin : x.st ∈ order) :
    Inv p goal start (L.eraseIdx (minIdx L)) order F := by
  have hxm : x ∈ L := List.mem_of_getElem? hx
  have hsub : ∀ e ∈ L.eraseIdx (minIdx L), e ∈ L := fun e he => (List.eraseIdx_sublist ..).subset he
  obtain ⟨⟨s, c⟩, hF, hs⟩ : ∃ y ∈ F, y.1 = x.st := by rw [← h.names] at hin; exact List.mem_map.1 hin
  simp only at hs
  subst hs
  have hc := h.mono _ hF x hxm
  refine ⟨h.names, h.paths, fun e he => h.ents e (hsub e he), ?_, fun y hy z hz h0 hle => ?_, fun y hy e he => h.mono y hy e (hsub e he), h.sorted, h.goals⟩
  · rcases h.first with h1 | ⟨e, he, h1, h2⟩
    · exact .inl h1
    · rcases mem_erase hx he with rfl | he'
      · exact .inl ⟨c, by simp only at hc; omega, by rw [← h1]; exact hF⟩
      · exact .inr ⟨e, he', h1, h2⟩
  · rcases h.front y hy z hz h0 hle with h1 | ⟨e, he, h1, h2⟩
    · exact .inl h1
    · rcases mem_erase hx he with rfl | he'
      · exact .inl ⟨c, by simp only at hc; omega, by rw [← h1]; exact hF⟩
      · exact .inr ⟨e, he', h1, h2⟩

theorem pushes_in (x : Ent σ) : ∀ (r : List (σ × Int)) (n : Nat) (y : σ × Int), y ∈ r → 0 ≤ y.2 → y.2 ≤ maxCount - x.cost → ∃ e ∈ pushes x r n, e.st = y.1 ∧ e.cost = x.cost + y.2 := by
  intro r
  induction r with
  | nil => intro n y hy; simp at hy
  | cons z r ih =>
    intro n y hy h0 hle
    rcases List.mem_cons.1 hy with rfl | hy
    · unfold pushes
      rw [if_neg (by omega)]
      exact ⟨_, List.mem_cons_self, rfl, rfl⟩
    · unfold pushes
      split
      · exact ih n y hy h0 hle
      · obtain ⟨e, he, h1⟩ := ih (n + 1) y hy h0 hle
        exact ⟨e, List.mem_cons_of_mem _ he, h1⟩
theorem pushes_out (x : Ent σ) : ∀ (r : List (σ × Int)) (n : Nat) (e : Ent σ), e ∈ pushes x r n → ∃ y ∈ r, 0 ≤ y.2 ∧ y.2 ≤ maxCount - x.cost ∧ e.st = y.1 ∧ e.bk = x.st :: x.bk ∧ e.cost = x.cost + y.2 := by
  intro r
  induction r with
  | nil => intro n e he; simp [pushes] at he
  | cons z r ih =>
    intro n e he
    unfold pushes at he
    split at he
    · obtain ⟨y, hy, h⟩ := ih n e he; exact ⟨y, by simp [hy], h⟩
    · rename_i hz
      rcases List.mem_cons.1 he with rfl | he
      · exact ⟨z, by simp, by omega, by omega, rfl, rfl, rfl⟩
      · obtain ⟨y, hy, h⟩ := ih (n + 1) e he; exact ⟨y, by simp [hy], h⟩

theorem Inv.expand {p : Prob σ} {goal : σ → Bool} {start : σ} {L : List (Ent σ)} {order : List σ} {F : List (σ × Int)} {x : Ent σ} (h : Inv p goal start L order F) (hx : L[minIdx L]? = some x) (hg : goal x.st = false) (added : Nat) :
    Inv p goal start (L.eraseIdx (minIdx L) ++ pushes x (p.next x.st) added) (order ++ [x.st]) (F ++ [(x.st, x.cost)]) := by
  have hxm : x ∈ L := List.mem_of_getElem? hx
  have hsub : ∀ e ∈ L.eraseIdx (minIdx L), e ∈ L := fun e he => (List.eraseIdx_sublist ..).subset he
  obtain ⟨hpx, hlx⟩ := h.ents x hxm
  have hmin := min_cost hx
  refine ⟨by rw [List.map_append, h.names]; rfl, fun y hy => ?_, fun e he => ?_, ?_, fun y hy z hz h0 hle => ?_, fun y hy e he => ?_, ?_, fun s hs => ?_⟩
  · rcases List.mem_append.1 hy with hy | hy
    · obtain ⟨r, h1, h2⟩ := h.paths y hy; exact ⟨r, h1, by simp; omega⟩
    · obtain rfl : y = (x.st, x.cost) := by simpa using hy
      exact ⟨x.bk, hpx, by simp; omega⟩
  · rcases List.mem_append.1 he with he | he
    · obtain ⟨h1, h2⟩ := h.ents e (hsub e he); exact ⟨h1, by simp; omega⟩
    · obtain ⟨y, hy, h1, h2, h3, h4, h5⟩ := pushes_out x _ _ e he
      refine ⟨?_, by rw [h4]; simp; omega⟩
      unfold Ent.rp
      rw [h3, h4, h5]
      exact PW.step hpx hy h1 h2
  · rcases h.first with ⟨c, h1, h2⟩ | ⟨e, he, h1, h2⟩
    · exact .inl ⟨c, h1, by simp [h2]⟩
    · rcases mem_erase hx he with rfl | he'
      · exact .inl ⟨e.cost, h2, by rw [← h1]; simp⟩
      · exact .inr ⟨e, by simp [he'], h1, h2⟩
  · rcases List.mem_append.1 hy with hy | hy
    · rcases h.front y hy z hz h0 hle with ⟨c, h1, h2⟩ | ⟨e, he, h1, h2⟩
      · exact .inl ⟨c, h1, by simp [h2]⟩
      · rcases mem_erase hx he with rfl | he'
        · exact .inl ⟨e.cost, h2, by rw [← h1]; simp⟩
        · exact .inr ⟨e, by simp [he'], h1, h2⟩
    · obtain rfl : y = (x.st, x.cost) := by simpa using hy
      obtain ⟨e, he, h1, h2⟩ := pushes_in x (p.next x.st) added z hz h0 hle
      exact .inr ⟨e, by simp [he], h1, by simp only; omega⟩
  · rcases List.mem_append.1 hy with hy | hy
    · rcases List.mem_append.1 he with he | he
      · exact h.mono y hy e (hsub e he)
      · obtain ⟨z, _, h1, _, _, _, h5⟩ := pushes_out x _ _ e he
        have := h.mono y hy x hxm
        omega
    · obtain rfl : y = (x.st, x.cost) := by simpa using hy
      simp only
      rcases List.mem_append.1 he with he | he
      · exact hmin e (hsub e he)
      · obtain ⟨z, _, h1, _, _, _, h5⟩ := pushes_out x _ _ e he
        omega
  · refine List.pairwise_append.2 ⟨h.sorted, by simp, fun a ha b hb => ?_⟩
    obtain rfl : b = (x.st, x.cost) := by simpa using hb
    exact h.mono a ha x hxm
  · rcases List.mem_append.1 hs with hs | hs
    · exact h.goals s hs
    · obtain rfl : s = x.st := by simpa using hs
      exact hg

/-- What the search's answer says. -/
def Best (p : Prob σ) (goal : σ → Bool) (start : σ) (budget : Nat) : Out σ → Prop
  | .found x _ => PW p start x.rp x.cost ∧ goal x.st = true ∧ ∀ t r c, PW p start (t :: r) c → goal t = true → x.cost ≤ c
  | .notFound o => ∃ F : List (σ × Int), F.map Prod.fst = o ∧ (∀ y ∈ F, ∃ r, PW p start (y.1 :: r) y.2 ∧ r.length ≤ o.length) ∧ (F.Pairwise fun a b => a.2 ≤ b.2) ∧ (∀ s ∈ o, goal s = false) ∧ KeysNe p o ∧ ∀ t r c, PW p start (t :: r) c → ∃ c', c' ≤ c ∧ (t, c') ∈ F
  | .budget o => o.length = budget ∧ KeysNe p o ∧ ∃ F : List (σ × Int), F.map Prod.fst = o ∧ (∀ y ∈ F, ∃ r, PW p start (y.1 :: r) y.2 ∧ r.length ≤ o.length)
theorem run_best (p : Prob σ) (goal : σ → Bool) (start : σ) (budget : Nat) (dom : List σ) (hdom : start ∈ dom) (hclosed : ∀ s ∈ dom, ∀ y ∈ p.next s, y.1 ∈ dom) (hinj : ∀ s ∈ dom, ∀ t ∈ dom, p.key s = p.key t → s = t) :
    ∀ (k : Nat) (L : List (Ent σ)) (order : List σ) (added : Nat) (F : List (σ × Int)) (out : Out σ), Inv p goal start L order F → KeysNe p order → run p goal budget k L order added = some out → Best p goal start budget out := by
  intro k
  induction k with
  | zero => intro L order added F out _ _ h; simp [run] at h
  | succ k ih =>
    intro L order added F out hi hk h
    have hod : ∀ s ∈ order, s ∈ dom := fun s hs => by
      rw [← hi.names] at hs
      obtain ⟨y, hy, rfl⟩ := List.mem_map.1 hs
      obtain ⟨r, h1, _⟩ := hi.paths y hy
      exact h1.dom hdom hclosed _ (by simp)
    rw [run] at h
    cases hx : L[minIdx L]? with
    | none =>
      rw [hx] at h
      injection h with h
      subst h
      have hL : L = [] := by
        apply Classical.byContradiction
        intro hne
        obtain ⟨hlt, _⟩ := minIdx_spec L hne
        rw [List.getElem?_eq_getElem hlt] at hx
        cases hx
      subst hL
      refine ⟨F, hi.names, hi.paths, hi.sorted, hi.goals, hk, fun t r c hw => ?_⟩
      rcases hi.cover hw t r rfl with h1 | ⟨e, he, _⟩
      · exact h1
      · simp at he
    | some x =>
      rw [hx] at h
      dsimp only at h
      have hxm : x ∈ L := List.mem_of_getElem? hx
      have hxd : x.st ∈ dom := (hi.ents x hxm).1.dom hdom hclosed _ (by simp [Ent.rp])
      cases hw : was p order x.st with
      | true =>
        rw [hw] at h
        simp only [if_true] at h
        obtain ⟨y, hy, h1⟩ := was_true hw
        have := hinj y (hod y hy) x.st hxd h1
        subst this
        exact ih _ _ _ F out (hi.skip hx hy) hk h
      | false =>
        rw [hw] at h
        simp only [Bool.false_eq_true, if_false] at h
        split at h
        · rename_i hg
          injection h with h
          subst h
          refine ⟨(hi.ents x hxm).1, hg, fun t r c hpw ht => ?_⟩
          rcases hi.cover hpw t r rfl with ⟨c', _, h2⟩ | ⟨e, he, h2⟩
          · have : t ∈ order := by rw [← hi.names]; exact List.mem_map.2 ⟨_, h2, rfl⟩
            rw [hi.goals t this] at ht
            cases ht
          · have := min_cost hx e he
            omega
        · rename_i hg
          split at h
          · rename_i hb
            injection h with h
            subst h
            exact ⟨hb, hk, F, hi.names, hi.paths⟩
          · exact ih _ _ _ _ out (hi.expand hx (by simpa using hg) added) (hk.snoc hw) h
end Go.Proofs.Ytipdejalohmkpaa.Sr
