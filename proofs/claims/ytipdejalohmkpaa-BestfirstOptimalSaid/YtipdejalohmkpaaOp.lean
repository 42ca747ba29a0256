/- What the search answers on a plain graph, against the least costs by relaxation. -/
import Derived.Test.YtipdejalohmkpaaBf
import Derived.Test.YtipdejalohmkpaaMp
namespace Go.Proofs.Ytipdejalohmkpaa.Gr
open Go.RowKit Go.Proofs.YtipdejalohmkpaaW.PrintWords Go.Proofs.YtipdejalohmkpaaW.PrintLast Go.Proofs.YtipdejalohmkpaaW.PrintMore PBestfirstDistances

theorem dig12 : ((List.range 12).all fun a => (List.range 12).all fun b => !(digits a == digits b) || a == b) = true := by kernel_rfl
theorem dig_inj {a b : Nat} (ha : a < 12) (hb : b < 12) (h : digits a = digits b) : a = b := by
  have h1 := List.all_eq_true.1 dig12 a (List.mem_range.2 ha)
  have h2 := List.all_eq_true.1 h1 b (List.mem_range.2 hb)
  rw [h] at h2
  simpa using h2
theorem key_plain {g : Gph} (hp : g.plain = true) (s : Int) : g.key s = digits s.toNat := by
  unfold Gph.key
  unfold Gph.plain at hp
  have : g.K.length = 0 := by simpa using hp
  rw [if_neg (by omega)]
theorem len12 {g : Gph} (hl : g.large = false) : g.E.length ≤ 12 := by
  have h12 := dom_len g hl
  unfold Gph.dom at h12
  rwa [List.length_map, List.length_range] at h12
theorem key_inj {g : Gph} (hl : g.large = false) (hp : g.plain = true) : ∀ s ∈ g.dom, ∀ t ∈ g.dom, g.prob.key s = g.prob.key t → s = t := by
  intro s hs t ht h
  have h1 := has_iff.1 (mem_dom.1 hs)
  have h2 := has_iff.1 (mem_dom.1 ht)
  have hn := len12 hl
  have h' : g.key s = g.key t := h
  rw [key_plain hp, key_plain hp] at h'
  have := dig_inj (by omega) (by omega) h'
  omega

variable {g : Gph} {start : Int}
theorem best_out (hl : g.large = false) (hp : g.plain = true) (hs : g.has start = true) (goal : Int → Bool) (b : Nat) : Sr.Best g.prob goal start b (g.out goal b start) :=
  Sr.run_best g.prob goal start b g.dom (mem_dom.2 hs) (dom_closed g) (key_inj hl hp) 200 _ [] 1 [] _ (Sr.Inv.start _ _ _) List.Pairwise.nil (out_run g hl goal b start hs)
theorem order_few (hs : g.has start = true) {o : List Int} {F : List (Int × Int)} {n : Nat} (hF : F.map Prod.fst = o) (hp : ∀ y ∈ F, ∃ r, Sr.PW g.prob start (y.1 :: r) y.2 ∧ r.length ≤ n) (hk : Sr.KeysNe g.prob o) : o.length ≤ g.E.length := by
  have hsub : ∀ s ∈ o, s ∈ g.dom := fun s h => by
    rw [← hF] at h
    obtain ⟨y, hy, rfl⟩ := List.mem_map.1 h
    obtain ⟨r, h1, _⟩ := hp y hy
    exact mem_dom.2 (pw_has hs h1)
  have := List.Nodup.length_le_of_subset hk.nodup hsub
  unfold Gph.dom at this
  rwa [List.length_map, List.length_range] at this
theorem no_budget (hl : g.large = false) (hp : g.plain = true) (hs : g.has start = true) (goal : Int → Bool) (o : List Int) : g.out goal 100 start ≠ .budget o := by
  intro e
  have h := best_out hl hp hs goal 100
  rw [e] at h
  obtain ⟨h1, h2, F, h3, h4⟩ := h
  have := order_few hs h3 h4 h2
  have := len12 hl
  omega
/-- No path is cheaper than the least cost. -/
theorem dists_opt (hl : g.large = false) (hp : g.plain = true) (hs : g.has start = true) {t : Int} {r : List Int} {c : Int} (hw : Sr.PW g.prob start (t :: r) c) : rd (dists g start) t ≤ c := by
  have h := best_out hl hp hs (fun _ => false) 100
  cases e : g.out (fun _ => false) 100 start with
  | budget o => exact absurd e (no_budget hl hp hs _ o)
  | found x o =>
    rw [e] at h
    exact absurd h.2.1 (by simp)
  | notFound o =>
    rw [e] at h
    obtain ⟨F, h1, h2, _, _, hk, h3⟩ := h
    obtain ⟨c', h4, h5⟩ := h3 t r c hw
    obtain ⟨r', h6, h7⟩ := h2 _ h5
    have := (dists_spec hs).2 t r' c' h6 (Nat.le_trans h7 (order_few hs h1 h2 hk))
    omega
theorem dist_pure (hl : g.large = false) (hp : g.plain = true) (hs : g.has start = true) {tg : Int} (ht : g.has tg = true) {d e : Int} (hr : dres g start (g.key tg) 100 = (d, e)) :
    (e = 0 ∧ d = rd (dists g start) tg) ∨ (e = 4 ∧ rd (dists g start) tg = 1099511627777) := by
  have hS := (dists_spec hs).1
  have h := best_out hl hp hs (fun t => g.key t == g.key tg) 100
  unfold dres at hr
  rw [if_neg (by omega)] at hr
  change (match g.out (fun t => g.key t == g.key tg) 100 start with | .notFound _ => ((0 : Int), (4 : Int)) | .budget _ => (0, 7) | .found x _ => (x.cost, 0)) = (d, e) at hr
  cases ho : g.out (fun t => g.key t == g.key tg) 100 start with
  | budget o => exact absurd ho (no_budget hl hp hs _ o)
  | found x o =>
    rw [ho] at h hr
    injection hr with h1 h2
    obtain ⟨a, b, c⟩ := h
    have hx := pw_has hs a
    have hxt : x.st = tg := key_inj hl hp _ (mem_dom.2 hx) _ (mem_dom.2 ht) (show g.key x.st = g.key tg by simpa using b)
    left
    refine ⟨h2.symm, ?_⟩
    have l1 := dists_opt hl hp hs a
    have hb := a.bound
    unfold Sr.maxCount at hb
    rw [hxt] at l1
    obtain ⟨r, hr⟩ := hS.path tg ht (by omega)
    have := c tg r _ hr (by simp)
    omega
  | notFound o =>
    rw [ho] at h hr
    injection hr with h1 h2
    obtain ⟨F, f1, _, _, f4, _, f3⟩ := h
    right
    refine ⟨h2.symm, ?_⟩
    have hran := hS.ran tg ht
    apply Classical.byContradiction
    intro hne
    obtain ⟨r, hr⟩ := hS.path tg ht (by omega)
    obtain ⟨c', _, h5⟩ := f3 tg r _ hr
    have : tg ∈ o := by rw [← f1]; exact List.mem_map.2 ⟨_, h5, rfl⟩
    have := f4 tg this
    simp at this
/-- Reachable's list: each once, in the order of the distances, all that can be reached. -/
theorem order_pure (hl : g.large = false) (hp : g.plain = true) (hs : g.has start = true) :
    ∃ o, rres g start 100 = (o, 0) ∧ o.Nodup ∧ (∀ s ∈ o, g.has s = true) ∧ (∀ t, g.has t = true → (rd (dists g start) t < 1099511627777 ↔ t ∈ o)) ∧ (o.Pairwise fun a b => rd (dists g start) a ≤ rd (dists g start) b) := by
  have hS := (dists_spec hs).1
  have h := best_out hl hp hs (fun _ => false) 100
  cases ho : g.out (fun _ => false) 100 start with
  | budget o => exact absurd ho (no_budget hl hp hs _ o)
  | found x o =>
    rw [ho] at h
    exact absurd h.2.1 (by simp)
  | notFound o =>
    rw [ho] at h
    obtain ⟨F, f1, f2, f5, _, hk, f3⟩ := h
    have hnd := hk.nodup
    have heq : ∀ y ∈ F, y.2 = rd (dists g start) y.1 := fun y hy => by
      obtain ⟨r, h1, _⟩ := f2 y hy
      have l1 := dists_opt hl hp hs h1
      have hb := h1.bound
      unfold Sr.maxCount at hb
      obtain ⟨r', h2⟩ := hS.path y.1 (pw_has hs h1) (by omega)
      obtain ⟨c', h3, h4⟩ := f3 _ _ _ h2
      have hc : c' = y.2 := by
        rw [← f1] at hnd
        obtain ⟨i, hi, hie⟩ := List.getElem_of_mem hy
        obtain ⟨j, hj, hje⟩ := List.getElem_of_mem h4
        have hpw := List.pairwise_iff_getElem.1 hnd
        have hij : i = j := by
          rcases Nat.lt_trichotomy i j with h | h | h
          · exact (hpw i j (by simpa using hi) (by simpa using hj) h (by simp [hie, hje])).elim
          · exact h
          · exact (hpw j i (by simpa using hj) (by simpa using hi) h (by simp [hie, hje])).elim
        subst hij
        rw [hie] at hje
        rw [hje]
      omega
    refine ⟨o, ?_, hnd, fun s h => ?_, fun t ht => ⟨fun hlt => ?_, fun hm => ?_⟩, ?_⟩
    · unfold rres
      rw [if_neg (by omega)]
      change (match g.out (fun _ => false) 100 start with | .notFound o => (o, (0 : Int)) | .budget _ => ([], 7) | .found _ _ => ([], 0)) = (o, 0)
      rw [ho]
    · rw [← f1] at h
      obtain ⟨y, hy, rfl⟩ := List.mem_map.1 h
      obtain ⟨r, h1, _⟩ := f2 y hy
      exact pw_has hs h1
    · obtain ⟨r, hr⟩ := hS.path t ht hlt
      obtain ⟨c', _, h4⟩ := f3 _ _ _ hr
      rw [← f1]
      exact List.mem_map.2 ⟨_, h4, rfl⟩
    · rw [← f1] at hm
      obtain ⟨y, hy, rfl⟩ := List.mem_map.1 hm
      obtain ⟨r, h1, _⟩ := f2 y hy
      have l1 := dists_opt hl hp hs h1
      have hb := h1.bound
      unfold Sr.maxCount at hb
      omega
    · rw [← f1, List.pairwise_map]
      refine List.Pairwise.imp_of_mem (fun {a b} ha hb hab => ?_) f5
      have := heq a ha
      have := heq b hb
      omega
end Go.Proofs.Ytipdejalohmkpaa.Gr
