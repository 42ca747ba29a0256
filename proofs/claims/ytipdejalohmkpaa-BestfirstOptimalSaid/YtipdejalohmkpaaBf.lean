/- Least costs by repeated relaxation are the least costs of paths. -/
import Derived.Test.YtipdejalohmkpaaPBestfirstDistancesx3
import Derived.Test.YtipdejalohmkpaaDj
import Derived.Test.YtipdejalohmkpaaLf
namespace Go.Proofs.Ytipdejalohmkpaa.Gr
open Go.RowKit Go.Proofs.YtipdejalohmkpaaW.PrintWords Go.Proofs.YtipdejalohmkpaaW.PrintLast Go.Proofs.YtipdejalohmkpaaW.PrintMore PBestfirstDistances

def Ev {α : Type} (f : Nat → Option α) (r : α) : Prop := ∃ K, ∀ m, K ≤ m → f m = some r
theorem Ev.succ {α : Type} {f : Nat → Option α} {r : α} (h : Ev (fun k => f (k + 1)) r) : Ev f r := by
  obtain ⟨K, h⟩ := h
  refine ⟨K + 1, fun m hm => ?_⟩
  obtain ⟨m, rfl⟩ : ∃ q, m = q + 1 := ⟨m - 1, by omega⟩
  exact h m (by omega)
theorem Ev.congr {α : Type} {f f' : Nat → Option α} {r : α} (h : Ev f r) (e : ∀ k, f' k = f k) : Ev f' r := by
  obtain ⟨K, h⟩ := h
  exact ⟨K, fun m hm => (e m).trans (h m hm)⟩

def relax (o : List Int) (s : Int) (x : S51) : List Int :=
  if 0 ≤ x.f1 ∧ x.f1 ≤ 1099511627776 ∧ rd o s < 1099511627777 ∧ rd o s + x.f1 < rd o x.f0 then o.set x.f0.toNat (rd o s + x.f1) else o
def relaxAll (o : List Int) (s : Int) : List S51 → List Int
  | [] => o
  | x :: xs => relaxAll (relax o s x) s xs
def sweep (g : Gph) : Nat → Nat → List Int → List Int
  | 0, _, o => o
  | d + 1, i, o => sweep g d (i + 1) (relaxAll o i (g.next i))
def rounds (g : Gph) : Nat → List Int → List Int
  | 0, o => o
  | d + 1, o => rounds g d (sweep g g.E.length 0 o)
def dists (g : Gph) (start : Int) : List Int := rounds g g.E.length ((List.replicate g.E.length 1099511627777).set start.toNat 0)

structure Snd (g : Gph) (start : Int) (o : List Int) : Prop where
  len : o.length = g.E.length
  ran : ∀ t, g.has t = true → 0 ≤ rd o t ∧ rd o t ≤ 1099511627777
  path : ∀ t, g.has t = true → rd o t < 1099511627777 → ∃ r, Sr.PW g.prob start (t :: r) (rd o t)

theorem rd_set {o : List Int} {i t v : Int} (h0 : 0 ≤ i) (h1 : i < (o.length : Int)) (t0 : 0 ≤ t) : rd (o.set i.toNat v) t = if t = i then v else rd o t := by
  unfold rd
  rw [List.getD_eq_getElem?_getD, List.getD_eq_getElem?_getD]
  by_cases e : t = i
  · subst e
    rw [if_pos rfl, List.getElem?_set_self (by omega)]
    rfl
  · rw [if_neg e, List.getElem?_set_ne (by omega)]

theorem prob_next {g : Gph} {s : Int} {x : S51} (h : x ∈ g.next s) : (x.f0, x.f1) ∈ g.prob.next s := List.mem_map.2 ⟨x, h, rfl⟩

variable {g : Gph} {start : Int}
theorem Snd.relax {o : List Int} (h : Snd g start o) {s : Int} (hs : g.has s = true) {x : S51} (hx : x ∈ g.next s) :
    Snd g start (relax o s x) ∧ (∀ t, g.has t = true → rd (Gr.relax o s x) t ≤ rd o t) ∧ (0 ≤ x.f1 → x.f1 ≤ 1099511627776 → rd o s < 1099511627777 → rd (Gr.relax o s x) x.f0 ≤ rd o s + x.f1) := by
  have hx0 := next_has hx
  have hi := has_iff.1 hx0
  unfold Gr.relax
  split
  · rename_i hc
    obtain ⟨c0, c1, c2, c3⟩ := hc
    have hr := fun (t : Int) (t0 : 0 ≤ t) => rd_set (o := o) (v := rd o s + x.f1) hi.1 (by rw [h.len]; exact hi.2) t0
    refine ⟨⟨by rw [List.length_set, h.len], fun t ht => ?_, fun t ht hl => ?_⟩, fun t ht => ?_, fun _ _ _ => ?_⟩
    · rw [hr t (has_iff.1 ht).1]
      have a := h.ran t ht
      have b := h.ran s hs
      have c := h.ran x.f0 hx0
      split <;> omega
    · rw [hr t (has_iff.1 ht).1] at hl ⊢
      split
      · rename_i e
        subst e
        obtain ⟨r, hr⟩ := h.path s hs c2
        have c := h.ran x.f0 hx0
        exact ⟨_, Sr.PW.step hr (prob_next hx) c0 (by unfold Sr.maxCount; omega)⟩
      · rename_i e
        rw [if_neg e] at hl
        exact h.path t ht hl
    · rw [hr t (has_iff.1 ht).1]
      split
      · rename_i e; subst e; omega
      · omega
    · rw [hr x.f0 hi.1, if_pos rfl]; omega
  · rename_i hc
    refine ⟨h, fun t _ => Int.le_refl _, fun a b c => ?_⟩
    have : ¬ rd o s + x.f1 < rd o x.f0 := fun d => hc ⟨a, b, c, d⟩
    omega
theorem Snd.relaxAll {s : Int} (hs : g.has s = true) : ∀ (xs : List S51) (o : List Int), (∀ x ∈ xs, x ∈ g.next s) → Snd g start o →
    Snd g start (relaxAll o s xs) ∧ (∀ t, g.has t = true → rd (Gr.relaxAll o s xs) t ≤ rd o t) ∧ ∀ x ∈ xs, 0 ≤ x.f1 → x.f1 ≤ 1099511627776 → rd o s < 1099511627777 → rd (Gr.relaxAll o s xs) x.f0 ≤ rd o s + x.f1 := by
  intro xs
  induction xs with
  | nil => intro o _ h; exact ⟨h, fun t _ => Int.le_refl _, fun x hx => by simp at hx⟩
  | cons y ys ih =>
    intro o hm h
    obtain ⟨h1, d1, e1⟩ := h.relax hs (hm y (by simp))
    obtain ⟨h2, d2, e2⟩ := ih (Gr.relax o s y) (fun x hx => hm x (by simp [hx])) h1
    refine ⟨h2, fun t ht => Int.le_trans (d2 t ht) (d1 t ht), fun x hx a b c => ?_⟩
    rcases List.mem_cons.1 hx with rfl | hx
    · exact Int.le_trans (d2 _ (next_has (hm x (by simp)))) (e1 a b c)
    · have p := d1 s hs
      have q := e2 x hx a b (by omega)
      show rd (Gr.relaxAll (Gr.relax o s y) s ys) x.f0 ≤ _
      omega
theorem Snd.sweep : ∀ (d i : Nat) (o : List Int), i + d = g.E.length → Snd g start o →
    Snd g start (sweep g d i o) ∧ (∀ t, g.has t = true → rd (Gr.sweep g d i o) t ≤ rd o t) ∧ ∀ s : Int, (i : Int) ≤ s → g.has s = true → ∀ x ∈ g.next s, 0 ≤ x.f1 → x.f1 ≤ 1099511627776 → rd o s < 1099511627777 → rd (Gr.sweep g d i o) x.f0 ≤ rd o s + x.f1 := by
  intro d
  induction d with
  | zero => intro i o hi h; exact ⟨h, fun t _ => Int.le_refl _, fun s h1 h2 => by have := has_iff.1 h2; omega⟩
  | succ d ih =>
    intro i o hi h
    have hs : g.has (i : Int) = true := has_iff.2 ⟨by omega, by omega⟩
    obtain ⟨h1, d1, e1⟩ := Snd.relaxAll hs (g.next i) o (fun _ h => h) h
    obtain ⟨h2, d2, e2⟩ := ih (i + 1) _ (by omega) h1
    refine ⟨h2, fun t ht => Int.le_trans (d2 t ht) (d1 t ht), fun s hle hss x hx a b c => ?_⟩
    by_cases e : s = (i : Int)
    · subst e
      exact Int.le_trans (d2 _ (next_has hx)) (e1 x hx a b c)
    · have p := d1 s hss
      have q := e2 s (by omega) hss x hx a b (by omega)
      show rd (Gr.sweep g d (i + 1) (Gr.relaxAll o i (g.next i))) x.f0 ≤ _
      omega
/-- No path with at most j steps is cheaper. -/
def Cmp (g : Gph) (start : Int) (j : Nat) (o : List Int) : Prop := ∀ t r c, Sr.PW g.prob start (t :: r) c → r.length ≤ j → rd o t ≤ c
theorem pw_has (hs : g.has start = true) {t : Int} {r : List Int} {c : Int} (h : Sr.PW g.prob start (t :: r) c) : g.has t = true :=
  mem_dom.1 (h.dom (mem_dom.2 hs) (dom_closed g) t (by simp))
theorem Cmp.sweep (hs : g.has start = true) {j : Nat} {o : List Int} (h : Snd g start o) (hc : Cmp g start j o) : Cmp g start (j + 1) (sweep g g.E.length 0 o) := by
  obtain ⟨_, d1, e1⟩ := Snd.sweep g.E.length 0 o (by omega) h
  intro t r c hw hl
  generalize hL : t :: r = L at hw
  cases hw with
  | base =>
    injection hL with h1 h2
    subst h1 h2
    exact Int.le_trans (d1 _ hs) (hc _ _ _ Sr.PW.base (by simp))
  | @step s r' c' t' w hw hn h0 hle =>
    injection hL with h1 h2
    subst h1 h2
    have hp := hc s r' c' hw (by simpa using hl)
    have hss := pw_has hs hw
    have hb := hw.bound
    unfold Sr.maxCount at hb hle
    obtain ⟨x, hx, hxe⟩ := List.mem_map.1 hn
    injection hxe with x0 x1
    subst x0 x1
    have := e1 s (by have := has_iff.1 hss; omega) hss x hx h0 (by omega) (by omega)
    omega
theorem rounds_spec (hs : g.has start = true) : ∀ (d j : Nat) (o : List Int), Snd g start o → Cmp g start j o → Snd g start (rounds g d o) ∧ Cmp g start (j + d) (rounds g d o) := by
  intro d
  induction d with
  | zero => intro j o h hc; exact ⟨h, hc⟩
  | succ d ih =>
    intro j o h hc
    have := ih (j + 1) _ (Snd.sweep g.E.length 0 o (by omega) h).1 (Cmp.sweep hs h hc)
    rw [show j + (d + 1) = j + 1 + d by omega]
    exact this
theorem rd_init (hs : g.has start = true) {t : Int} (ht : g.has t = true) : rd ((List.replicate g.E.length (1099511627777 : Int)).set start.toNat 0) t = if t = start then 0 else 1099511627777 := by
  have h1 := has_iff.1 hs
  have h2 := has_iff.1 ht
  rw [rd_set h1.1 (by simpa using h1.2) h2.1]
  split
  · rfl
  · unfold rd
    rw [List.getD_eq_getElem?_getD, List.getElem?_replicate, if_pos (by omega)]
    rfl
theorem init_snd (hs : g.has start = true) : Snd g start ((List.replicate g.E.length (1099511627777 : Int)).set start.toNat 0) where
  len := by simp
  ran t ht := by rw [rd_init hs ht]; split <;> omega
  path t ht hl := by
    rw [rd_init hs ht] at hl ⊢
    split
    · rename_i e; subst e; exact ⟨[], Sr.PW.base⟩
    · rename_i e; rw [if_neg e] at hl; omega
theorem init_cmp (hs : g.has start = true) : Cmp g start 0 ((List.replicate g.E.length (1099511627777 : Int)).set start.toNat 0) := by
  intro t r c hw hl
  obtain rfl : r = [] := List.length_eq_zero_iff.1 (by omega)
  generalize hL : [t] = L at hw
  cases hw with
  | base =>
    injection hL with h1 h2
    subst h1
    rw [rd_init hs hs, if_pos rfl]
    omega
  | step => injection hL with h1 h2; cases h2
theorem dists_spec (hs : g.has start = true) : Snd g start (dists g start) ∧ Cmp g start g.E.length (dists g start) := by
  have := rounds_spec hs g.E.length 0 _ (init_snd hs) (init_cmp hs)
  rw [Nat.zero_add] at this
  exact this

section
variable {r : List Int}
theorem ev_l3 {s : Int} (hs : g.has s = true) (x7 : Int) (xs : List S51) (hm : ∀ x ∈ xs, x ∈ g.next s) (hx : xs.length < 1000000) : ∀ (d i : Nat) (o : List Int), xs.length - i = d → i ≤ xs.length → Snd g start o →
    Ev (fun k => pentaglotlaw40_distances.l2 k (relaxAll o s (xs.drop i)) x7 (g.E.length : Int) (wrap64 (s + 1)) g.E g.K g.Gs) r → Ev (fun k => pentaglotlaw40_distances.l3 k o x7 s (g.E.length : Int) s xs (xs.length : Int) (i : Int) g.E g.K g.Gs) r := by
  have hs' := has_iff.1 hs
  intro d
  induction d with
  | zero =>
    intro i o hd hi h hv
    have : i = xs.length := by omega
    subst this
    refine Ev.succ (Ev.congr hv fun k => ?_)
    simp only [pentaglotlaw40_distances.l3]
    rw [if_neg (by omega)]
    simp [relaxAll]
  | succ d ih =>
    intro i o hd hi h hv
    have hlt : i < xs.length := by omega
    have hr : rd_T51 xs (i : Int) = xs[i] := by simp [rd_T51, hlt]
    have hw : wrap64 ((i : Int) + 1) = ((i + 1 : Nat) : Int) := by rw [w64 (by omega) (by omega)]; omega
    have hxm := hm xs[i] (List.getElem_mem hlt)
    have hx0 := next_has hxm
    have hi0 := has_iff.1 hx0
    rw [List.drop_eq_getElem_cons hlt] at hv
    have h1 := ih (i + 1) (relax o s xs[i]) (by omega) (by omega) (h.relax hs hxm).1 hv
    refine Ev.succ (Ev.congr h1 fun k => ?_)
    have b1 := h.ran s hs
    simp only [pentaglotlaw40_distances.l3]
    rw [if_pos (by omega), if_pos (by omega), if_pos (by omega), hr, hw]
    unfold relax
    have hl := h.len
    by_cases a1 : xs[i].f1 ≥ 0
    · rw [if_pos a1]
      by_cases a2 : xs[i].f1 ≤ 1099511627776
      · rw [if_pos a2, if_pos hs'.1, if_pos (show s < (o.length : Int) by rw [hl]; exact hs'.2)]
        by_cases a3 : rd o s < 1099511627777
        · rw [if_pos a3, if_pos hi0.1, if_pos (show xs[i].f0 < (o.length : Int) by rw [hl]; exact hi0.2)]
          have hwr : wrap64 (rd o s + xs[i].f1) = rd o s + xs[i].f1 := by
            generalize rd o s = q at *
            generalize xs[i].f1 = q2 at *
            exact w64 (by omega) (by omega)
          rw [hwr]
          by_cases a4 : rd o s + xs[i].f1 < rd o xs[i].f0
          · rw [if_pos a4, if_pos ⟨a1, a2, a3, a4⟩]
          · rw [if_neg a4, if_neg (fun e => a4 e.2.2.2)]
        · rw [if_neg a3, if_neg (fun e => a3 e.2.2.1)]
      · rw [if_neg a2, if_neg (fun e => a2 e.2.1)]
    · rw [if_neg a1, if_neg (fun e => a1 e.1)]
theorem next_all (hl : g.large = false) (s : Int) : ∃ K, ∀ m, K ≤ m → pentaglotref40_Graph_Next.f m g.E g.K g.Gs s = some (g.next s) := by
  obtain ⟨k, hk⟩ := next_f g hl s
  refine ⟨k, fun m hm => ?_⟩
  obtain ⟨j, rfl⟩ : ∃ j, m = k + j := ⟨m - k, by omega⟩
  exact more_rounds (g := fun k => pentaglotref40_Graph_Next.f k g.E g.K g.Gs s) (fun k => pentaglotref40_Graph_Next.mono g.E g.K g.Gs s k) k j _ hk
theorem nxt_len (hl : g.large = false) (s : Int) : (g.next s).length < 1000000 := by
  have := few8 g hl s
  unfold Gph.prob steps at this
  rw [List.length_map] at this
  omega
theorem ev_l2 (hl : g.large = false) (x7 : Int) : ∀ (d i : Nat) (o : List Int), i + d = g.E.length → Snd g start o →
    Ev (fun k => pentaglotlaw40_distances.l1 k (sweep g d i o) (wrap64 (x7 + 1)) g.E g.K g.Gs) r → Ev (fun k => pentaglotlaw40_distances.l2 k o x7 (g.E.length : Int) (i : Int) g.E g.K g.Gs) r := by
  have h12 := dom_len g hl
  unfold Gph.dom at h12
  rw [List.length_map, List.length_range] at h12
  intro d
  induction d with
  | zero =>
    intro i o hi h hv
    refine Ev.succ (Ev.congr hv fun k => ?_)
    simp only [pentaglotlaw40_distances.l2]
    rw [if_neg (by omega)]
    rfl
  | succ d ih =>
    intro i o hi h hv
    have hs : g.has (i : Int) = true := has_iff.2 ⟨by omega, by omega⟩
    have hw : wrap64 ((i : Int) + 1) = ((i + 1 : Nat) : Int) := by rw [w64 (by omega) (by omega)]; omega
    have h1 := ih (i + 1) (relaxAll o i (g.next i)) (by omega) (Snd.relaxAll hs _ _ (fun _ h => h) h).1 hv
    have h2 := ev_l3 (o := o) (r := r) hs x7 (g.next i) (fun _ h => h) (nxt_len hl i) (g.next i).length 0 (by omega) (by omega) h (by rw [List.drop_zero, hw]; exact h1)
    obtain ⟨K1, h2⟩ := h2
    obtain ⟨K2, h3⟩ := next_all hl (i : Int)
    refine Ev.succ ⟨max K1 K2, fun m hm => ?_⟩
    simp only [pentaglotlaw40_distances.l2]
    rw [if_pos (by omega), h3 m (by omega)]
    exact h2 m (by omega)
theorem ev_l1 (hl : g.large = false) : ∀ (d j : Nat) (o : List Int), j + d = g.E.length → Snd g start o → Ev (fun k => pentaglotlaw40_distances.l1 k o (j : Int) g.E g.K g.Gs) (rounds g d o) := by
  have h12 := dom_len g hl
  unfold Gph.dom at h12
  rw [List.length_map, List.length_range] at h12
  intro d
  induction d with
  | zero =>
    intro j o hj h
    refine Ev.succ ⟨0, fun k _ => ?_⟩
    simp only [pentaglotlaw40_distances.l1]
    rw [if_neg (by have := h.len; omega)]
    rfl
  | succ d ih =>
    intro j o hj h
    have hw : wrap64 ((j : Int) + 1) = ((j + 1 : Nat) : Int) := by rw [w64 (by omega) (by omega)]; omega
    have h1 := ih (j + 1) _ (by omega) (Snd.sweep g.E.length 0 o (by omega) h).1
    have h2 := ev_l2 (start := start) (r := rounds g (d + 1) o) hl (j : Int) g.E.length 0 o (by omega) h (by rw [hw]; exact h1)
    refine Ev.succ (Ev.congr h2 fun k => ?_)
    simp only [pentaglotlaw40_distances.l1]
    rw [if_pos (by have := h.len; omega), h.len]
    rfl
theorem ev_l0 (hl : g.large = false) (hs : g.has start = true) : ∀ (d i : Nat), i + d = g.E.length →
    Ev (fun k => pentaglotlaw40_distances.l0 k start (List.replicate i 1099511627777 ++ List.replicate d 0) (g.E.length : Int) (i : Int) g.E g.K g.Gs) (dists g start) := by
  have h12 := dom_len g hl
  unfold Gph.dom at h12
  rw [List.length_map, List.length_range] at h12
  have hs' := has_iff.1 hs
  intro d
  induction d with
  | zero =>
    intro i hi
    have : i = g.E.length := by omega
    subst this
    refine Ev.succ (Ev.congr (ev_l1 hl g.E.length 0 _ (by omega) (init_snd hs)) fun k => ?_)
    simp only [pentaglotlaw40_distances.l0]
    rw [if_neg (by omega), if_pos hs'.1, if_pos (by simp; omega)]
    simp
  | succ d ih =>
    intro i hi
    have hw : wrap64 ((i : Int) + 1) = ((i + 1 : Nat) : Int) := by rw [w64 (by omega) (by omega)]; omega
    refine Ev.succ (Ev.congr (ih (i + 1) (by omega)) fun k => ?_)
    simp only [pentaglotlaw40_distances.l0]
    rw [if_pos (by omega), if_pos (by omega), if_pos (by simp; omega), hw]
    congr 1
    rw [Int.toNat_natCast, List.set_append_right _ _ (by simp), List.length_replicate, Nat.sub_self, List.replicate_succ, List.set_cons_zero, List.replicate_succ', List.append_assoc]
    rfl
theorem dists_f (hl : g.large = false) (hs : g.has start = true) : ∃ k, pentaglotlaw40_distances.f k g.E g.K g.Gs start = some (dists g start) := by
  have h12 := dom_len g hl
  unfold Gph.dom at h12
  rw [List.length_map, List.length_range] at h12
  obtain ⟨K, h⟩ := ev_l0 hl hs g.E.length 0 (by omega)
  refine ⟨K, ?_⟩
  unfold pentaglotlaw40_distances.f
  rw [if_pos (by omega), if_pos (by omega)]
  simp only [Option.bind_some, Int.toNat_natCast, List.length_replicate]
  have := h K (by omega)
  simpa using this
end
end Go.Proofs.Ytipdejalohmkpaa.Gr
