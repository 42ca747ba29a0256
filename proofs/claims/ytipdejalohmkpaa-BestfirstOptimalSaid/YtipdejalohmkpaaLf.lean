/- The law's own callers of the search over a graph. -/
import Derived.Test.YtipdejalohmkpaaPb
import Derived.Test.YtipdejalohmkpaaSt
import Derived.Test.YtipdejalohmkpaaILw
namespace Go.Proofs.Ytipdejalohmkpaa.Gr
open Go.RowKit Go.Proofs.YtipdejalohmkpaaW.PrintWords Go.Proofs.YtipdejalohmkpaaW.PrintLast Go.Proofs.YtipdejalohmkpaaW.PrintMore PBestfirstDistances

def Gph.prob (g : Gph) : Sr.Prob Int := ⟨g.key, fun s => steps (g.next s)⟩
def Gph.dom (g : Gph) : List Int := (List.range g.E.length).map Int.ofNat
theorem mem_dom {g : Gph} {s : Int} : s ∈ g.dom ↔ g.has s = true := by
  unfold Gph.dom Gph.has
  simp only [List.mem_map, List.mem_range, Bool.and_eq_true, decide_eq_true_eq]
  constructor
  · rintro ⟨n, hn, rfl⟩
    simp only [Int.ofNat_eq_natCast]
    omega
  · intro h; exact ⟨s.toNat, by omega, by simp only [Int.ofNat_eq_natCast]; omega⟩
theorem has_iff {g : Gph} {s : Int} : g.has s = true ↔ 0 ≤ s ∧ s < (g.E.length : Int) := by simp [Gph.has]
theorem start_dom {g : Gph} {s : Int} (hs : g.has s = true) : ∀ e ∈ [(⟨s, [], 0, 0⟩ : Sr.Ent Int)], e.st ∈ g.dom := by
  intro e he
  obtain rfl : e = ⟨s, [], 0, 0⟩ := by simpa using he
  exact mem_dom.2 hs
theorem next_has {g : Gph} {s : Int} {x : S51} (h : x ∈ g.next s) : g.has x.f0 = true := by
  unfold Gph.next at h
  split at h
  · exact (List.mem_filter.1 h).2
  · simp at h
theorem dom_closed (g : Gph) : ∀ s ∈ g.dom, ∀ y ∈ g.prob.next s, y.1 ∈ g.dom := by
  intro s _ y hy
  obtain ⟨x, hx, rfl⟩ := List.mem_map.1 hy
  exact mem_dom.2 (next_has hx)
theorem few8 (g : Gph) (hl : g.large = false) (s : Int) : (g.prob.next s).length ≤ 8 := by
  have := next_len g hl s
  simpa [Gph.prob, steps] using this
theorem dom_len (g : Gph) (hl : g.large = false) : g.dom.length ≤ 12 := by
  simp only [Gph.large, Bool.or_eq_false_iff, decide_eq_false_iff_not] at hl
  have := hl.1.1.1.1
  simp [Gph.dom]; omega
def Gph.out (g : Gph) (goal : Int → Bool) (budget : Nat) (s : Int) : Sr.Out Int := (Sr.run g.prob goal budget 200 [⟨s, [], 0, 0⟩] [] 1).getD (.notFound [])
theorem out_run (g : Gph) (hl : g.large = false) (goal : Int → Bool) (budget : Nat) (s : Int) (hs : g.has s = true) : Sr.run g.prob goal budget 200 [⟨s, [], 0, 0⟩] [] 1 = some (g.out goal budget s) := by
  obtain ⟨o, ho⟩ := Sr.run_ends g.prob goal budget g.dom (dom_closed g) (few8 g hl) 200 [⟨s, [], 0, 0⟩] [] 1 (by have := dom_len g hl; simp; omega) (start_dom hs) (by simp) List.Pairwise.nil
  unfold Gph.out
  rw [ho]; rfl
/-- Search's, Reachable's and Distance's answers: the path (the states), the cost, the error. -/
def sres (g : Gph) (s budget : Int) : List Int × Int × Int := if budget < 1 ∨ 1048576 < budget then ([], 0, 1) else match g.out g.goal budget.toNat s with
  | .notFound _ => ([], 0, 4)
  | .budget _ => ([], 0, 7)
  | .found x _ => (x.rp.reverse, x.cost, 0)
def rres (g : Gph) (s budget : Int) : List Int × Int := if budget < 1 ∨ 1048576 < budget then ([], 1) else match g.out (fun _ => false) budget.toNat s with
  | .notFound o => (o, 0)
  | .budget _ => ([], 7)
  | .found _ _ => ([], 0)
def dres (g : Gph) (s : Int) (key : ByteArray) (budget : Int) : Int × Int := if budget < 1 ∨ 1048576 < budget then (0, 1) else match g.out (fun t => g.key t == key) budget.toNat s with
  | .notFound _ => (0, 4)
  | .budget _ => (0, 7)
  | .found x _ => (x.cost, 0)

section
variable {g : Gph} {w : World} {A0 A1 A2 : Option Addr} {c0 c1 c2 : Nat}
abbrev agg3 (g : Gph) (A0 : Option Addr) (c0 : Nat) (A1 : Option Addr) (c1 : Nat) (A2 : Option Addr) (c2 : Nat) : Value := .agg #[.slice A0 g.E.length c0, .slice A1 g.K.length c1, .slice A2 g.Gs.length c2]
theorem prc (h : GAt g w A0 c0 A1 c1 A2 c2) (hl : g.large = false) : I.PrC g.prob (fun s => g.has s = true) (agg3 g A0 c0 A1 c1 A2 c2) w where
  key w' s hs hb := pkey_any (h.below hb) s (by
    have h1 := has_iff.1 (show g.has s = true from hs)
    simp only [Gph.large, Bool.or_eq_false_iff, decide_eq_false_iff_not] at hl
    have := hl.1.1.1.1
    omega)
  next w' s _ hb := pnext_any (h.below hb) hl s
  few s := Nat.le_trans (few8 g hl s) (by omega)
  oks s x _ hx := by
    obtain ⟨y, hy, rfl⟩ := List.mem_map.1 hx
    exact next_has hy
  mkey w' := by kernel_rfl
  mnext w' := by kernel_rfl
  nkey w' := by kernel_rfl
  nnext w' := by kernel_rfl
  mgoal w' := by kernel_rfl

set_option maxHeartbeats 1000000 in
theorem lsearch_any (h : GAt g w A0 c0 A1 c1 A2 c2) (hl : g.large = false) (s : Int) (hs : g.has s = true) (budget : Int) :
    Calls Try.prog 14 #[.agg #[.slice A0 g.E.length c0, .slice A1 g.K.length c1, .slice A2 g.Gs.length c2], .int .i64 s, .int .i64 budget] w fun e w' =>
      ∃ v : Value, e = .returned (.tuple #[v, .int .i64 (sres g s budget).2.1, .int .i64 (sres g s budget).2.2]) ∧ (Kd.int .i64).R 3 w' w.heap.size (fun _ => True) v (sres g s budget).1 ∧ Below w.heap.size w w' := by
  have HA := Lib.hid (show Below w.heap.size w (w.alloc (.cells #[.slice A0 g.E.length c0, .slice A1 g.K.length c1, .slice A2 g.Gs.length c2] 26)) from (Below.refl _ _).alloc (Nat.le_refl _) _)
  by_cases hb : budget < 1 ∨ 1048576 < budget
  · have HR : Hid (sres g s budget = ([], 0, 1)) := by show sres g s budget = _; unfold sres; rw [if_pos hb]
    clear h
    go_enter Try.func14, Try.ntmps14
    go_wp2_with (go_at_call 26; refine (I.fsearch_bad (.iface 62 .nilIface) _ _ budget _ hb).mono ?_; rintro e w' ⟨rfl, rfl⟩)
    go_ret3
    exact ⟨_, by rw [HR.out]; rfl, by rw [HR.out]; exact Kd.R_nil _ _ _ _ _, HA.out⟩
  · have HP := Lib.hid (prc (h.below HA.out) hl)
    have hrun := out_run g hl g.goal budget.toNat s hs
    have HC := Lib.hid (I.fsearch_any g.prob (fun s => g.has s = true) g.goal (agg3 g A0 c0 A1 c1 A2 c2) s budget.toNat _ HP.out (by omega) (by omega) hs (fun w' t _ hw => pgoal_any ((h.below HA.out).below hw) t) 200 _ hrun (fun x o e => by
      have := Sr.run_len g.prob g.goal budget.toNat 200 [⟨s, [], 0, 0⟩] [] 1 x o (by simp) (by simp) (by rw [hrun, e])
      omega))
    have eb : ((budget.toNat : Nat) : Int) = budget := by omega
    rw [eb] at HC
    clear h HP hrun eb
    have HRES : Hid (sres g s budget = match g.out g.goal budget.toNat s with | .notFound _ => ([], 0, 4) | .budget _ => ([], 0, 7) | .found x _ => (x.rp.reverse, x.cost, 0)) := by show sres g s budget = _; unfold sres; rw [if_neg hb]
    clear hb
    generalize g.out g.goal budget.toNat s = out at HC HRES
    cases out with
    | notFound o =>
      go_enter Try.func14, Try.ntmps14
      go_wp2_with (go_at_call 26; refine HC.out.mono ?_; rintro e w' ⟨hb, v, rfl, rfl⟩; have HB := Lib.hid hb; clear hb)
      go_ret3
      exact ⟨_, by rw [HRES.out]; rfl, by rw [HRES.out]; exact Kd.R_nil _ _ _ _ _, HA.out.trans (HB.out.mono HA.out.size)⟩
    | budget o =>
      go_enter Try.func14, Try.ntmps14
      go_wp2_with (go_at_call 26; refine HC.out.mono ?_; rintro e w' ⟨hb, v, rfl, rfl⟩; have HB := Lib.hid hb; clear hb)
      go_ret3
      exact ⟨_, by rw [HRES.out]; rfl, by rw [HRES.out]; exact Kd.R_nil _ _ _ _ _, HA.out.trans (HB.out.mono HA.out.size)⟩
    | found x o =>
      go_enter Try.func14, Try.ntmps14
      go_wp2_with (go_at_call 26; refine HC.out.mono ?_; rintro e w' ⟨hb, v, rfl, hv⟩; have HB := Lib.hid hb; have HV := Lib.hid hv; clear hb hv)
      go_ret3
      exact ⟨_, by rw [HRES.out]; rfl, by rw [HRES.out]; exact Kd.R_lower HV.out HA.out.size, HA.out.trans (HB.out.mono HA.out.size)⟩
theorem lsearch_is (h : GAt g w A0 c0 A1 c1 A2 c2) (hl : g.large = false) (s : Int) (hs : g.has s = true) (budget : Int) (l : List Int) (c e : Int) (hr : sres g s budget = (l, c, e)) :
    Calls Try.prog 14 #[.agg #[.slice A0 g.E.length c0, .slice A1 g.K.length c1, .slice A2 g.Gs.length c2], .int .i64 s, .int .i64 budget] w fun en w' =>
      ∃ v : Value, en = .returned (.tuple #[v, .int .i64 c, .int .i64 e]) ∧ (Kd.int .i64).R 3 w' w.heap.size (fun _ => True) v l ∧ Below w.heap.size w w' := by
  have := lsearch_any h hl s hs budget
  rw [hr] at this
  exact this

set_option maxHeartbeats 1000000 in
theorem lreach_is (h : GAt g w A0 c0 A1 c1 A2 c2) (hl : g.large = false) (s : Int) (hs : g.has s = true) (budget : Int) (l : List Int) (c : Int) (hr : rres g s budget = (l, c)) :
    Calls Try.prog 17 #[.agg #[.slice A0 g.E.length c0, .slice A1 g.K.length c1, .slice A2 g.Gs.length c2], .int .i64 s, .int .i64 budget] w fun en w' =>
      ∃ v : Value, en = .returned (.tuple #[v, .int .i64 c]) ∧ (Kd.int .i64).R 3 w' w.heap.size (fun _ => True) v l ∧ Below w.heap.size w w' := by
  have HA := Lib.hid (show Below w.heap.size w (w.alloc (.cells #[.slice A0 g.E.length c0, .slice A1 g.K.length c1, .slice A2 g.Gs.length c2] 26)) from (Below.refl _ _).alloc (Nat.le_refl _) _)
  by_cases hb : budget < 1 ∨ 1048576 < budget
  · unfold rres at hr
    rw [if_pos hb] at hr
    cases hr
    clear h
    go_enter Try.func17, Try.ntmps17
    go_wp2_with (go_at_call 30; refine (I.reach_bad _ _ budget _ hb).mono ?_; rintro e w' ⟨rfl, rfl⟩)
    go_ret2
    exact ⟨_, rfl, Kd.R_nil _ _ _ _ _, HA.out⟩
  · have HP := Lib.hid (prc (h.below HA.out) hl)
    have hrun := out_run g hl (fun _ => false) budget.toNat s hs
    have HC := Lib.hid (I.reach_any g.prob (fun s => g.has s = true) (agg3 g A0 c0 A1 c1 A2 c2) s budget.toNat _ HP.out (by omega) (by omega) hs 200 _ hrun)
    have eb : ((budget.toNat : Nat) : Int) = budget := by omega
    rw [eb] at HC
    clear h HP hrun eb
    unfold rres at hr
    rw [if_neg hb] at hr
    clear hb
    generalize g.out (fun _ => false) budget.toNat s = out at HC hr
    cases out with
    | notFound o =>
      cases hr
      go_enter Try.func17, Try.ntmps17
      go_wp2_with (go_at_call 30; refine HC.out.mono ?_; rintro e w' ⟨hb, v, rfl, hv⟩; have HB := Lib.hid hb; have HV := Lib.hid hv; clear hb hv)
      go_ret2
      exact ⟨_, rfl, Kd.R_lower (Kd.R_of_own (enc := Value.int .i64) HV.out (fun _ _ => trivial)) HA.out.size, HA.out.trans (HB.out.mono HA.out.size)⟩
    | budget o =>
      cases hr
      go_enter Try.func17, Try.ntmps17
      go_wp2_with (go_at_call 30; refine HC.out.mono ?_; rintro e w' ⟨hb, v, rfl, rfl⟩; have HB := Lib.hid hb; clear hb)
      go_ret2
      exact ⟨_, rfl, Kd.R_nil _ _ _ _ _, HA.out.trans (HB.out.mono HA.out.size)⟩
    | found x o =>
      have h9 : False := by
        obtain ⟨_, _, _, hR, _⟩ := HC.out []
        obtain ⟨_, _, hh⟩ := hR
        exact hh
      exact h9.elim

set_option maxHeartbeats 1000000 in
theorem ldist_is (h : GAt g w A0 c0 A1 c1 A2 c2) (hl : g.large = false) (s : Int) (hs : g.has s = true) (key : ByteArray) (budget : Int) (d c : Int) (hr : dres g s key budget = (d, c)) :
    Calls Try.prog 18 #[.agg #[.slice A0 g.E.length c0, .slice A1 g.K.length c1, .slice A2 g.Gs.length c2], .int .i64 s, .string key, .int .i64 budget] w fun en w' =>
      en = .returned (.tuple #[.int .i64 d, .int .i64 c]) ∧ Below w.heap.size w w' := by
  have HA := Lib.hid (show Below w.heap.size w (w.alloc (.cells #[.slice A0 g.E.length c0, .slice A1 g.K.length c1, .slice A2 g.Gs.length c2] 26)) from (Below.refl _ _).alloc (Nat.le_refl _) _)
  by_cases hb : budget < 1 ∨ 1048576 < budget
  · unfold dres at hr
    rw [if_pos hb] at hr
    cases hr
    clear h
    go_enter Try.func18, Try.ntmps18
    go_wp2_with (go_at_call 31; refine (I.dist_bad _ _ key budget _ hb).mono ?_; rintro e w' ⟨rfl, hb2⟩; have HB := Lib.hid hb2; clear hb2)
    go_ret2
    exact ⟨rfl, HA.out.trans (HB.out.mono HA.out.size)⟩
  · have HP := Lib.hid (prc (h.below HA.out) hl)
    have hrun := out_run g hl (fun t => g.key t == key) budget.toNat s hs
    have HC := Lib.hid (I.dist_any g.prob (fun s => g.has s = true) (agg3 g A0 c0 A1 c1 A2 c2) s key budget.toNat _ HP.out (by omega) (by omega) hs 200 _ hrun)
    have eb : ((budget.toNat : Nat) : Int) = budget := by omega
    rw [eb] at HC
    clear h HP hrun eb
    unfold dres at hr
    rw [if_neg hb] at hr
    clear hb
    generalize g.out (fun t => g.key t == key) budget.toNat s = out at HC hr
    cases out with
    | notFound o =>
      cases hr
      go_enter Try.func18, Try.ntmps18
      go_wp2_with (go_at_call 31; refine HC.out.mono ?_; rintro e w' ⟨hb, rfl⟩; have HB := Lib.hid hb; clear hb)
      go_ret2
      exact ⟨rfl, HA.out.trans (HB.out.mono HA.out.size)⟩
    | budget o =>
      cases hr
      go_enter Try.func18, Try.ntmps18
      go_wp2_with (go_at_call 31; refine HC.out.mono ?_; rintro e w' ⟨hb, rfl⟩; have HB := Lib.hid hb; clear hb)
      go_ret2
      exact ⟨rfl, HA.out.trans (HB.out.mono HA.out.size)⟩
    | found x o =>
      cases hr
      go_enter Try.func18, Try.ntmps18
      go_wp2_with (go_at_call 31; refine HC.out.mono ?_; rintro e w' ⟨hb, rfl⟩; have HB := Lib.hid hb; clear hb)
      go_ret2
      exact ⟨rfl, HA.out.trans (HB.out.mono HA.out.size)⟩
theorem same_any {a b : List Int} {B0 B1 : Option Addr} {d0 d1 : Nat} (ha : (Kd.int .i64).C w B0 a.length a) (la : a.length ≤ d0) (hb : (Kd.int .i64).C w B1 b.length b) (lb : b.length ≤ d1) (hlen : a.length < 1000000000) (r : Bool) (hr : decide (a = b) = r) :
    Calls Try.prog 16 #[.slice B0 a.length d0, .slice B1 b.length d1] w fun e w' => e = .returned (.bool r) ∧ Drawn0 w w' := by
  obtain ⟨k, hk⟩ := same_f a b hlen
  rw [hr] at hk
  exact pentaglotlaw40_same.calls k B0 d0 a B1 d1 b r w ha la hb lb hk
end
end Go.Proofs.Ytipdejalohmkpaa.Gr
