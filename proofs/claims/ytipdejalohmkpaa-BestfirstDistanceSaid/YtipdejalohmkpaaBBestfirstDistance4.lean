/- Part 4 of the proof of BestfirstDistance: Lf, Aw, Rd, La, Rs. -/
import Derived.Test.YtipdejalohmkpaaBBestfirstDistance3
import Derived.Test.YtipdejalohmkpaaBBestfirstDistance1
import Derived.KernelRfl
import Derived.Test.YtipdejalohmkpaaWMore
import Derived.ChangeArms
import Derived.DataReads
import Derived.ChangeSame
import Derived.Deep.Strs
import Derived.ProofKit
import Derived.SizedLaws
import Derived.Lib.SmallJoins
import Derived.Deep.QuietTactic
import Derived.BigQuiet
import Derived.Deep.LoopGhost
/- The law's own callers of the search over a graph. -/
namespace Go.Proofs.Ytipdejalohmkpaa.Gr
open Go.RowKit Go.Proofs.YtipdejalohmkpaaW.PrintWords Go.Proofs.YtipdejalohmkpaaW.PrintLast Go.Proofs.YtipdejalohmkpaaW.PrintMore PBestfirstDistances

def Gph.prob (g : Gph) : Sr.Prob Int := ⟨g.key, fun s => steps (g.next s)⟩
def Gph.dom (g : Gph) : List Int := (List.range g.E.length).map Int.ofNat
theorem mem_dom {g : Gph} {s : Int} : s ∈ g.dom ↔ g.has s = true := by
  unfold Gph.dom Gph.has
  simp only [List.mem_map, List.mem_range, Bool.and_eq_true, decide_eq_true_eq]
  constructor
  · rintro ⟨n, hn, rfl⟩
    simp only [Int.ofNat_eq_natCast]
    omega
  · intro h; exact ⟨s.toNat, by omega, by simp only [Int.ofNat_eq_natCast]; omega⟩
theorem has_iff {g : Gph} {s : Int} : g.has s = true ↔ 0 ≤ s ∧ s < (g.E.length : Int) := by simp [Gph.has]
theorem start_dom {g : Gph} {s : Int} (hs : g.has s = true) : ∀ e ∈ [(⟨s, [], 0, 0⟩ : Sr.Ent Int)], e.st ∈ g.dom := by
  intro e he
  obtain rfl : e = ⟨s, [], 0, 0⟩ := by simpa using he
  exact mem_dom.2 hs
theorem next_has {g : Gph} {s : Int} {x : S51} (h : x ∈ g.next s) : g.has x.f0 = true := by
  unfold Gph.next at h
  split at h
  · exact (List.mem_filter.1 h).2
  · simp at h
theorem dom_closed (g : Gph) : ∀ s ∈ g.dom, ∀ y ∈ g.prob.next s, y.1 ∈ g.dom := by
  intro s _ y hy
  obtain ⟨x, hx, rfl⟩ := List.mem_map.1 hy
  exact mem_dom.2 (next_has hx)
theorem few8 (g : Gph) (hl : g.large = false) (s : Int) : (g.prob.next s).length ≤ 8 := by
  have := next_len g hl s
  simpa [Gph.prob, steps] using this
theorem dom_len (g : Gph) (hl : g.large = false) : g.dom.length ≤ 12 := by
  simp only [Gph.large, Bool.or_eq_false_iff, decide_eq_false_iff_not] at hl
  have := hl.1.1.1.1
  simp [Gph.dom]; omega
def Gph.out (g : Gph) (goal : Int → Bool) (budget : Nat) (s : Int) : Sr.Out Int := (Sr.run g.prob goal budget 200 [⟨s, [], 0, 0⟩] [] 1).getD (.notFound [])
theorem out_run (g : Gph) (hl : g.large = false) (goal : Int → Bool) (budget : Nat) (s : Int) (hs : g.has s = true) : Sr.run g.prob goal budget 200 [⟨s, [], 0, 0⟩] [] 1 = some (g.out goal budget s) := by
  obtain ⟨o, ho⟩ := Sr.run_ends g.prob goal budget g.dom (dom_closed g) (few8 g hl) 200 [⟨s, [], 0, 0⟩] [] 1 (by have := dom_len g hl; simp; omega) (start_dom hs) (by simp) List.Pairwise.nil
  unfold Gph.out
  rw [ho]; rfl
/-- Search's, Reachable's and Distance's answers: the path (the states), the cost, the error. -/
def sres (g : Gph) (s budget : Int) : List Int × Int × Int := if budget < 1 ∨ 1048576 < budget then ([], 0, 1) else match g.out g.goal budget.toNat s with
  | .notFound _ => ([], 0, 4)
  | .budget _ => ([], 0, 7)
  | .found x _ => (x.rp.reverse, x.cost, 0)
def rres (g : Gph) (s budget : Int) : List Int × Int := if budget < 1 ∨ 1048576 < budget then ([], 1) else match g.out (fun _ => false) budget.toNat s with
  | .notFound o => (o, 0)
  | .budget _ => ([], 7)
  | .found _ _ => ([], 0)
def dres (g : Gph) (s : Int) (key : ByteArray) (budget : Int) : Int × Int := if budget < 1 ∨ 1048576 < budget then (0, 1) else match g.out (fun t => g.key t == key) budget.toNat s with
  | .notFound _ => (0, 4)
  | .budget _ => (0, 7)
  | .found x _ => (x.cost, 0)

section
variable {g : Gph} {w : World} {A0 A1 A2 : Option Addr} {c0 c1 c2 : Nat}
abbrev agg3 (g : Gph) (A0 : Option Addr) (c0 : Nat) (A1 : Option Addr) (c1 : Nat) (A2 : Option Addr) (c2 : Nat) : Value := .agg #[.slice A0 g.E.length c0, .slice A1 g.K.length c1, .slice A2 g.Gs.length c2]
theorem prc (h : GAt g w A0 c0 A1 c1 A2 c2) (hl : g.large = false) : I.PrC g.prob (fun s => g.has s = true) (agg3 g A0 c0 A1 c1 A2 c2) w where
  key w' s hs hb := pkey_any (h.below hb) s (by
    have h1 := has_iff.1 (show g.has s = true from hs)
    simp only [Gph.large, Bool.or_eq_false_iff, decide_eq_false_iff_not] at hl
    have := hl.1.1.1.1
    omega)
  next w' s _ hb := pnext_any (h.below hb) hl s
  few s := Nat.le_trans (few8 g hl s) (by omega)
  oks s x _ hx := by
    obtain ⟨y, hy, rfl⟩ := List.mem_map.1 hx
    exact next_has hy
  mkey w' := by kernel_rfl
  mnext w' := by kernel_rfl
  nkey w' := by kernel_rfl
  nnext w' := by kernel_rfl
  mgoal w' := by kernel_rfl

set_option maxHeartbeats 1000000 in
theorem lsearch_any (h : GAt g w A0 c0 A1 c1 A2 c2) (hl : g.large = false) (s : Int) (hs : g.has s = true) (budget : Int) :
    Calls Try.prog 14 #[.agg #[.slice A0 g.E.length c0, .slice A1 g.K.length c1, .slice A2 g.Gs.length c2], .int .i64 s, .int .i64 budget] w fun e w' =>
      ∃ v : Value, e = .returned (.tuple #[v, .int .i64 (sres g s budget).2.1, .int .i64 (sres g s budget).2.2]) ∧ (Kd.int .i64).R 3 w' w.heap.size (fun _ => True) v (sres g s budget).1 ∧ Below w.heap.size w w' := by
  have HA := Lib.hid (show Below w.heap.size w (w.alloc (.cells #[.slice A0 g.E.length c0, .slice A1 g.K.length c1, .slice A2 g.Gs.length c2] 26)) from (Below.refl _ _).alloc (Nat.le_refl _) _)
  by_cases hb : budget < 1 ∨ 1048576 < budget
  · have HR : Hid (sres g s budget = ([], 0, 1)) := by show sres g s budget = _; unfold sres; rw [if_pos hb]
    clear h
    go_enter Try.func14, Try.ntmps14
    go_wp2_with (go_at_call 26; refine (I.fsearch_bad (.iface 62 .nilIface) _ _ budget _ hb).mono ?_; rintro e w' ⟨rfl, rfl⟩)
    go_ret3
    exact ⟨_, by rw [HR.out]; rfl, by rw [HR.out]; exact Kd.R_nil _ _ _ _ _, HA.out⟩
  · have HP := Lib.hid (prc (h.below HA.out) hl)
    have hrun := out_run g hl g.goal budget.toNat s hs
    have HC := Lib.hid (I.fsearch_any g.prob (fun s => g.has s = true) g.goal (agg3 g A0 c0 A1 c1 A2 c2) s budget.toNat _ HP.out (by omega) (by omega) hs (fun w' t _ hw => pgoal_any ((h.below HA.out).below hw) t) 200 _ hrun (fun x o e => by
      have := Sr.run_len g.prob g.goal budget.toNat 200 [⟨s, [], 0, 0⟩] [] 1 x o (by simp) (by simp) (by rw [hrun, e])
      omega))
    have eb : ((budget.toNat : Nat) : Int) = budget := by omega
    rw [eb] at HC
    clear h HP hrun eb
    have HRES : Hid (sres g s budget = match g.out g.goal budget.toNat s with | .notFound _ => ([], 0, 4) | .budget _ => ([], 0, 7) | .found x _ => (x.rp.reverse, x.cost, 0)) := by show sres g s budget = _; unfold sres; rw [if_neg hb]
    clear hb
    generalize g.out g.goal budget.toNat s = out at HC HRES
    cases out with
    | notFound o =>
      go_enter Try.func14, Try.ntmps14
      go_wp2_with (go_at_call 26; refine HC.out.mono ?_; rintro e w' ⟨hb, v, rfl, rfl⟩; have HB := Lib.hid hb; clear hb)
      go_ret3
      exact ⟨_, by rw [HRES.out]; rfl, by rw [HRES.out]; exact Kd.R_nil _ _ _ _ _, HA.out.trans (HB.out.mono HA.out.size)⟩
    | budget o =>
      go_enter Try.func14, Try.ntmps14
      go_wp2_with (go_at_call 26; refine HC.out.mono ?_; rintro e w' ⟨hb, v, rfl, rfl⟩; have HB := Lib.hid hb; clear hb)
      go_ret3
      exact ⟨_, by rw [HRES.out]; rfl, by rw [HRES.out]; exact Kd.R_nil _ _ _ _ _, HA.out.trans (HB.out.mono HA.out.size)⟩
    | found x o =>
      go_enter Try.func14, Try.ntmps14
      go_wp2_with (go_at_call 26; refine HC.out.mono ?_; rintro e w' ⟨hb, v, rfl, hv⟩; have HB := Lib.hid hb; have HV := Lib.hid hv; clear hb hv)
      go_ret3
      exact ⟨_, by rw [HRES.out]; rfl, by rw [HRES.out]; exact Kd.R_lower HV.out HA.out.size, HA.out.trans (HB.out.mono HA.out.size)⟩
theorem lsearch_is (h : GAt g w A0 c0 A1 c1 A2 c2) (hl : g.large = false) (s : Int) (hs : g.has s = true) (budget : Int) (l : List Int) (c e : Int) (hr : sres g s budget = (l, c, e)) :
    Calls Try.prog 14 #[.agg #[.slice A0 g.E.length c0, .slice A1 g.K.length c1, .slice A2 g.Gs.length c2], .int .i64 s, .int .i64 budget] w fun en w' =>
      ∃ v : Value, en = .returned (.tuple #[v, .int .i64 c, .int .i64 e]) ∧ (Kd.int .i64).R 3 w' w.heap.size (fun _ => True) v l ∧ Below w.heap.size w w' := by
  have := lsearch_any h hl s hs budget
  rw [hr] at this
  exact this

set_option maxHeartbeats 1000000 in
theorem lreach_is (h : GAt g w A0 c0 A1 c1 A2 c2) (hl : g.large = false) (s : Int) (hs : g.has s = true) (budget : Int) (l : List Int) (c : Int) (hr : rres g s budget = (l, c)) :
    Calls Try.prog 17 #[.agg #[.slice A0 g.E.length c0, .slice A1 g.K.length c1, .slice A2 g.Gs.length c2], .int .i64 s, .int .i64 budget] w fun en w' =>
      ∃ v : Value, en = .returned (.tuple #[v, .int .i64 c]) ∧ (Kd.int .i64).R 3 w' w.heap.size (fun _ => True) v l ∧ Below w.heap.size w w' := by
  have HA := Lib.hid (show Below w.heap.size w (w.alloc (.cells #[.slice A0 g.E.length c0, .slice A1 g.K.length c1, .slice A2 g.Gs.length c2] 26)) from (Below.refl _ _).alloc (Nat.le_refl _) _)
  by_cases hb : budget < 1 ∨ 1048576 < budget
  · unfold rres at hr
    rw [if_pos hb] at hr
    cases hr
    clear h
    go_enter Try.func17, Try.ntmps17
    go_wp2_with (go_at_call 30; refine (I.reach_bad _ _ budget _ hb).mono ?_; rintro e w' ⟨rfl, rfl⟩)
    go_ret2
    exact ⟨_, rfl, Kd.R_nil _ _ _ _ _, HA.out⟩
  · have HP := Lib.hid (prc (h.below HA.out) hl)
    have hrun := out_run g hl (fun _ => false) budget.toNat s hs
    have HC := Lib.hid (I.reach_any g.prob (fun s => g.has s = true) (agg3 g A0 c0 A1 c1 A2 c2) s budget.toNat _ HP.out (by omega) (by omega) hs 200 _ hrun)
    have eb : ((budget.toNat : Nat) : Int) = budget := by omega
    rw [eb] at HC
    clear h HP hrun eb
    unfold rres at hr
    rw [if_neg hb] at hr
    clear hb
    generalize g.out (fun _ => false) budget.toNat s = out at HC hr
    cases out with
    | notFound o =>
      cases hr
      go_enter Try.func17, Try.ntmps17
      go_wp2_with (go_at_call 30; refine HC.out.mono ?_; rintro e w' ⟨hb, v, rfl, hv⟩; have HB := Lib.hid hb; have HV := Lib.hid hv; clear hb hv)
      go_ret2
      exact ⟨_, rfl, Kd.R_lower (Kd.R_of_own (enc := Value.int .i64) HV.out (fun _ _ => trivial)) HA.out.size, HA.out.trans (HB.out.mono HA.out.size)⟩
    | budget o =>
      cases hr
      go_enter Try.func17, Try.ntmps17
      go_wp2_with (go_at_call 30; refine HC.out.mono ?_; rintro e w' ⟨hb, v, rfl, rfl⟩; have HB := Lib.hid hb; clear hb)
      go_ret2
      exact ⟨_, rfl, Kd.R_nil _ _ _ _ _, HA.out.trans (HB.out.mono HA.out.size)⟩
    | found x o =>
      have h9 : False := by
        obtain ⟨_, _, _, hR, _⟩ := HC.out []
        obtain ⟨_, _, hh⟩ := hR
        exact hh
      exact h9.elim

set_option maxHeartbeats 1000000 in
theorem ldist_is (h : GAt g w A0 c0 A1 c1 A2 c2) (hl : g.large = false) (s : Int) (hs : g.has s = true) (key : ByteArray) (budget : Int) (d c : Int) (hr : dres g s key budget = (d, c)) :
    Calls Try.prog 18 #[.agg #[.slice A0 g.E.length c0, .slice A1 g.K.length c1, .slice A2 g.Gs.length c2], .int .i64 s, .string key, .int .i64 budget] w fun en w' =>
      en = .returned (.tuple #[.int .i64 d, .int .i64 c]) ∧ Below w.heap.size w w' := by
  have HA := Lib.hid (show Below w.heap.size w (w.alloc (.cells #[.slice A0 g.E.length c0, .slice A1 g.K.length c1, .slice A2 g.Gs.length c2] 26)) from (Below.refl _ _).alloc (Nat.le_refl _) _)
  by_cases hb : budget < 1 ∨ 1048576 < budget
  · unfold dres at hr
    rw [if_pos hb] at hr
    cases hr
    clear h
    go_enter Try.func18, Try.ntmps18
    go_wp2_with (go_at_call 31; refine (I.dist_bad _ _ key budget _ hb).mono ?_; rintro e w' ⟨rfl, hb2⟩; have HB := Lib.hid hb2; clear hb2)
    go_ret2
    exact ⟨rfl, HA.out.trans (HB.out.mono HA.out.size)⟩
  · have HP := Lib.hid (prc (h.below HA.out) hl)
    have hrun := out_run g hl (fun t => g.key t == key) budget.toNat s hs
    have HC := Lib.hid (I.dist_any g.prob (fun s => g.has s = true) (agg3 g A0 c0 A1 c1 A2 c2) s key budget.toNat _ HP.out (by omega) (by omega) hs 200 _ hrun)
    have eb : ((budget.toNat : Nat) : Int) = budget := by omega
    rw [eb] at HC
    clear h HP hrun eb
    unfold dres at hr
    rw [if_neg hb] at hr
    clear hb
    generalize g.out (fun t => g.key t == key) budget.toNat s = out at HC hr
    cases out with
    | notFound o =>
      cases hr
      go_enter Try.func18, Try.ntmps18
      go_wp2_with (go_at_call 31; refine HC.out.mono ?_; rintro e w' ⟨hb, rfl⟩; have HB := Lib.hid hb; clear hb)
      go_ret2
      exact ⟨rfl, HA.out.trans (HB.out.mono HA.out.size)⟩
    | budget o =>
      cases hr
      go_enter Try.func18, Try.ntmps18
      go_wp2_with (go_at_call 31; refine HC.out.mono ?_; rintro e w' ⟨hb, rfl⟩; have HB := Lib.hid hb; clear hb)
      go_ret2
      exact ⟨rfl, HA.out.trans (HB.out.mono HA.out.size)⟩
    | found x o =>
      cases hr
      go_enter Try.func18, Try.ntmps18
      go_wp2_with (go_at_call 31; refine HC.out.mono ?_; rintro e w' ⟨hb, rfl⟩; have HB := Lib.hid hb; clear hb)
      go_ret2
      exact ⟨rfl, HA.out.trans (HB.out.mono HA.out.size)⟩
theorem same_any {a b : List Int} {B0 B1 : Option Addr} {d0 d1 : Nat} (ha : (Kd.int .i64).C w B0 a.length a) (la : a.length ≤ d0) (hb : (Kd.int .i64).C w B1 b.length b) (lb : b.length ≤ d1) (hlen : a.length < 1000000000) (r : Bool) (hr : decide (a = b) = r) :
    Calls Try.prog 16 #[.slice B0 a.length d0, .slice B1 b.length d1] w fun e w' => e = .returned (.bool r) ∧ Drawn0 w w' := by
  obtain ⟨k, hk⟩ := same_f a b hlen
  rw [hr] at hk
  exact pentaglotlaw40_same.calls k B0 d0 a B1 d1 b r w ha la hb lb hk
end
end Go.Proofs.Ytipdejalohmkpaa.Gr

/- The document's example is found. -/
namespace Go.Proofs.Ytipdejalohmkpaa.Gr
open Go.RowKit Go.Proofs.YtipdejalohmkpaaW.PrintWords Go.Proofs.YtipdejalohmkpaaW.PrintLast Go.Proofs.YtipdejalohmkpaaW.PrintMore PBestfirstDistances

def ex : Gph := ⟨[[⟨1, 4⟩, ⟨2, 1⟩], [⟨3, 1⟩], [⟨1, 2⟩, ⟨3, 9⟩], []], [], [3]⟩
theorem ex_small : ex.large = false := by kernel_rfl
theorem ex1 : sres ex 0 3 = ([0, 2, 1, 3], 4, 0) := by kernel_rfl
theorem ex2 : sres ex 0 2 = ([], 0, 7) := by kernel_rfl
theorem ex3 : rres ex 0 10 = ([0, 2, 1, 3], 0) := by kernel_rfl
theorem ex4 : dres ex 0 ⟨#[49]⟩ 10 = (3, 0) := by kernel_rfl
theorem ex5 : dres ex 1 ⟨#[48]⟩ 10 = (0, 4) := by kernel_rfl
theorem ex6 : sres ex 0 0 = ([], 0, 1) := by kernel_rfl
theorem ex_has0 : ex.has 0 = true := by kernel_rfl
theorem ex_has1 : ex.has 1 = true := by kernel_rfl

/-- The example's graph lies in block gb of w. -/
def ExAt (gb : Nat) (w : World) (A0 : Option Addr) (c0 : Nat) (A1 : Option Addr) (c1 : Nat) (A2 : Option Addr) (c2 : Nat) : Prop :=
  w.heap[gb]? = some (.cells #[.slice A0 ex.E.length c0, .slice A1 ex.K.length c1, .slice A2 ex.Gs.length c2] 26 (0, 0)) ∧ GAt ex w A0 c0 A1 c1 A2 c2
theorem ExAt.below {gb : Nat} {w w' : World} {A0 A1 A2 : Option Addr} {c0 c1 c2 : Nat} (h : ExAt gb w A0 c0 A1 c1 A2 c2) (hb : Below w.heap.size w w') : ExAt gb w' A0 c0 A1 c1 A2 c2 :=
  ⟨(hb.block gb (Array.getElem?_eq_some_iff.1 h.1).1).trans h.1, h.2.below hb⟩
theorem ExAt.cells {gb : Nat} {w : World} {A0 A1 A2 : Option Addr} {c0 c1 c2 : Nat} (h : ExAt gb w A0 c0 A1 c1 A2 c2) : w.cell? ⟨gb, 0, none⟩ = some (.slice A0 ex.E.length c0) ∧ w.cell? ⟨gb, 1, none⟩ = some (.slice A1 ex.K.length c1) ∧ w.cell? ⟨gb, 2, none⟩ = some (.slice A2 ex.Gs.length c2) := by
  have h1 := h.1
  refine ⟨?_, ?_, ?_⟩ <;> (unfold World.cell?; rw [h1]; rfl)

theorem lit4 (w : World) (a b c d : Int) : (Kd.int .i64).C (w.alloc (.cells #[.int .i64 a, .int .i64 b, .int .i64 c, .int .i64 d] 3)) (some ⟨w.heap.size, 0, none⟩) 4 [a, b, c, d] := by
  have ho : (w.alloc (.cells #[.int .i64 a, .int .i64 b, .int .i64 c, .int .i64 d] 3)).ownsRow 0 3 1 (.slice (some ⟨w.heap.size, 0, none⟩) 4 4) [a, b, c, d].length (encs (Value.int .i64) [a, b, c, d]) :=
    ⟨rfl, .inr ⟨w.heap.size, 4, #[.int .i64 a, .int .i64 b, .int .i64 c, .int .i64 d], rfl, Nat.zero_le _, by show (w.heap.push _)[w.heap.size]? = _; simp, by simp, by simp [maxLen], rfl, rfl⟩⟩
  exact (Kd.R_reads' (Kd.R_of_own (h1 := fun _ => rfl) ho (ok := fun _ => True) (fun _ _ => trivial))).2.2

set_option maxRecDepth 1000000 in
set_option maxHeartbeats 4000000 in
theorem awake_any (w : World) : Calls Try.prog 11 #[] w fun e w' => e = .returned (.bool true) ∧ Below w.heap.size w w' := by
  go_enter Try.func11, Try.ntmps11
  go_wp2_with fail
  refine (pentaglotlaw40_example.calls ex.E ex.K ex.Gs w rfl).mono ?_
  rintro e w1 ⟨v0, v1, v2, rfl, hv0, hv1, hv2, hb⟩
  obtain ⟨A0, c0, rfl, l0, h0⟩ := Kd.N_reads hv0
  obtain ⟨A1, c1, rfl, l1, h1⟩ := Kd.R_reads hv1
  obtain ⟨A2, c2, rfl, l2, h2⟩ := Kd.R_reads hv2
  have HB := Lib.hid hb
  have EX0 : Hid (ExAt w1.heap.size (w1.alloc (.cells #[.slice A0 ex.E.length c0, .slice A1 ex.K.length c1, .slice A2 ex.Gs.length c2] 26)) A0 c0 A1 c1 A2 c2) :=
    ⟨by show (w1.heap.push _)[w1.heap.size]? = _; simp, GAt.alloc ⟨h0, l0, h1, l1, h2, l2⟩ _⟩
  clear hv0 hv1 hv2 h0 h1 h2 hb
  go_wp2_with fail
  have HBB := Lib.hid (HB.out.alloc HB.out.size (.cells #[.slice A0 ex.E.length c0, .slice A1 ex.K.length c1, .slice A2 ex.Gs.length c2] 26))
  refine (lsearch_is EX0.out.2 ex_small 0 ex_has0 3 _ _ _ ex1).mono ?_
  rintro e y0 ⟨v0, rfl, hv0, hb0⟩
  obtain ⟨B0, d0, rfl, m0, g0⟩ := Kd.R_reads hv0
  clear hv0
  have EX1 := Lib.hid (EX0.out.below hb0)
  have HB0 := Lib.hid (below_then HBB.out HBB.out.size hb0)
  have V2_0 := Lib.hid g0
  clear g0
  clear hb0
  obtain ⟨q0a, q0b, q0c⟩ := EX1.out.cells
  go_wp2_with fail
  refine (lsearch_is EX1.out.2 ex_small 0 ex_has0 2 _ _ _ ex2).mono ?_
  rintro e y1 ⟨v1, rfl, hv1, hb1⟩
  obtain ⟨B1, d1, rfl, m1, g1⟩ := Kd.R_reads hv1
  clear hv1
  have EX2 := Lib.hid (EX1.out.below hb1)
  have HB1 := Lib.hid (below_then HB0.out HB0.out.size hb1)
  have V2_1 := Lib.hid (Kd.C_below V2_0.out hb1)
  clear g1
  clear hb1
  clear q0a q0b q0c
  obtain ⟨q1a, q1b, q1c⟩ := EX2.out.cells
  go_wp2_with fail
  refine (lreach_is EX2.out.2 ex_small 0 ex_has0 10 _ _ ex3).mono ?_
  rintro e y2 ⟨v2, rfl, hv2, hb2⟩
  obtain ⟨B2, d2, rfl, m2, g2⟩ := Kd.R_reads hv2
  clear hv2
  have EX3 := Lib.hid (EX2.out.below hb2)
  have HB2 := Lib.hid (below_then HB1.out HB1.out.size hb2)
  have V2_2 := Lib.hid (Kd.C_below V2_1.out hb2)
  have V8_2 := Lib.hid g2
  clear g2
  clear hb2
  clear q1a q1b q1c
  obtain ⟨q2a, q2b, q2c⟩ := EX3.out.cells
  go_wp2_with fail
  refine (ldist_is EX3.out.2 ex_small 0 ex_has0 ⟨#[49]⟩ 10 _ _ ex4).mono ?_
  rintro e y3 ⟨rfl, hb3⟩
  have EX4 := Lib.hid (EX3.out.below hb3)
  have HB3 := Lib.hid (below_then HB2.out HB2.out.size hb3)
  have V2_3 := Lib.hid (Kd.C_below V2_2.out hb3)
  have V8_3 := Lib.hid (Kd.C_below V8_2.out hb3)
  clear hb3
  clear q2a q2b q2c
  obtain ⟨q3a, q3b, q3c⟩ := EX4.out.cells
  go_wp2_with fail
  refine (ldist_is EX4.out.2 ex_small 1 ex_has1 ⟨#[48]⟩ 10 _ _ ex5).mono ?_
  rintro e y4 ⟨rfl, hb4⟩
  have EX5 := Lib.hid (EX4.out.below hb4)
  have HB4 := Lib.hid (below_then HB3.out HB3.out.size hb4)
  have V2_4 := Lib.hid (Kd.C_below V2_3.out hb4)
  have V8_4 := Lib.hid (Kd.C_below V8_3.out hb4)
  clear hb4
  clear q3a q3b q3c
  obtain ⟨q4a, q4b, q4c⟩ := EX5.out.cells
  go_wp2_with fail
  refine (lsearch_is EX5.out.2 ex_small 0 ex_has0 0 _ _ _ ex6).mono ?_
  rintro e y5 ⟨v5, rfl, hv5, hb5⟩
  obtain ⟨B5, d5, rfl, m5, g5⟩ := Kd.R_reads hv5
  clear hv5
  have EX6 := Lib.hid (EX5.out.below hb5)
  have HB5 := Lib.hid (below_then HB4.out HB4.out.size hb5)
  have V2_5 := Lib.hid (Kd.C_below V2_4.out hb5)
  have V8_5 := Lib.hid (Kd.C_below V8_4.out hb5)
  clear g5
  clear hb5
  clear q4a q4b q4c
  obtain ⟨q5a, q5b, q5c⟩ := EX6.out.cells
  go_wp2_with fail
  refine (same_any (a := [0, 2, 1, 3]) (b := [0, 2, 1, 3]) (Kd.C_below V2_5.out (below_alloc (Below.refl _ _) _)) m0 (lit4 y5 0 2 1 3) (Nat.le_refl 4) (by decide) true rfl).mono ?_
  rintro e z1 ⟨rfl, hd1⟩
  have HZ := Lib.hid ((HB5.out.alloc HB5.out.size _).trans (hd1.below.mono (Nat.le_trans HB5.out.size (by simp))))
  have HV := Lib.hid (Kd.C_below (Kd.C_below V8_5.out (below_alloc (Below.refl _ _) _)) hd1.below)
  clear hd1 q5a q5b q5c
  go_wp2_with fail
  refine (same_any (a := [0, 2, 1, 3]) (b := [0, 2, 1, 3]) (Kd.C_below HV.out (below_alloc (Below.refl _ _) _)) m2 (lit4 z1 0 2 1 3) (Nat.le_refl 4) (by decide) true rfl).mono ?_
  rintro e z2 ⟨rfl, hd2⟩
  have HZ2 := Lib.hid ((HZ.out.alloc HZ.out.size _).trans (hd2.below.mono (Nat.le_trans HZ.out.size (by simp))))
  clear hd2
  go_wp2
  go_ret
  exact ⟨rfl, HZ2.out⟩
end Go.Proofs.Ytipdejalohmkpaa.Gr

/- Reading an argument's data as lists and numbers, kind by kind. -/
namespace Go.Proofs.Ytipdejalohmkpaa.Rd
open Go.RowKit Go.ChangeShapes Go.Deep Go.Proofs.YtipdejalohmkpaaW.PrintWords

variable {P : Program}
/-- Whatever reads as a datum of type t is of the kind d. -/
def Opens {α : Type} (P : Program) (t : TypeId) (d : Kd α) : Prop :=
  ∀ (H : Type) (enc : TypeId × Value → H) (w : World) (fuel : Nat) (cs : List Value) (x : DataW H × List MemPlace), DataW.trod enc P w 0 (fun _ => true) true fuel t cs = some x → ∃ y : α, d.K w y cs

theorem op_int {t : TypeId} {k : IntKind} (ht : P.underlying t = some (.int k)) : Opens P t (Kd.int k) := by
  intro H enc w fuel cs x h
  cases fuel with
  | zero => simp [DataW.trod] at h
  | succ n =>
    unfold DataW.trod at h
    rw [ht] at h
    split at h <;> simp_all
    exact ⟨_, rfl⟩
theorem op_string {t : TypeId} (ht : P.underlying t = some .string) : Opens P t Kd.string := by
  intro H enc w fuel cs x h
  cases fuel with
  | zero => simp [DataW.trod] at h
  | succ n =>
    unfold DataW.trod at h
    rw [ht] at h
    split at h <;> simp_all
    exact ⟨_, rfl⟩
theorem choose_list {α : Type} {Q : Nat → α → Prop} : ∀ n, (∀ i, i < n → ∃ y, Q i y) → ∃ ys : List α, ys.length = n ∧ ∀ i y, ys[i]? = some y → Q i y
  | 0, _ => ⟨[], rfl, fun i y h => by simp at h⟩
  | n + 1, h => by
    obtain ⟨ys, hl, hy⟩ := choose_list n (fun i hi => h i (by omega))
    obtain ⟨z, hz⟩ := h n (by omega)
    refine ⟨ys ++ [z], by simp [hl], fun i y hi => ?_⟩
    by_cases c : i < n
    · rw [List.getElem?_append_left (by omega)] at hi; exact hy i y hi
    · have : i = n := by
        have := (List.getElem?_eq_some_iff.1 hi).1
        simp at this; omega
      subst this
      rw [List.getElem?_append_right (by omega)] at hi
      simp [hl] at hi
      subst hi; exact hz
theorem op_slice {α : Type} {t e : TypeId} {d : Kd α} (ht : P.underlying t = some (.slice e)) (hc : P.cellsOf e = d.sz) (hd : Opens P e d) : Opens P t (Kd.slice e d) := by
  intro H enc w fuel cs x h
  rcases DataW.trod_slice ht h with ⟨rfl, _⟩ | ⟨a, len, cap, elems, rest, n, _, rfl, _, _, hl, hm, hlen, hel, _⟩
  · exact ⟨[], none, 0, rfl, Nat.le_refl _, Kd.C_nil d w⟩
  · have hQ : ∀ i, i < len → ∃ y : α, ∃ c : List Value, c.length = d.sz ∧ d.K w y c ∧ ∀ j u, c[j]? = some u → w.cell? (a.add (i * d.sz + j)) = some u := by
      intro i hi
      have h1 := hel i hi
      rw [List.getElem?_eq_getElem (by omega), Option.bind_eq_some_iff] at h1
      obtain ⟨c, hc1, hc2⟩ := h1
      obtain ⟨y, hy⟩ := hd H enc w n c _ hc2
      obtain ⟨_, hcl, hcell⟩ := World.cells?_some hc1
      refine ⟨y, c, by rw [hcl, hc], hy, fun j u hj => ?_⟩
      have := hcell j (by rw [← hcl]; exact (List.getElem?_eq_some_iff.1 hj).1)
      rw [← hc]
      rw [Addr.add_add] at this
      rw [this, hj]
    obtain ⟨ys, hyl, hys⟩ := choose_list len hQ
    subst hyl
    refine ⟨ys, some a, cap, rfl, hl, rfl, by unfold maxLen at hm; omega, fun _ => ⟨a, rfl, fun j p hj => hys j p hj⟩⟩
theorem op_struct2 {α β : Type} {t : TypeId} {f0 f1 : Field} {a : Kd α} {b : Kd β} (ht : P.underlying t = some (.struct #[f0, f1])) (h0 : Opens P f0.type a) (h1 : Opens P f1.type b) (o0 : f0.offset = 0) (c0 : P.cellsOf f0.type = a.sz) (o1 : f1.offset = a.sz) (c1 : P.cellsOf f1.type = b.sz) (ct : P.cellsOf t = a.sz + b.sz) : Opens P t (Kd.pair a b) := by
  intro H enc w fuel cs x h
  obtain ⟨y0, y1, n, _, hl, g0, g1⟩ := trod_struct2 ht h
  obtain ⟨z0, k0⟩ := h0 H enc w n _ _ g0
  obtain ⟨z1, k1⟩ := h1 H enc w n _ _ g1
  rw [o0, c0, List.drop_zero] at k0
  rw [o1, c1] at k1
  refine ⟨(z0, z1), cs.take a.sz, cs.drop a.sz, ?_, k0, ?_⟩
  · exact (List.take_append_drop _ _).symm
  · rw [List.take_of_length_le (by simp; omega)] at k1
    exact k1
theorem op_struct3 {α β γ : Type} {t : TypeId} {f0 f1 f2 : Field} {a : Kd α} {b : Kd β} {c : Kd γ} (ht : P.underlying t = some (.struct #[f0, f1, f2])) (h0 : Opens P f0.type a) (h1 : Opens P f1.type b) (h2 : Opens P f2.type c) (o0 : f0.offset = 0) (c0 : P.cellsOf f0.type = a.sz) (o1 : f1.offset = a.sz) (c1 : P.cellsOf f1.type = b.sz) (o2 : f2.offset = a.sz + b.sz) (c2 : P.cellsOf f2.type = c.sz) (ct : P.cellsOf t = a.sz + (b.sz + c.sz)) : Opens P t (Kd.pair a (Kd.pair b c)) := by
  intro H enc w fuel cs x h
  obtain ⟨y0, y1, y2, n, _, hl, g0, g1, g2⟩ := trod_struct3 ht h
  obtain ⟨z0, k0⟩ := h0 H enc w n _ _ g0
  obtain ⟨z1, k1⟩ := h1 H enc w n _ _ g1
  obtain ⟨z2, k2⟩ := h2 H enc w n _ _ g2
  rw [o0, c0, List.drop_zero] at k0
  rw [o1, c1] at k1
  rw [o2, c2] at k2
  refine ⟨(z0, z1, z2), cs.take a.sz, cs.drop a.sz, (List.take_append_drop _ _).symm, k0, (cs.drop a.sz).take b.sz, (cs.drop a.sz).drop b.sz, (List.take_append_drop _ _).symm, k1, ?_⟩
  rw [List.drop_drop]
  rw [List.take_of_length_le (by simp; omega)] at k2
  exact k2
theorem op_iso {α β : Type} {t : TypeId} {d : Kd α} (f : β → α) (g : α → β) (hfg : ∀ x, f (g x) = x) (h : Opens P t d) : Opens P t (Kd.iso d f) := by
  intro H enc w fuel cs x hx
  obtain ⟨y, hy⟩ := h H enc w fuel cs x hx
  exact ⟨g y, by show d.K w (f (g y)) cs; rw [hfg]; exact hy⟩

end Go.Proofs.Ytipdejalohmkpaa.Rd

/- What the laws share: the graph in its block, whether it is large, and its opening. -/
namespace Go.Proofs.Ytipdejalohmkpaa.Gr
open Go.RowKit Go.Proofs.YtipdejalohmkpaaW.PrintWords Go.Proofs.YtipdejalohmkpaaW.PrintLast Go.Proofs.YtipdejalohmkpaaW.PrintMore PBestfirstDistances Rd

theorem large_l1 (xs : List ByteArray) (hx : xs.length ≤ 20) : ∀ (d k i : Nat), xs.length - i = d → i ≤ xs.length → d < k → pentaglotref40_Large.l1 k xs (xs.length : Int) (i : Int) = some ((xs.drop i).any fun s => decide (s.size > 20)) := by
  intro d
  induction d with
  | zero =>
    intro k i hd hi hk
    obtain ⟨k, rfl⟩ : ∃ m, k = m + 1 := ⟨k - 1, by omega⟩
    rw [pentaglotref40_Large.l1, if_neg (by omega), List.drop_eq_nil_of_le (by omega)]
    rfl
  | succ d ih =>
    intro k i hd hi hk
    obtain ⟨k, rfl⟩ : ∃ m, k = m + 1 := ⟨k - 1, by omega⟩
    have hlt : i < xs.length := by omega
    have c1 : (i : Int) < (xs.length : Int) := by omega
    have c0 : 0 ≤ (i : Int) := by omega
    have e1 := ih k (i + 1) (by omega) (by omega) (by omega)
    have hr : rdOf ByteArray.empty xs (i : Int) = xs[i] := by simp [rdOf, hlt]
    have hw : wrap64 ((i : Int) + 1) = ((i + 1 : Nat) : Int) := by rw [w64 (by omega) (by omega)]; omega
    rw [pentaglotref40_Large.l1, if_pos c1, if_pos c0, if_pos c1, hr, hw, e1, List.drop_eq_getElem_cons hlt, List.any_cons]
    by_cases c : xs[i].size > 20
    · rw [if_pos (by exact_mod_cast c)]; simp [c]
    · rw [if_neg (by exact_mod_cast c)]; simp [c]
theorem large_l0 (g : Gph) (hE : g.E.length ≤ 12) (hK : g.K.length ≤ 20) : ∀ (d k i : Nat), g.E.length - i = d → i ≤ g.E.length → d + 30 < k →
    pentaglotref40_Large.l0 k g.E (g.E.length : Int) (i : Int) g.E g.K g.Gs = some (((g.E.drop i).any fun l => decide (l.length > 8)) || g.K.any fun s => decide (s.size > 20)) := by
  intro d
  induction d with
  | zero =>
    intro k i hd hi hk
    obtain ⟨k, rfl⟩ : ∃ m, k = m + 1 := ⟨k - 1, by omega⟩
    have := large_l1 g.K hK g.K.length k 0 (by omega) (by omega) (by omega)
    rw [show ((0 : Nat) : Int) = 0 from rfl, List.drop_zero] at this
    rw [pentaglotref40_Large.l0, if_neg (by omega), List.drop_eq_nil_of_le (by omega), this]
    rfl
  | succ d ih =>
    intro k i hd hi hk
    obtain ⟨k, rfl⟩ : ∃ m, k = m + 1 := ⟨k - 1, by omega⟩
    have hlt : i < g.E.length := by omega
    have c1 : (i : Int) < (g.E.length : Int) := by omega
    have c0 : 0 ≤ (i : Int) := by omega
    have e1 := ih k (i + 1) (by omega) (by omega) (by omega)
    have hr : rd_L2 g.E (i : Int) = g.E[i] := by simp [rd_L2, hlt]
    have hw : wrap64 ((i : Int) + 1) = ((i + 1 : Nat) : Int) := by rw [w64 (by omega) (by omega)]; omega
    rw [pentaglotref40_Large.l0, if_pos c1, if_pos c0, if_pos c1, hr, hw, e1, List.drop_eq_getElem_cons hlt, List.any_cons]
    by_cases c : g.E[i].length > 8
    · rw [if_pos (by exact_mod_cast c)]; simp [c]
    · rw [if_neg (by exact_mod_cast c)]; simp [c]
theorem large_f (g : Gph) : ∃ k, pentaglotref40_Large.f k g.E g.K g.Gs = some g.large := by
  refine ⟨100, ?_⟩
  unfold pentaglotref40_Large.f Gph.large
  by_cases c1 : g.E.length > 12
  · rw [if_pos (by exact_mod_cast c1), pentaglotref40_Large.j0, if_pos rfl]; simp [c1]
  · rw [if_neg (by exact_mod_cast c1)]
    by_cases c2 : g.K.length > 20
    · rw [if_pos (by exact_mod_cast c2), pentaglotref40_Large.j0, if_pos rfl]; simp [c2]
    · rw [if_neg (by exact_mod_cast c2)]
      by_cases c3 : g.Gs.length > 20
      · rw [pentaglotref40_Large.j0, if_pos (by rw [decide_eq_true_iff]; exact_mod_cast c3)]; simp [c3]
      · rw [pentaglotref40_Large.j0, if_neg (by rw [decide_eq_true_iff]; exact_mod_cast c3)]
        have := large_l0 g (by omega) (by omega) g.E.length 99 0 (by omega) (by omega) (by omega)
        rw [show ((0 : Nat) : Int) = 0 from rfl, List.drop_zero] at this
        rw [this]
        simp [c1, c2, c3]

/-- A graph lies in block gb of w. -/
structure GB (g : Gph) (gb : Nat) (w : World) (A0 : Option Addr) (c0 : Nat) (A1 : Option Addr) (c1 : Nat) (A2 : Option Addr) (c2 : Nat) : Prop where
  blk : w.heap[gb]? = some (.cells #[.slice A0 g.E.length c0, .slice A1 g.K.length c1, .slice A2 g.Gs.length c2] 26 (0, 0))
  at_ : GAt g w A0 c0 A1 c1 A2 c2
theorem GB.below {g : Gph} {gb : Nat} {w w' : World} {A0 A1 A2 : Option Addr} {c0 c1 c2 : Nat} (h : GB g gb w A0 c0 A1 c1 A2 c2) (hb : Below w.heap.size w w') : GB g gb w' A0 c0 A1 c1 A2 c2 :=
  ⟨(hb.block gb (Array.getElem?_eq_some_iff.1 h.1).1).trans h.1, h.2.below hb⟩
theorem GB.cells {g : Gph} {gb : Nat} {w : World} {A0 A1 A2 : Option Addr} {c0 c1 c2 : Nat} (h : GB g gb w A0 c0 A1 c1 A2 c2) : w.cell? ⟨gb, 0, none⟩ = some (.slice A0 g.E.length c0) ∧ w.cell? ⟨gb, 1, none⟩ = some (.slice A1 g.K.length c1) ∧ w.cell? ⟨gb, 2, none⟩ = some (.slice A2 g.Gs.length c2) := by
  have h1 := h.1
  refine ⟨?_, ?_, ?_⟩ <;> (unfold World.cell?; rw [h1]; rfl)
theorem GB.make {g : Gph} {w : World} {A0 A1 A2 : Option Addr} {c0 c1 c2 : Nat} (h : GAt g w A0 c0 A1 c1 A2 c2) : GB g w.heap.size (w.alloc (.cells #[.slice A0 g.E.length c0, .slice A1 g.K.length c1, .slice A2 g.Gs.length c2] 26)) A0 c0 A1 c1 A2 c2 :=
  ⟨by show (w.heap.push _)[w.heap.size]? = _; simp, h.alloc _⟩
section
variable {g : Gph} {w : World} {A0 A1 A2 : Option Addr} {c0 c1 c2 : Nat}
theorem glarge_is (h : GAt g w A0 c0 A1 c1 A2 c2) (b : Bool) (hb : g.large = b) :
    Calls Try.prog 12 #[.agg #[.slice A0 g.E.length c0, .slice A1 g.K.length c1, .slice A2 g.Gs.length c2]] w fun e w' => e = .returned (.bool b) ∧ Below w.heap.size w w' := by
  subst hb
  obtain ⟨k, hk⟩ := large_f g
  exact pentaglotref40_Large.calls k A0 c0 g.E A1 c1 g.K A2 c2 g.Gs g.large w h.h0 h.l0 h.h1 h.l1 h.h2 h.l2 hk
theorem ghas_is (h : GAt g w A0 c0 A1 c1 A2 c2) (s : Int) (b : Bool) (hb : g.has s = b) :
    Calls Try.prog 13 #[.agg #[.slice A0 g.E.length c0, .slice A1 g.K.length c1, .slice A2 g.Gs.length c2], .int .i64 s] w fun e w' => e = .returned (.bool b) ∧ Below w.heap.size w w' := by
  subst hb
  exact ghas_any h s
theorem gplain_is (h : GAt g w A0 c0 A1 c1 A2 c2) (b : Bool) (hb : g.plain = b) :
    Calls Try.prog 19 #[.agg #[.slice A0 g.E.length c0, .slice A1 g.K.length c1, .slice A2 g.Gs.length c2]] w fun e w' => e = .returned (.bool b) ∧ Below w.heap.size w w' := by
  subst hb
  exact pentaglotlaw40_plain.calls A0 c0 g.E A1 c1 g.K A2 c2 g.Gs g.plain w h.h0 h.l0 h.h1 h.l1 h.h2 h.l2 (by unfold pentaglotlaw40_plain.f Gph.plain; congr 1; rw [Bool.eq_iff_iff]; simp)
end
theorem op_edge : Opens Try.prog 51 k51 :=
  op_iso (fun x : S51 => (x.f0, x.f1)) (fun y => ⟨y.1, y.2⟩) (fun _ => rfl) (op_struct2 Try.underlying51 (op_int Try.underlying3) (op_int Try.underlying3) rfl (by kernel_rfl) rfl (by kernel_rfl) (by kernel_rfl))
theorem op_edges : Opens Try.prog 22 (Kd.slice 48 (Kd.slice 51 k51)) := op_slice Try.underlying22 (by kernel_rfl) (op_slice Try.underlying48 (by kernel_rfl) op_edge)
theorem op_keys : Opens Try.prog 23 (Kd.slice 9 Kd.string) := op_slice Try.underlying23 (by kernel_rfl) (op_string Try.underlying9)
theorem op_goals : Opens Try.prog 24 (Kd.slice 3 (Kd.int .i64)) := op_slice Try.underlying24 (by kernel_rfl) (op_int Try.underlying3)
/-- Whatever reads as a graph is one. -/
theorem op_graph : Opens Try.prog 26 (Kd.pair (Kd.slice 48 (Kd.slice 51 k51)) (Kd.pair (Kd.slice 9 Kd.string) (Kd.slice 3 (Kd.int .i64)))) :=
  op_struct3 Try.underlying26 op_edges op_keys op_goals rfl (by kernel_rfl) rfl (by kernel_rfl) rfl (by kernel_rfl) (by kernel_rfl)
set_option maxRecDepth 100000 in
theorem open_graph {H : Type} {enc : TypeId × Value → H} {W : World} {r : Reach} {b0 : Nat} {v : Value} {d : DataW H} {p : List MemPlace} (hv : Value.okWide Try.prog W r b0 26 v) (h : DataW.Trod enc Try.prog W 0 (fun _ => true) true 26 v d p) :
    ∃ (g : Gph) (A0 : Option Addr) (c0 : Nat) (A1 : Option Addr) (c1 : Nat) (A2 : Option Addr) (c2 : Nat), v = .agg #[.slice A0 g.E.length c0, .slice A1 g.K.length c1, .slice A2 g.Gs.length c2] ∧ GAt g W A0 c0 A1 c1 A2 c2 := by
  obtain ⟨v0, v1, v2, y0, y1, y2, n, rfl, _, _, t0, t1, t2⟩ := Joins.open_agg3 Try.underlying26 (by kernel_rfl) (by kernel_rfl) hv h
  obtain ⟨E, A0, c0, e0, l0, h0⟩ := op_edges H enc W n _ _ t0
  obtain ⟨K, A1, c1, e1, l1, h1⟩ := op_keys H enc W n _ _ t1
  obtain ⟨G, A2, c2, e2, l2, h2⟩ := op_goals H enc W n _ _ t2
  cases e0; cases e1; cases e2
  exact ⟨⟨E, K, G⟩, A0, c0, A1, c1, A2, c2, rfl, ⟨h0, l0, h1, l1, h2, l2⟩⟩
end Go.Proofs.Ytipdejalohmkpaa.Gr

/- The specified search: its object in memory, was and goal. -/
namespace Go.Proofs.Ytipdejalohmkpaa.Gr
open Go.RowKit Go.Proofs.YtipdejalohmkpaaW.PrintWords Go.Proofs.YtipdejalohmkpaaW.PrintLast Go.Proofs.YtipdejalohmkpaaW.PrintMore PBestfirstDistances
set_option linter.unusedSimpArgs false
set_option linter.unusedVariables false
variable {g : Gph} {w : World} {A0 A1 A2 : Option Addr} {c0 c1 c2 : Nat}
/-- The world w' is w, but for blocks in S and new ones. -/
structure Chg (w w' : World) (S : Nat → Prop) : Prop where
  os : w'.os = w.os
  tape : w'.tape = w.tape
  output : w'.output = w.output
  size : w.heap.size ≤ w'.heap.size
  block : ∀ i, i < w.heap.size → ¬ S i → w'.heap[i]? = w.heap[i]?
theorem Chg.refl (w : World) (S : Nat → Prop) : Chg w w S := ⟨rfl, rfl, rfl, Nat.le_refl _, fun _ _ _ => rfl⟩
theorem Chg.of_below {w w' : World} (h : Below w.heap.size w w') (S : Nat → Prop) : Chg w w' S := ⟨h.os, h.tape, h.output, h.size, fun i hi _ => h.block i hi⟩
theorem Chg.of_grown {w w' : World} {r : Option Nat} (h : w.grownBy w' r) {S : Nat → Prop} (hr : ∀ k, r = some k → S k) : Chg w w' S :=
  ⟨h.os, h.tape, h.output, h.size, fun i hi hS => h.block i hi (fun e => hS (hr i e.symm))⟩
theorem Chg.trans {w w1 w2 : World} {S S2 : Nat → Prop} (h : Chg w w1 S) (k : Chg w1 w2 S2) (hS : ∀ i, i < w.heap.size → S2 i → S i) : Chg w w2 S :=
  ⟨k.os.trans h.os, k.tape.trans h.tape, k.output.trans h.output, Nat.le_trans h.size k.size, fun i hi hn => (k.block i (Nat.lt_of_lt_of_le hi h.size) (fun e => hn (hS i hi e))).trans (h.block i hi hn)⟩
theorem Chg.set (w : World) (p : Addr) (u : Value) {S : Nat → Prop} (hS : S p.block) : Chg w (w.setCell p u) S :=
  ⟨rfl, rfl, rfl, by simp, fun i _ hn => Below.heap_setCell w p u i (fun e => hn (e ▸ hS))⟩
theorem Chg.below {w0 w w' : World} {B : Nat} {S : Nat → Prop} (h : Chg w w' S) (hb : Below B w0 w) (hB : B ≤ w.heap.size) (hS : ∀ i, i < w.heap.size → S i → B ≤ i) : Below B w0 w' :=
  hb.trans ⟨h.os, h.tape, h.output, h.size, fun i hi => h.block i (Nat.lt_of_lt_of_le hi hB) (fun e => by have := hS i (Nat.lt_of_lt_of_le hi hB) e; omega)⟩
theorem R_chg {α : Type} {k : Kd α} {e base : Nat} {w w' : World} {ok : Nat → Prop} {v : Value} {xs : List α} {S : Nat → Prop} (h : k.R e w base ok v xs) (hc : Chg w w' S) (hS : ∀ i, ok i → i < w.heap.size → ¬ S i) : k.R e w' base ok v xs :=
  Kd.R_mono (Kd.R_move (Kd.R_bound h) (fun i hi => hc.block i hi.2.2.1 (hS i hi.1 hi.2.2.1))) (fun _ hk => hk.1)

/-- What the kinds of goals ask. -/
def goalOf (g : Gph) (what : Int) (key : ByteArray) (s : Int) : Bool := if what = 0 then g.goal s else if what = 2 then g.key s == key else false
/-- A search's object in block xb: the graph, the kind of goal, the key, the states that were expanded (row ve). -/
structure XAt (g : Gph) (w : World) (base xb : Nat) (what : Int) (key : ByteArray) (ve : Value) (order : List Int) (A0 : Option Addr) (c0 : Nat) (A1 : Option Addr) (c1 : Nat) (A2 : Option Addr) (c2 : Nat) : Prop where
  blk : w.heap[xb]? = some (.cells #[.slice A0 g.E.length c0, .slice A1 g.K.length c1, .slice A2 g.Gs.length c2, .int .i64 what, .string key, ve] 35 (0, 0))
  at_ : GAt g w A0 c0 A1 c1 A2 c2
  row : (Kd.int .i64).R 3 w base (fun _ => True) ve order
  dom : ∀ s ∈ order, g.has s = true
theorem XAt.below {w' : World} {base xb : Nat} {what : Int} {key : ByteArray} {ve : Value} {order : List Int} (h : XAt g w base xb what key ve order A0 c0 A1 c1 A2 c2) (hb : Below w.heap.size w w') : XAt g w' base xb what key ve order A0 c0 A1 c1 A2 c2 :=
  ⟨(hb.block xb (blk_lt h.blk)).trans h.blk, h.at_.below hb, Kd.R_below h.row hb, h.dom⟩
theorem XAt.cells {base xb : Nat} {what : Int} {key : ByteArray} {ve : Value} {order : List Int} (h : XAt g w base xb what key ve order A0 c0 A1 c1 A2 c2) :
    w.cell? ⟨xb, 0, none⟩ = some (.slice A0 g.E.length c0) ∧ w.cell? ⟨xb, 1, none⟩ = some (.slice A1 g.K.length c1) ∧ w.cell? ⟨xb, 2, none⟩ = some (.slice A2 g.Gs.length c2) ∧ w.cell? ⟨xb, 3, none⟩ = some (.int .i64 what) ∧ w.cell? ⟨xb, 4, none⟩ = some (.string key) ∧ w.cell? ⟨xb, 5, none⟩ = some ve :=
  ⟨blk_cell h.blk 0, blk_cell h.blk 1, blk_cell h.blk 2, blk_cell h.blk 3, blk_cell h.blk 4, blk_cell h.blk 5⟩
theorem len12r (hl : g.large = false) : g.E.length ≤ 12 := by
  have := dom_len g hl; unfold Gph.dom at this; rwa [List.length_map, List.length_range] at this
theorem has_max (hl : g.large = false) {s : Int} (hs : g.has s = true) : s ≤ 9223372036854775807 := by
  have := has_iff.1 hs; have := len12r hl; omega

def WsRel (g : Gph) (key : ByteArray) (order : List Int) (r : Bool) (W : World) (v12 : Value) (wr : World) : Prop :=
  ∃ i : Nat, i ≤ order.length ∧ v12 = .int .i64 i ∧ ((order.drop i).any fun s => g.key s == key) = r ∧ Below W.heap.size W wr
set_option maxRecDepth 1000000 in
set_option maxHeartbeats 4000000 in
theorem was_any {base xb : Nat} {what : Int} {key key2 : ByteArray} {ve : Value} {order : List Int} (h : XAt g w base xb what key2 ve order A0 c0 A1 c1 A2 c2) (hl : g.large = false) :
    Calls Try.prog 27 #[.pointer (some ⟨xb, 0, none⟩), .string key] w fun e w' => e = .returned (.bool (order.any fun s => g.key s == key)) ∧ Below w.heap.size w w' := by
  obtain ⟨Ae, ce, hve, hle, hCe⟩ := Kd.R_reads h.row
  subst hve
  have HX := Lib.hid h
  have HCe := Lib.hid hCe
  have HL := Lib.hid hl
  have hm := hCe.2.1
  obtain ⟨q0, q1, q2, q3, q4, q5⟩ := h.cells
  clear h hCe hl
  obtain ⟨r, hr⟩ : ∃ r, (order.any fun s => g.key s == key) = r := ⟨_, rfl⟩
  have HI := Lib.hid (show WsRel g key order r w (.int .i64 0) w from ⟨0, Nat.zero_le _, rfl, by rw [List.drop_zero]; exact hr, Below.refl _ _⟩)
  rw [hr]
  clear hr
  go_enter Try.func27, Try.ntmps27
  go_wp2
  clear q0 q1 q2 q3 q4 q5
  go_loopw [12] (fun v12 wr => WsRel g key order r w v12 wr) (fun v12 _ => order.length - (intOf v12).toNat)
  case atStart => exact HI.out
  case round =>
    clear HI
    obtain ⟨i, hi, rfl, hr, hB⟩ := hrel
    have HR := Lib.hid hr
    have HBr := Lib.hid hB
    clear hr hB
    by_cases hlt : i < order.length
    · have hi0 : 0 ≤ (i : Int) := by omega
      have hi1 : (i : Int) < (order.length : Int) := by omega
      obtain ⟨ad, rfl, hc⟩ := Kd.at_int HCe.out (i : Int) hi0 hi1
      have hrd : rd order (i : Int) = order[i] := by simp [rd, hlt]
      rw [hrd, Int.toNat_natCast] at hc
      replace hc := (HBr.out.cell (World.block_lt_of_cell? w _ hc)).trans hc
      have HXr := Lib.hid (HX.out.below HBr.out)
      have HH := Lib.hid (HX.out.dom order[i] (List.getElem_mem hlt))
      have HS : Hid ((g.key order[i] == key || (order.drop (i + 1)).any fun s => g.key s == key) = r) := by
        have h := HR.out
        rw [List.drop_eq_getElem_cons hlt, List.any_cons] at h
        exact Lib.hid h
      obtain ⟨s, hs⟩ : ∃ s, order[i] = s := ⟨_, rfl⟩
      rw [hs] at hc HH HS
      clear hrd hs HR
      obtain ⟨q0, q1, q2, q3, q4, q5⟩ := HXr.out.cells
      go_wp2_with fail
      refine (gkey_any HXr.out.at_ s (has_max HL.out HH.out)).mono ?_
      rintro en w8 ⟨rfl, hb8⟩
      have HB8 := Lib.hid (below_then HBr.out HBr.out.size hb8)
      clear hb8 q0 q1 q2 q3 q4 q5 HXr hc
      by_cases he : g.key s = key
      · have hb : ((g.key s).toList == key.toList) = true := by rw [he]; simp
        have hr2 := HS.out
        rw [he] at hr2
        have HR2 := Lib.hid (show r = true by rw [← hr2]; simp)
        clear he hr2 HS
        go_wp2
        go_ret
        exact ⟨by rw [HR2.out]; rfl, HB8.out⟩
      · have hb : ((g.key s).toList == key.toList) = false := by rw [← beq_toListBytes, beq_eq_false_iff_ne]; exact he
        have hr2 := HS.out
        rw [beq_eq_false_iff_ne.2 he, Bool.false_or] at hr2
        have HR2 := Lib.hid hr2
        clear he hr2 HS
        go_wp2
        go_roundw
        case rel => exact ⟨i + 1, by omega, by go_num, HR2.out, HB8.out⟩
        case measure => simp [intOf]; omega
    · have HR2 : Hid (r = false) := by
        have h := HR.out
        rw [List.drop_eq_nil_of_le (by omega)] at h
        exact Lib.hid h.symm
      clear HR
      go_wp2
      go_ret
      exact ⟨by rw [HR2.out]; rfl, HBr.out⟩
set_option maxRecDepth 1000000 in
set_option maxHeartbeats 4000000 in
theorem goal_any {base xb : Nat} {what : Int} {key : ByteArray} {ve : Value} {order : List Int} (h : XAt g w base xb what key ve order A0 c0 A1 c1 A2 c2) (hl : g.large = false) (s : Int) (hs : g.has s = true) :
    Calls Try.prog 28 #[.pointer (some ⟨xb, 0, none⟩), .int .i64 s] w fun e w' => e = .returned (.bool (goalOf g what key s)) ∧ Below w.heap.size w w' := by
  have HX := Lib.hid h
  have HM := Lib.hid (has_max hl hs)
  have HG := Lib.hid (show goalOf g what key s = if what = 0 then g.goal s else if what = 2 then g.key s == key else false from rfl)
  obtain ⟨q0, q1, q2, q3, q4, q5⟩ := h.cells
  clear h
  by_cases h0 : what = 0
  · have HG2 := Lib.hid (HG.out.trans (if_pos h0))
    rw [h0] at q3
    clear h0
    go_enter Try.func28, Try.ntmps28
    go_wp2_with fail
    refine (ggoal_any HX.out.at_ s).mono ?_
    rintro en w8 ⟨rfl, hb8⟩
    have HB8 := Lib.hid hb8
    clear hb8 q0 q1 q2 q3 q4 q5
    go_wp2
    go_ret
    exact ⟨by rw [HG2.out]; rfl, HB8.out⟩
  · have g0 : (what == 0) = false := by simpa using h0
    by_cases h2 : what = 2
    · have HG2 := Lib.hid ((HG.out.trans (if_neg h0)).trans (if_pos h2))
      rw [h2] at q3
      clear h0 h2 g0
      go_enter Try.func28, Try.ntmps28
      go_wp2
      have HXd := Lib.hid (show XAt g w.drew base xb what key ve order A0 c0 A1 c1 A2 c2 from HX.out.below (Below.drew (Below.refl _ _)))
      have HBd := Lib.hid (Below.drew (Below.refl w.heap.size w))
      refine start_ (n := 12) (S := fun w' => w'.cell? ⟨xb, 0, none⟩ = some (.slice A0 g.E.length c0) ∧ w'.cell? ⟨xb, 1, none⟩ = some (.slice A1 g.K.length c1) ∧ w'.cell? ⟨xb, 2, none⟩ = some (.slice A2 g.Gs.length c2) ∧ w'.cell? ⟨xb, 4, none⟩ = some (.string key)) (ds := []) #[false, false, false, false, false, false, false, false, false, false, false, false] (by kernel_rfl) rfl rfl ⟨q0, q1, q2, q4⟩ (fun hHeld => ?_)
      clear q0 q1 q2 q3 q4 q5
      generalize w.drew = w2 at HXd HBd hHeld ⊢
      refine pure_ (i := 0) (N := (some 19)) (v := ?_) (a' := ?_) #[true, false, false, false, false, false, false, false, false, false, false, false] rfl rfl (by kernel_rfl) (fun _ _ _ h => h) (Or.inl ⟨by rfl, ?_⟩) ?_ ?_
      rotate_left
      · intro w'
        go_simp
        with_reducible rfl
      rotate_left
      · simp only [Act.put, List.setIfInBounds_toArray, List.set_cons_zero, List.set_cons_succ]
        rfl
      refine pure_ (i := 1) (N := (some 20)) (v := ?_) (a' := ?_) #[true, true, false, false, false, false, false, false, false, false, false, false] rfl rfl (by kernel_rfl) (fun _ _ _ h => h) (Or.inl ⟨by rfl, ?_⟩) ?_ ?_
      rotate_left
      · intro w'
        go_simp
        with_reducible rfl
      rotate_left
      · simp only [Act.put, List.setIfInBounds_toArray, List.set_cons_zero, List.set_cons_succ]
        rfl
      refine pure_ (i := 2) (N := (some 21)) (v := ?_) (a' := ?_) #[true, true, true, false, false, false, false, false, false, false, false, false] rfl rfl (by kernel_rfl) (fun _ _ _ h => h) (Or.inl ⟨by rfl, ?_⟩) ?_ ?_
      rotate_left
      · intro w'
        go_simp
        with_reducible rfl
      rotate_left
      · simp only [Act.put, List.setIfInBounds_toArray, List.set_cons_zero, List.set_cons_succ]
        rfl
      refine take_ (i := 3) (N := (some 22)) (v := ?_) (a' := ?_) #[true, true, true, true, false, false, false, false, false, false, false, false] rfl rfl (by kernel_rfl) (fun _ _ _ h => h) (Or.inl ⟨by rfl, ?_⟩) hHeld ?_ ?_
      rotate_left
      · rintro w' ⟨s0, s1, s2, s3⟩
        go_simp
        with_reducible rfl
      rotate_left
      · simp only [Act.put, List.setIfInBounds_toArray, List.set_cons_zero, List.set_cons_succ]
        rfl
      refine pure_ (i := 4) (N := (some 23)) (v := ?_) (a' := ?_) #[true, true, true, true, true, false, false, false, false, false, false, false] rfl rfl (by kernel_rfl) (fun _ _ _ h => h) (Or.inl ⟨by rfl, ?_⟩) ?_ ?_
      rotate_left
      · intro w'
        go_simp
        with_reducible rfl
      rotate_left
      · simp only [Act.put, List.setIfInBounds_toArray, List.set_cons_zero, List.set_cons_succ]
        rfl
      refine pure_ (i := 6) (N := (some 25)) (v := ?_) (a' := ?_) #[true, true, true, true, true, false, true, false, false, false, false, false] rfl rfl (by kernel_rfl) (fun _ _ _ h => h) (Or.inl ⟨by rfl, ?_⟩) ?_ ?_
      rotate_left
      · intro w'
        go_simp
        with_reducible rfl
      rotate_left
      · simp only [Act.put, List.setIfInBounds_toArray, List.set_cons_zero, List.set_cons_succ]
        rfl
      refine pure_ (i := 7) (N := (some 26)) (v := ?_) (a' := ?_) #[true, true, true, true, true, false, true, true, false, false, false, false] rfl rfl (by kernel_rfl) (fun _ _ _ h => h) (Or.inl ⟨by rfl, ?_⟩) ?_ ?_
      rotate_left
      · intro w'
        go_simp
        with_reducible rfl
      rotate_left
      · simp only [Act.put, List.setIfInBounds_toArray, List.set_cons_zero, List.set_cons_succ]
        rfl
      refine pure_ (i := 8) (N := (some 27)) (v := ?_) (a' := ?_) #[true, true, true, true, true, false, true, true, true, false, false, false] rfl rfl (by kernel_rfl) (fun _ _ _ h => h) (Or.inl ⟨by rfl, ?_⟩) ?_ ?_
      rotate_left
      · intro w'
        go_simp
        with_reducible rfl
      rotate_left
      · simp only [Act.put, List.setIfInBounds_toArray, List.set_cons_zero, List.set_cons_succ]
        rfl
      refine take_ (i := 9) (N := (some 28)) (v := ?_) (a' := ?_) #[true, true, true, true, true, false, true, true, true, true, false, false] rfl rfl (by kernel_rfl) (fun _ _ _ h => h) (Or.inl ⟨by rfl, ?_⟩) hHeld ?_ ?_
      rotate_left
      · rintro w' ⟨s0, s1, s2, s3⟩
        go_simp
        with_reducible rfl
      rotate_left
      · simp only [Act.put, List.setIfInBounds_toArray, List.set_cons_zero, List.set_cons_succ]
        rfl
      refine one_ (i := 5) (N := (some 24)) #[true, true, true, true, true, true, true, true, true, true, false, false] rfl rfl (by kernel_rfl) (by decide) (fun K hK => ?_)
      go_simp
      refine (gkey_any HXd.out.at_ s HM.out).mono ?_
      rintro en w8 ⟨rfl, hb8⟩
      have HX8 := Lib.hid (HXd.out.below hb8)
      have HB8 := Lib.hid (below_then HBd.out HBd.out.size hb8)
      clear hb8
      refine hK.out _ _ ⟨HX8.out.cells.1, HX8.out.cells.2.1, HX8.out.cells.2.2.1, HX8.out.cells.2.2.2.2.1⟩ (fun hHeld => ?_)
      clear hK K
      (try simp only [Act.put, List.setIfInBounds_toArray, List.set_cons_zero, List.set_cons_succ])
      refine pure_ (i := 10) (N := (some 29)) (v := ?_) (a' := ?_) #[true, true, true, true, true, true, true, true, true, true, true, false] rfl rfl (by kernel_rfl) (fun _ _ _ h => h) (Or.inl ⟨by rfl, ?_⟩) ?_ ?_
      rotate_left
      · intro w'
        go_simp
        with_reducible rfl
      rotate_left
      · simp only [Act.put, List.setIfInBounds_toArray, List.set_cons_zero, List.set_cons_succ]
        rfl
      refine pure_ (i := 11) (N := (some 4)) (v := ?_) (a' := ?_) #[true, true, true, true, true, true, true, true, true, true, true, true] rfl rfl (by kernel_rfl) (fun _ _ _ h => h) (Or.inl ⟨by rfl, ?_⟩) ?_ ?_
      rotate_left
      · intro w'
        go_simp
        with_reducible rfl
      rotate_left
      · simp only [Act.put, List.setIfInBounds_toArray, List.set_cons_zero, List.set_cons_succ]
        rfl
      refine done_ (by kernel_rfl) ?_
      clear hHeld
      go_wp2
      go_ret
      exact ⟨by rw [HG2.out, beq_toListBytes]; rfl, HB8.out⟩
    · have HG2 := Lib.hid ((HG.out.trans (if_neg h0)).trans (if_neg h2))
      have g2 : (what == 2) = false := by simpa using h2
      clear h0 h2
      go_enter Try.func28, Try.ntmps28
      go_wp2
      go_ret
      exact ⟨by rw [HG2.out]; rfl, Below.refl _ _⟩
end Go.Proofs.Ytipdejalohmkpaa.Gr
