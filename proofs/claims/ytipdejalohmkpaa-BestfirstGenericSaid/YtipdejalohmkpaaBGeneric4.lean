/- Part 4 of the proof of Generic: Lf, Aw, Rd, La, Wd, Wg, Dj, Bf, Op, Gn, SQ. -/
import Derived.Test.YtipdejalohmkpaaBGeneric3
import Derived.Test.YtipdejalohmkpaaBGeneric1
import Derived.KernelRfl
import Derived.Test.YtipdejalohmkpaaWMore
import Derived.ChangeArms
import Derived.DataReads
import Derived.ChangeSame
import Derived.Deep.Strs
import Derived.ProofKit
import Derived.SizedLaws
import Derived.Lib.SmallJoins
import Derived.Test.YtipdejalohmkpaaRows
import Derived.WalkKit
import Derived.WalkSpells
import Derived.WalkLawsBesides
import Derived.Deep.QuietTactic
import Derived.BigQuiet
import Derived.BigRegion
import Derived.Lib.Hide
/- The law's own callers of the search over a graph. -/
namespace Go.Proofs.Ytipdejalohmkpaa.Gr
open Go.RowKit Go.Proofs.YtipdejalohmkpaaW.PrintWords Go.Proofs.YtipdejalohmkpaaW.PrintLast Go.Proofs.YtipdejalohmkpaaW.PrintMore PBestfirstDistances

def Gph.prob (g : Gph) : Sr.Prob Int := ⟨g.key, fun s => steps (g.next s)⟩
def Gph.dom (g : Gph) : List Int := (List.range g.E.length).map Int.ofNat
theorem mem_dom {g : Gph} {s : Int} : s ∈ g.dom ↔ g.has s = true := by
  unfold Gph.dom Gph.has
  simp only [List.mem_map, List.mem_range, Bool.and_eq_true, decide_eq_true_eq]
  constructor
  · rintro ⟨n, hn, rfl⟩
    simp only [Int.ofNat_eq_natCast]
    omega
  · intro h; exact ⟨s.toNat, by omega, by simp only [Int.ofNat_eq_natCast]; omega⟩
theorem has_iff {g : Gph} {s : Int} : g.has s = true ↔ 0 ≤ s ∧ s < (g.E.length : Int) := by simp [Gph.has]
theorem start_dom {g : Gph} {s : Int} (hs : g.has s = true) : ∀ e ∈ [(⟨s, [], 0, 0⟩ : Sr.Ent Int)], e.st ∈ g.dom := by
  intro e he
  obtain rfl : e = ⟨s, [], 0, 0⟩ := by simpa using he
  exact mem_dom.2 hs
theorem next_has {g : Gph} {s : Int} {x : S51} (h : x ∈ g.next s) : g.has x.f0 = true := by
  unfold Gph.next at h
  split at h
  · exact (List.mem_filter.1 h).2
  · simp at h
theorem dom_closed (g : Gph) : ∀ s ∈ g.dom, ∀ y ∈ g.prob.next s, y.1 ∈ g.dom := by
  intro s _ y hy
  obtain ⟨x, hx, rfl⟩ := List.mem_map.1 hy
  exact mem_dom.2 (next_has hx)
theorem few8 (g : Gph) (hl : g.large = false) (s : Int) : (g.prob.next s).length ≤ 8 := by
  have := next_len g hl s
  simpa [Gph.prob, steps] using this
theorem dom_len (g : Gph) (hl : g.large = false) : g.dom.length ≤ 12 := by
  simp only [Gph.large, Bool.or_eq_false_iff, decide_eq_false_iff_not] at hl
  have := hl.1.1.1.1
  simp [Gph.dom]; omega
def Gph.out (g : Gph) (goal : Int → Bool) (budget : Nat) (s : Int) : Sr.Out Int := (Sr.run g.prob goal budget 200 [⟨s, [], 0, 0⟩] [] 1).getD (.notFound [])
theorem out_run (g : Gph) (hl : g.large = false) (goal : Int → Bool) (budget : Nat) (s : Int) (hs : g.has s = true) : Sr.run g.prob goal budget 200 [⟨s, [], 0, 0⟩] [] 1 = some (g.out goal budget s) := by
  obtain ⟨o, ho⟩ := Sr.run_ends g.prob goal budget g.dom (dom_closed g) (few8 g hl) 200 [⟨s, [], 0, 0⟩] [] 1 (by have := dom_len g hl; simp; omega) (start_dom hs) (by simp) List.Pairwise.nil
  unfold Gph.out
  rw [ho]; rfl
/-- Search's, Reachable's and Distance's answers: the path (the states), the cost, the error. -/
def sres (g : Gph) (s budget : Int) : List Int × Int × Int := if budget < 1 ∨ 1048576 < budget then ([], 0, 1) else match g.out g.goal budget.toNat s with
  | .notFound _ => ([], 0, 4)
  | .budget _ => ([], 0, 7)
  | .found x _ => (x.rp.reverse, x.cost, 0)
def rres (g : Gph) (s budget : Int) : List Int × Int := if budget < 1 ∨ 1048576 < budget then ([], 1) else match g.out (fun _ => false) budget.toNat s with
  | .notFound o => (o, 0)
  | .budget _ => ([], 7)
  | .found _ _ => ([], 0)
def dres (g : Gph) (s : Int) (key : ByteArray) (budget : Int) : Int × Int := if budget < 1 ∨ 1048576 < budget then (0, 1) else match g.out (fun t => g.key t == key) budget.toNat s with
  | .notFound _ => (0, 4)
  | .budget _ => (0, 7)
  | .found x _ => (x.cost, 0)

section
variable {g : Gph} {w : World} {A0 A1 A2 : Option Addr} {c0 c1 c2 : Nat}
abbrev agg3 (g : Gph) (A0 : Option Addr) (c0 : Nat) (A1 : Option Addr) (c1 : Nat) (A2 : Option Addr) (c2 : Nat) : Value := .agg #[.slice A0 g.E.length c0, .slice A1 g.K.length c1, .slice A2 g.Gs.length c2]
theorem prc (h : GAt g w A0 c0 A1 c1 A2 c2) (hl : g.large = false) : I.PrC g.prob (fun s => g.has s = true) (agg3 g A0 c0 A1 c1 A2 c2) w where
  key w' s hs hb := pkey_any (h.below hb) s (by
    have h1 := has_iff.1 (show g.has s = true from hs)
    simp only [Gph.large, Bool.or_eq_false_iff, decide_eq_false_iff_not] at hl
    have := hl.1.1.1.1
    omega)
  next w' s _ hb := pnext_any (h.below hb) hl s
  few s := Nat.le_trans (few8 g hl s) (by omega)
  oks s x _ hx := by
    obtain ⟨y, hy, rfl⟩ := List.mem_map.1 hx
    exact next_has hy
  mkey w' := by kernel_rfl
  mnext w' := by kernel_rfl
  nkey w' := by kernel_rfl
  nnext w' := by kernel_rfl
  mgoal w' := by kernel_rfl

set_option maxHeartbeats 1000000 in
theorem lsearch_any (h : GAt g w A0 c0 A1 c1 A2 c2) (hl : g.large = false) (s : Int) (hs : g.has s = true) (budget : Int) :
    Calls Try.prog 14 #[.agg #[.slice A0 g.E.length c0, .slice A1 g.K.length c1, .slice A2 g.Gs.length c2], .int .i64 s, .int .i64 budget] w fun e w' =>
      ∃ v : Value, e = .returned (.tuple #[v, .int .i64 (sres g s budget).2.1, .int .i64 (sres g s budget).2.2]) ∧ (Kd.int .i64).R 3 w' w.heap.size (fun _ => True) v (sres g s budget).1 ∧ Below w.heap.size w w' := by
  have HA := Lib.hid (show Below w.heap.size w (w.alloc (.cells #[.slice A0 g.E.length c0, .slice A1 g.K.length c1, .slice A2 g.Gs.length c2] 26)) from (Below.refl _ _).alloc (Nat.le_refl _) _)
  by_cases hb : budget < 1 ∨ 1048576 < budget
  · have HR : Hid (sres g s budget = ([], 0, 1)) := by show sres g s budget = _; unfold sres; rw [if_pos hb]
    clear h
    go_enter Try.func14, Try.ntmps14
    go_wp2_with (go_at_call 26; refine (I.fsearch_bad (.iface 62 .nilIface) _ _ budget _ hb).mono ?_; rintro e w' ⟨rfl, rfl⟩)
    go_ret3
    exact ⟨_, by rw [HR.out]; rfl, by rw [HR.out]; exact Kd.R_nil _ _ _ _ _, HA.out⟩
  · have HP := Lib.hid (prc (h.below HA.out) hl)
    have hrun := out_run g hl g.goal budget.toNat s hs
    have HC := Lib.hid (I.fsearch_any g.prob (fun s => g.has s = true) g.goal (agg3 g A0 c0 A1 c1 A2 c2) s budget.toNat _ HP.out (by omega) (by omega) hs (fun w' t _ hw => pgoal_any ((h.below HA.out).below hw) t) 200 _ hrun (fun x o e => by
      have := Sr.run_len g.prob g.goal budget.toNat 200 [⟨s, [], 0, 0⟩] [] 1 x o (by simp) (by simp) (by rw [hrun, e])
      omega))
    have eb : ((budget.toNat : Nat) : Int) = budget := by omega
    rw [eb] at HC
    clear h HP hrun eb
    have HRES : Hid (sres g s budget = match g.out g.goal budget.toNat s with | .notFound _ => ([], 0, 4) | .budget _ => ([], 0, 7) | .found x _ => (x.rp.reverse, x.cost, 0)) := by show sres g s budget = _; unfold sres; rw [if_neg hb]
    clear hb
    generalize g.out g.goal budget.toNat s = out at HC HRES
    cases out with
    | notFound o =>
      go_enter Try.func14, Try.ntmps14
      go_wp2_with (go_at_call 26; refine HC.out.mono ?_; rintro e w' ⟨hb, v, rfl, rfl⟩; have HB := Lib.hid hb; clear hb)
      go_ret3
      exact ⟨_, by rw [HRES.out]; rfl, by rw [HRES.out]; exact Kd.R_nil _ _ _ _ _, HA.out.trans (HB.out.mono HA.out.size)⟩
    | budget o =>
      go_enter Try.func14, Try.ntmps14
      go_wp2_with (go_at_call 26; refine HC.out.mono ?_; rintro e w' ⟨hb, v, rfl, rfl⟩; have HB := Lib.hid hb; clear hb)
      go_ret3
      exact ⟨_, by rw [HRES.out]; rfl, by rw [HRES.out]; exact Kd.R_nil _ _ _ _ _, HA.out.trans (HB.out.mono HA.out.size)⟩
    | found x o =>
      go_enter Try.func14, Try.ntmps14
      go_wp2_with (go_at_call 26; refine HC.out.mono ?_; rintro e w' ⟨hb, v, rfl, hv⟩; have HB := Lib.hid hb; have HV := Lib.hid hv; clear hb hv)
      go_ret3
      exact ⟨_, by rw [HRES.out]; rfl, by rw [HRES.out]; exact Kd.R_lower HV.out HA.out.size, HA.out.trans (HB.out.mono HA.out.size)⟩
theorem lsearch_is (h : GAt g w A0 c0 A1 c1 A2 c2) (hl : g.large = false) (s : Int) (hs : g.has s = true) (budget : Int) (l : List Int) (c e : Int) (hr : sres g s budget = (l, c, e)) :
    Calls Try.prog 14 #[.agg #[.slice A0 g.E.length c0, .slice A1 g.K.length c1, .slice A2 g.Gs.length c2], .int .i64 s, .int .i64 budget] w fun en w' =>
      ∃ v : Value, en = .returned (.tuple #[v, .int .i64 c, .int .i64 e]) ∧ (Kd.int .i64).R 3 w' w.heap.size (fun _ => True) v l ∧ Below w.heap.size w w' := by
  have := lsearch_any h hl s hs budget
  rw [hr] at this
  exact this

set_option maxHeartbeats 1000000 in
theorem lreach_is (h : GAt g w A0 c0 A1 c1 A2 c2) (hl : g.large = false) (s : Int) (hs : g.has s = true) (budget : Int) (l : List Int) (c : Int) (hr : rres g s budget = (l, c)) :
    Calls Try.prog 17 #[.agg #[.slice A0 g.E.length c0, .slice A1 g.K.length c1, .slice A2 g.Gs.length c2], .int .i64 s, .int .i64 budget] w fun en w' =>
      ∃ v : Value, en = .returned (.tuple #[v, .int .i64 c]) ∧ (Kd.int .i64).R 3 w' w.heap.size (fun _ => True) v l ∧ Below w.heap.size w w' := by
  have HA := Lib.hid (show Below w.heap.size w (w.alloc (.cells #[.slice A0 g.E.length c0, .slice A1 g.K.length c1, .slice A2 g.Gs.length c2] 26)) from (Below.refl _ _).alloc (Nat.le_refl _) _)
  by_cases hb : budget < 1 ∨ 1048576 < budget
  · unfold rres at hr
    rw [if_pos hb] at hr
    cases hr
    clear h
    go_enter Try.func17, Try.ntmps17
    go_wp2_with (go_at_call 30; refine (I.reach_bad _ _ budget _ hb).mono ?_; rintro e w' ⟨rfl, rfl⟩)
    go_ret2
    exact ⟨_, rfl, Kd.R_nil _ _ _ _ _, HA.out⟩
  · have HP := Lib.hid (prc (h.below HA.out) hl)
    have hrun := out_run g hl (fun _ => false) budget.toNat s hs
    have HC := Lib.hid (I.reach_any g.prob (fun s => g.has s = true) (agg3 g A0 c0 A1 c1 A2 c2) s budget.toNat _ HP.out (by omega) (by omega) hs 200 _ hrun)
    have eb : ((budget.toNat : Nat) : Int) = budget := by omega
    rw [eb] at HC
    clear h HP hrun eb
    unfold rres at hr
    rw [if_neg hb] at hr
    clear hb
    generalize g.out (fun _ => false) budget.toNat s = out at HC hr
    cases out with
    | notFound o =>
      cases hr
      go_enter Try.func17, Try.ntmps17
      go_wp2_with (go_at_call 30; refine HC.out.mono ?_; rintro e w' ⟨hb, v, rfl, hv⟩; have HB := Lib.hid hb; have HV := Lib.hid hv; clear hb hv)
      go_ret2
      exact ⟨_, rfl, Kd.R_lower (Kd.R_of_own (enc := Value.int .i64) HV.out (fun _ _ => trivial)) HA.out.size, HA.out.trans (HB.out.mono HA.out.size)⟩
    | budget o =>
      cases hr
      go_enter Try.func17, Try.ntmps17
      go_wp2_with (go_at_call 30; refine HC.out.mono ?_; rintro e w' ⟨hb, v, rfl, rfl⟩; have HB := Lib.hid hb; clear hb)
      go_ret2
      exact ⟨_, rfl, Kd.R_nil _ _ _ _ _, HA.out.trans (HB.out.mono HA.out.size)⟩
    | found x o =>
      have h9 : False := by
        obtain ⟨_, _, _, hR, _⟩ := HC.out []
        obtain ⟨_, _, hh⟩ := hR
        exact hh
      exact h9.elim

set_option maxHeartbeats 1000000 in
theorem ldist_is (h : GAt g w A0 c0 A1 c1 A2 c2) (hl : g.large = false) (s : Int) (hs : g.has s = true) (key : ByteArray) (budget : Int) (d c : Int) (hr : dres g s key budget = (d, c)) :
    Calls Try.prog 18 #[.agg #[.slice A0 g.E.length c0, .slice A1 g.K.length c1, .slice A2 g.Gs.length c2], .int .i64 s, .string key, .int .i64 budget] w fun en w' =>
      en = .returned (.tuple #[.int .i64 d, .int .i64 c]) ∧ Below w.heap.size w w' := by
  have HA := Lib.hid (show Below w.heap.size w (w.alloc (.cells #[.slice A0 g.E.length c0, .slice A1 g.K.length c1, .slice A2 g.Gs.length c2] 26)) from (Below.refl _ _).alloc (Nat.le_refl _) _)
  by_cases hb : budget < 1 ∨ 1048576 < budget
  · unfold dres at hr
    rw [if_pos hb] at hr
    cases hr
    clear h
    go_enter Try.func18, Try.ntmps18
    go_wp2_with (go_at_call 31; refine (I.dist_bad _ _ key budget _ hb).mono ?_; rintro e w' ⟨rfl, hb2⟩; have HB := Lib.hid hb2; clear hb2)
    go_ret2
    exact ⟨rfl, HA.out.trans (HB.out.mono HA.out.size)⟩
  · have HP := Lib.hid (prc (h.below HA.out) hl)
    have hrun := out_run g hl (fun t => g.key t == key) budget.toNat s hs
    have HC := Lib.hid (I.dist_any g.prob (fun s => g.has s = true) (agg3 g A0 c0 A1 c1 A2 c2) s key budget.toNat _ HP.out (by omega) (by omega) hs 200 _ hrun)
    have eb : ((budget.toNat : Nat) : Int) = budget := by omega
    rw [eb] at HC
    clear h HP hrun eb
    unfold dres at hr
    rw [if_neg hb] at hr
    clear hb
    generalize g.out (fun t => g.key t == key) budget.toNat s = out at HC hr
    cases out with
    | notFound o =>
      cases hr
      go_enter Try.func18, Try.ntmps18
      go_wp2_with (go_at_call 31; refine HC.out.mono ?_; rintro e w' ⟨hb, rfl⟩; have HB := Lib.hid hb; clear hb)
      go_ret2
      exact ⟨rfl, HA.out.trans (HB.out.mono HA.out.size)⟩
    | budget o =>
      cases hr
      go_enter Try.func18, Try.ntmps18
      go_wp2_with (go_at_call 31; refine HC.out.mono ?_; rintro e w' ⟨hb, rfl⟩; have HB := Lib.hid hb; clear hb)
      go_ret2
      exact ⟨rfl, HA.out.trans (HB.out.mono HA.out.size)⟩
    | found x o =>
      cases hr
      go_enter Try.func18, Try.ntmps18
      go_wp2_with (go_at_call 31; refine HC.out.mono ?_; rintro e w' ⟨hb, rfl⟩; have HB := Lib.hid hb; clear hb)
      go_ret2
      exact ⟨rfl, HA.out.trans (HB.out.mono HA.out.size)⟩
theorem same_any {a b : List Int} {B0 B1 : Option Addr} {d0 d1 : Nat} (ha : (Kd.int .i64).C w B0 a.length a) (la : a.length ≤ d0) (hb : (Kd.int .i64).C w B1 b.length b) (lb : b.length ≤ d1) (hlen : a.length < 1000000000) (r : Bool) (hr : decide (a = b) = r) :
    Calls Try.prog 16 #[.slice B0 a.length d0, .slice B1 b.length d1] w fun e w' => e = .returned (.bool r) ∧ Drawn0 w w' := by
  obtain ⟨k, hk⟩ := same_f a b hlen
  rw [hr] at hk
  exact pentaglotlaw40_same.calls k B0 d0 a B1 d1 b r w ha la hb lb hk
end
end Go.Proofs.Ytipdejalohmkpaa.Gr

/- The document's example is found. -/
namespace Go.Proofs.Ytipdejalohmkpaa.Gr
open Go.RowKit Go.Proofs.YtipdejalohmkpaaW.PrintWords Go.Proofs.YtipdejalohmkpaaW.PrintLast Go.Proofs.YtipdejalohmkpaaW.PrintMore PBestfirstDistances

def ex : Gph := ⟨[[⟨1, 4⟩, ⟨2, 1⟩], [⟨3, 1⟩], [⟨1, 2⟩, ⟨3, 9⟩], []], [], [3]⟩
theorem ex_small : ex.large = false := by kernel_rfl
theorem ex1 : sres ex 0 3 = ([0, 2, 1, 3], 4, 0) := by kernel_rfl
theorem ex2 : sres ex 0 2 = ([], 0, 7) := by kernel_rfl
theorem ex3 : rres ex 0 10 = ([0, 2, 1, 3], 0) := by kernel_rfl
theorem ex4 : dres ex 0 ⟨#[49]⟩ 10 = (3, 0) := by kernel_rfl
theorem ex5 : dres ex 1 ⟨#[48]⟩ 10 = (0, 4) := by kernel_rfl
theorem ex6 : sres ex 0 0 = ([], 0, 1) := by kernel_rfl
theorem ex_has0 : ex.has 0 = true := by kernel_rfl
theorem ex_has1 : ex.has 1 = true := by kernel_rfl

/-- The example's graph lies in block gb of w. -/
def ExAt (gb : Nat) (w : World) (A0 : Option Addr) (c0 : Nat) (A1 : Option Addr) (c1 : Nat) (A2 : Option Addr) (c2 : Nat) : Prop :=
  w.heap[gb]? = some (.cells #[.slice A0 ex.E.length c0, .slice A1 ex.K.length c1, .slice A2 ex.Gs.length c2] 26 (0, 0)) ∧ GAt ex w A0 c0 A1 c1 A2 c2
theorem ExAt.below {gb : Nat} {w w' : World} {A0 A1 A2 : Option Addr} {c0 c1 c2 : Nat} (h : ExAt gb w A0 c0 A1 c1 A2 c2) (hb : Below w.heap.size w w') : ExAt gb w' A0 c0 A1 c1 A2 c2 :=
  ⟨(hb.block gb (Array.getElem?_eq_some_iff.1 h.1).1).trans h.1, h.2.below hb⟩
theorem ExAt.cells {gb : Nat} {w : World} {A0 A1 A2 : Option Addr} {c0 c1 c2 : Nat} (h : ExAt gb w A0 c0 A1 c1 A2 c2) : w.cell? ⟨gb, 0, none⟩ = some (.slice A0 ex.E.length c0) ∧ w.cell? ⟨gb, 1, none⟩ = some (.slice A1 ex.K.length c1) ∧ w.cell? ⟨gb, 2, none⟩ = some (.slice A2 ex.Gs.length c2) := by
  have h1 := h.1
  refine ⟨?_, ?_, ?_⟩ <;> (unfold World.cell?; rw [h1]; rfl)

theorem lit4 (w : World) (a b c d : Int) : (Kd.int .i64).C (w.alloc (.cells #[.int .i64 a, .int .i64 b, .int .i64 c, .int .i64 d] 3)) (some ⟨w.heap.size, 0, none⟩) 4 [a, b, c, d] := by
  have ho : (w.alloc (.cells #[.int .i64 a, .int .i64 b, .int .i64 c, .int .i64 d] 3)).ownsRow 0 3 1 (.slice (some ⟨w.heap.size, 0, none⟩) 4 4) [a, b, c, d].length (encs (Value.int .i64) [a, b, c, d]) :=
    ⟨rfl, .inr ⟨w.heap.size, 4, #[.int .i64 a, .int .i64 b, .int .i64 c, .int .i64 d], rfl, Nat.zero_le _, by show (w.heap.push _)[w.heap.size]? = _; simp, by simp, by simp [maxLen], rfl, rfl⟩⟩
  exact (Kd.R_reads' (Kd.R_of_own (h1 := fun _ => rfl) ho (ok := fun _ => True) (fun _ _ => trivial))).2.2

set_option maxRecDepth 1000000 in
set_option maxHeartbeats 4000000 in
theorem awake_any (w : World) : Calls Try.prog 11 #[] w fun e w' => e = .returned (.bool true) ∧ Below w.heap.size w w' := by
  go_enter Try.func11, Try.ntmps11
  go_wp2_with fail
  refine (pentaglotlaw40_example.calls ex.E ex.K ex.Gs w rfl).mono ?_
  rintro e w1 ⟨v0, v1, v2, rfl, hv0, hv1, hv2, hb⟩
  obtain ⟨A0, c0, rfl, l0, h0⟩ := Kd.N_reads hv0
  obtain ⟨A1, c1, rfl, l1, h1⟩ := Kd.R_reads hv1
  obtain ⟨A2, c2, rfl, l2, h2⟩ := Kd.R_reads hv2
  have HB := Lib.hid hb
  have EX0 : Hid (ExAt w1.heap.size (w1.alloc (.cells #[.slice A0 ex.E.length c0, .slice A1 ex.K.length c1, .slice A2 ex.Gs.length c2] 26)) A0 c0 A1 c1 A2 c2) :=
    ⟨by show (w1.heap.push _)[w1.heap.size]? = _; simp, GAt.alloc ⟨h0, l0, h1, l1, h2, l2⟩ _⟩
  clear hv0 hv1 hv2 h0 h1 h2 hb
  go_wp2_with fail
  have HBB := Lib.hid (HB.out.alloc HB.out.size (.cells #[.slice A0 ex.E.length c0, .slice A1 ex.K.length c1, .slice A2 ex.Gs.length c2] 26))
  refine (lsearch_is EX0.out.2 ex_small 0 ex_has0 3 _ _ _ ex1).mono ?_
  rintro e y0 ⟨v0, rfl, hv0, hb0⟩
  obtain ⟨B0, d0, rfl, m0, g0⟩ := Kd.R_reads hv0
  clear hv0
  have EX1 := Lib.hid (EX0.out.below hb0)
  have HB0 := Lib.hid (below_then HBB.out HBB.out.size hb0)
  have V2_0 := Lib.hid g0
  clear g0
  clear hb0
  obtain ⟨q0a, q0b, q0c⟩ := EX1.out.cells
  go_wp2_with fail
  refine (lsearch_is EX1.out.2 ex_small 0 ex_has0 2 _ _ _ ex2).mono ?_
  rintro e y1 ⟨v1, rfl, hv1, hb1⟩
  obtain ⟨B1, d1, rfl, m1, g1⟩ := Kd.R_reads hv1
  clear hv1
  have EX2 := Lib.hid (EX1.out.below hb1)
  have HB1 := Lib.hid (below_then HB0.out HB0.out.size hb1)
  have V2_1 := Lib.hid (Kd.C_below V2_0.out hb1)
  clear g1
  clear hb1
  clear q0a q0b q0c
  obtain ⟨q1a, q1b, q1c⟩ := EX2.out.cells
  go_wp2_with fail
  refine (lreach_is EX2.out.2 ex_small 0 ex_has0 10 _ _ ex3).mono ?_
  rintro e y2 ⟨v2, rfl, hv2, hb2⟩
  obtain ⟨B2, d2, rfl, m2, g2⟩ := Kd.R_reads hv2
  clear hv2
  have EX3 := Lib.hid (EX2.out.below hb2)
  have HB2 := Lib.hid (below_then HB1.out HB1.out.size hb2)
  have V2_2 := Lib.hid (Kd.C_below V2_1.out hb2)
  have V8_2 := Lib.hid g2
  clear g2
  clear hb2
  clear q1a q1b q1c
  obtain ⟨q2a, q2b, q2c⟩ := EX3.out.cells
  go_wp2_with fail
  refine (ldist_is EX3.out.2 ex_small 0 ex_has0 ⟨#[49]⟩ 10 _ _ ex4).mono ?_
  rintro e y3 ⟨rfl, hb3⟩
  have EX4 := Lib.hid (EX3.out.below hb3)
  have HB3 := Lib.hid (below_then HB2.out HB2.out.size hb3)
  have V2_3 := Lib.hid (Kd.C_below V2_2.out hb3)
  have V8_3 := Lib.hid (Kd.C_below V8_2.out hb3)
  clear hb3
  clear q2a q2b q2c
  obtain ⟨q3a, q3b, q3c⟩ := EX4.out.cells
  go_wp2_with fail
  refine (ldist_is EX4.out.2 ex_small 1 ex_has1 ⟨#[48]⟩ 10 _ _ ex5).mono ?_
  rintro e y4 ⟨rfl, hb4⟩
  have EX5 := Lib.hid (EX4.out.below hb4)
  have HB4 := Lib.hid (below_then HB3.out HB3.out.size hb4)
  have V2_4 := Lib.hid (Kd.C_below V2_3.out hb4)
  have V8_4 := Lib.hid (Kd.C_below V8_3.out hb4)
  clear hb4
  clear q3a q3b q3c
  obtain ⟨q4a, q4b, q4c⟩ := EX5.out.cells
  go_wp2_with fail
  refine (lsearch_is EX5.out.2 ex_small 0 ex_has0 0 _ _ _ ex6).mono ?_
  rintro e y5 ⟨v5, rfl, hv5, hb5⟩
  obtain ⟨B5, d5, rfl, m5, g5⟩ := Kd.R_reads hv5
  clear hv5
  have EX6 := Lib.hid (EX5.out.below hb5)
  have HB5 := Lib.hid (below_then HB4.out HB4.out.size hb5)
  have V2_5 := Lib.hid (Kd.C_below V2_4.out hb5)
  have V8_5 := Lib.hid (Kd.C_below V8_4.out hb5)
  clear g5
  clear hb5
  clear q4a q4b q4c
  obtain ⟨q5a, q5b, q5c⟩ := EX6.out.cells
  go_wp2_with fail
  refine (same_any (a := [0, 2, 1, 3]) (b := [0, 2, 1, 3]) (Kd.C_below V2_5.out (below_alloc (Below.refl _ _) _)) m0 (lit4 y5 0 2 1 3) (Nat.le_refl 4) (by decide) true rfl).mono ?_
  rintro e z1 ⟨rfl, hd1⟩
  have HZ := Lib.hid ((HB5.out.alloc HB5.out.size _).trans (hd1.below.mono (Nat.le_trans HB5.out.size (by simp))))
  have HV := Lib.hid (Kd.C_below (Kd.C_below V8_5.out (below_alloc (Below.refl _ _) _)) hd1.below)
  clear hd1 q5a q5b q5c
  go_wp2_with fail
  refine (same_any (a := [0, 2, 1, 3]) (b := [0, 2, 1, 3]) (Kd.C_below HV.out (below_alloc (Below.refl _ _) _)) m2 (lit4 z1 0 2 1 3) (Nat.le_refl 4) (by decide) true rfl).mono ?_
  rintro e z2 ⟨rfl, hd2⟩
  have HZ2 := Lib.hid ((HZ.out.alloc HZ.out.size _).trans (hd2.below.mono (Nat.le_trans HZ.out.size (by simp))))
  clear hd2
  go_wp2
  go_ret
  exact ⟨rfl, HZ2.out⟩
end Go.Proofs.Ytipdejalohmkpaa.Gr

/- Reading an argument's data as lists and numbers, kind by kind. -/
namespace Go.Proofs.Ytipdejalohmkpaa.Rd
open Go.RowKit Go.ChangeShapes Go.Deep Go.Proofs.YtipdejalohmkpaaW.PrintWords

variable {P : Program}
/-- Whatever reads as a datum of type t is of the kind d. -/
def Opens {α : Type} (P : Program) (t : TypeId) (d : Kd α) : Prop :=
  ∀ (H : Type) (enc : TypeId × Value → H) (w : World) (fuel : Nat) (cs : List Value) (x : DataW H × List MemPlace), DataW.trod enc P w 0 (fun _ => true) true fuel t cs = some x → ∃ y : α, d.K w y cs

theorem op_int {t : TypeId} {k : IntKind} (ht : P.underlying t = some (.int k)) : Opens P t (Kd.int k) := by
  intro H enc w fuel cs x h
  cases fuel with
  | zero => simp [DataW.trod] at h
  | succ n =>
    unfold DataW.trod at h
    rw [ht] at h
    split at h <;> simp_all
    exact ⟨_, rfl⟩
theorem op_string {t : TypeId} (ht : P.underlying t = some .string) : Opens P t Kd.string := by
  intro H enc w fuel cs x h
  cases fuel with
  | zero => simp [DataW.trod] at h
  | succ n =>
    unfold DataW.trod at h
    rw [ht] at h
    split at h <;> simp_all
    exact ⟨_, rfl⟩
theorem choose_list {α : Type} {Q : Nat → α → Prop} : ∀ n, (∀ i, i < n → ∃ y, Q i y) → ∃ ys : List α, ys.length = n ∧ ∀ i y, ys[i]? = some y → Q i y
  | 0, _ => ⟨[], rfl, fun i y h => by simp at h⟩
  | n + 1, h => by
    obtain ⟨ys, hl, hy⟩ := choose_list n (fun i hi => h i (by omega))
    obtain ⟨z, hz⟩ := h n (by omega)
    refine ⟨ys ++ [z], by simp [hl], fun i y hi => ?_⟩
    by_cases c : i < n
    · rw [List.getElem?_append_left (by omega)] at hi; exact hy i y hi
    · have : i = n := by
        have := (List.getElem?_eq_some_iff.1 hi).1
        simp at this; omega
      subst this
      rw [List.getElem?_append_right (by omega)] at hi
      simp [hl] at hi
      subst hi; exact hz
theorem op_slice {α : Type} {t e : TypeId} {d : Kd α} (ht : P.underlying t = some (.slice e)) (hc : P.cellsOf e = d.sz) (hd : Opens P e d) : Opens P t (Kd.slice e d) := by
  intro H enc w fuel cs x h
  rcases DataW.trod_slice ht h with ⟨rfl, _⟩ | ⟨a, len, cap, elems, rest, n, _, rfl, _, _, hl, hm, hlen, hel, _⟩
  · exact ⟨[], none, 0, rfl, Nat.le_refl _, Kd.C_nil d w⟩
  · have hQ : ∀ i, i < len → ∃ y : α, ∃ c : List Value, c.length = d.sz ∧ d.K w y c ∧ ∀ j u, c[j]? = some u → w.cell? (a.add (i * d.sz + j)) = some u := by
      intro i hi
      have h1 := hel i hi
      rw [List.getElem?_eq_getElem (by omega), Option.bind_eq_some_iff] at h1
      obtain ⟨c, hc1, hc2⟩ := h1
      obtain ⟨y, hy⟩ := hd H enc w n c _ hc2
      obtain ⟨_, hcl, hcell⟩ := World.cells?_some hc1
      refine ⟨y, c, by rw [hcl, hc], hy, fun j u hj => ?_⟩
      have := hcell j (by rw [← hcl]; exact (List.getElem?_eq_some_iff.1 hj).1)
      rw [← hc]
      rw [Addr.add_add] at this
      rw [this, hj]
    obtain ⟨ys, hyl, hys⟩ := choose_list len hQ
    subst hyl
    refine ⟨ys, some a, cap, rfl, hl, rfl, by unfold maxLen at hm; omega, fun _ => ⟨a, rfl, fun j p hj => hys j p hj⟩⟩
theorem op_struct2 {α β : Type} {t : TypeId} {f0 f1 : Field} {a : Kd α} {b : Kd β} (ht : P.underlying t = some (.struct #[f0, f1])) (h0 : Opens P f0.type a) (h1 : Opens P f1.type b) (o0 : f0.offset = 0) (c0 : P.cellsOf f0.type = a.sz) (o1 : f1.offset = a.sz) (c1 : P.cellsOf f1.type = b.sz) (ct : P.cellsOf t = a.sz + b.sz) : Opens P t (Kd.pair a b) := by
  intro H enc w fuel cs x h
  obtain ⟨y0, y1, n, _, hl, g0, g1⟩ := trod_struct2 ht h
  obtain ⟨z0, k0⟩ := h0 H enc w n _ _ g0
  obtain ⟨z1, k1⟩ := h1 H enc w n _ _ g1
  rw [o0, c0, List.drop_zero] at k0
  rw [o1, c1] at k1
  refine ⟨(z0, z1), cs.take a.sz, cs.drop a.sz, ?_, k0, ?_⟩
  · exact (List.take_append_drop _ _).symm
  · rw [List.take_of_length_le (by simp; omega)] at k1
    exact k1
theorem op_struct3 {α β γ : Type} {t : TypeId} {f0 f1 f2 : Field} {a : Kd α} {b : Kd β} {c : Kd γ} (ht : P.underlying t = some (.struct #[f0, f1, f2])) (h0 : Opens P f0.type a) (h1 : Opens P f1.type b) (h2 : Opens P f2.type c) (o0 : f0.offset = 0) (c0 : P.cellsOf f0.type = a.sz) (o1 : f1.offset = a.sz) (c1 : P.cellsOf f1.type = b.sz) (o2 : f2.offset = a.sz + b.sz) (c2 : P.cellsOf f2.type = c.sz) (ct : P.cellsOf t = a.sz + (b.sz + c.sz)) : Opens P t (Kd.pair a (Kd.pair b c)) := by
  intro H enc w fuel cs x h
  obtain ⟨y0, y1, y2, n, _, hl, g0, g1, g2⟩ := trod_struct3 ht h
  obtain ⟨z0, k0⟩ := h0 H enc w n _ _ g0
  obtain ⟨z1, k1⟩ := h1 H enc w n _ _ g1
  obtain ⟨z2, k2⟩ := h2 H enc w n _ _ g2
  rw [o0, c0, List.drop_zero] at k0
  rw [o1, c1] at k1
  rw [o2, c2] at k2
  refine ⟨(z0, z1, z2), cs.take a.sz, cs.drop a.sz, (List.take_append_drop _ _).symm, k0, (cs.drop a.sz).take b.sz, (cs.drop a.sz).drop b.sz, (List.take_append_drop _ _).symm, k1, ?_⟩
  rw [List.drop_drop]
  rw [List.take_of_length_le (by simp; omega)] at k2
  exact k2
theorem op_iso {α β : Type} {t : TypeId} {d : Kd α} (f : β → α) (g : α → β) (hfg : ∀ x, f (g x) = x) (h : Opens P t d) : Opens P t (Kd.iso d f) := by
  intro H enc w fuel cs x hx
  obtain ⟨y, hy⟩ := h H enc w fuel cs x hx
  exact ⟨g y, by show d.K w (f (g y)) cs; rw [hfg]; exact hy⟩

end Go.Proofs.Ytipdejalohmkpaa.Rd

/- What the laws share: the graph in its block, whether it is large, and its opening. -/
namespace Go.Proofs.Ytipdejalohmkpaa.Gr
open Go.RowKit Go.Proofs.YtipdejalohmkpaaW.PrintWords Go.Proofs.YtipdejalohmkpaaW.PrintLast Go.Proofs.YtipdejalohmkpaaW.PrintMore PBestfirstDistances Rd

theorem large_l1 (xs : List ByteArray) (hx : xs.length ≤ 20) : ∀ (d k i : Nat), xs.length - i = d → i ≤ xs.length → d < k → pentaglotref40_Large.l1 k xs (xs.length : Int) (i : Int) = some ((xs.drop i).any fun s => decide (s.size > 20)) := by
  intro d
  induction d with
  | zero =>
    intro k i hd hi hk
    obtain ⟨k, rfl⟩ : ∃ m, k = m + 1 := ⟨k - 1, by omega⟩
    rw [pentaglotref40_Large.l1, if_neg (by omega), List.drop_eq_nil_of_le (by omega)]
    rfl
  | succ d ih =>
    intro k i hd hi hk
    obtain ⟨k, rfl⟩ : ∃ m, k = m + 1 := ⟨k - 1, by omega⟩
    have hlt : i < xs.length := by omega
    have c1 : (i : Int) < (xs.length : Int) := by omega
    have c0 : 0 ≤ (i : Int) := by omega
    have e1 := ih k (i + 1) (by omega) (by omega) (by omega)
    have hr : rdOf ByteArray.empty xs (i : Int) = xs[i] := by simp [rdOf, hlt]
    have hw : wrap64 ((i : Int) + 1) = ((i + 1 : Nat) : Int) := by rw [w64 (by omega) (by omega)]; omega
    rw [pentaglotref40_Large.l1, if_pos c1, if_pos c0, if_pos c1, hr, hw, e1, List.drop_eq_getElem_cons hlt, List.any_cons]
    by_cases c : xs[i].size > 20
    · rw [if_pos (by exact_mod_cast c)]; simp [c]
    · rw [if_neg (by exact_mod_cast c)]; simp [c]
theorem large_l0 (g : Gph) (hE : g.E.length ≤ 12) (hK : g.K.length ≤ 20) : ∀ (d k i : Nat), g.E.length - i = d → i ≤ g.E.length → d + 30 < k →
    pentaglotref40_Large.l0 k g.E (g.E.length : Int) (i : Int) g.E g.K g.Gs = some (((g.E.drop i).any fun l => decide (l.length > 8)) || g.K.any fun s => decide (s.size > 20)) := by
  intro d
  induction d with
  | zero =>
    intro k i hd hi hk
    obtain ⟨k, rfl⟩ : ∃ m, k = m + 1 := ⟨k - 1, by omega⟩
    have := large_l1 g.K hK g.K.length k 0 (by omega) (by omega) (by omega)
    rw [show ((0 : Nat) : Int) = 0 from rfl, List.drop_zero] at this
    rw [pentaglotref40_Large.l0, if_neg (by omega), List.drop_eq_nil_of_le (by omega), this]
    rfl
  | succ d ih =>
    intro k i hd hi hk
    obtain ⟨k, rfl⟩ : ∃ m, k = m + 1 := ⟨k - 1, by omega⟩
    have hlt : i < g.E.length := by omega
    have c1 : (i : Int) < (g.E.length : Int) := by omega
    have c0 : 0 ≤ (i : Int) := by omega
    have e1 := ih k (i + 1) (by omega) (by omega) (by omega)
    have hr : rd_L2 g.E (i : Int) = g.E[i] := by simp [rd_L2, hlt]
    have hw : wrap64 ((i : Int) + 1) = ((i + 1 : Nat) : Int) := by rw [w64 (by omega) (by omega)]; omega
    rw [pentaglotref40_Large.l0, if_pos c1, if_pos c0, if_pos c1, hr, hw, e1, List.drop_eq_getElem_cons hlt, List.any_cons]
    by_cases c : g.E[i].length > 8
    · rw [if_pos (by exact_mod_cast c)]; simp [c]
    · rw [if_neg (by exact_mod_cast c)]; simp [c]
theorem large_f (g : Gph) : ∃ k, pentaglotref40_Large.f k g.E g.K g.Gs = some g.large := by
  refine ⟨100, ?_⟩
  unfold pentaglotref40_Large.f Gph.large
  by_cases c1 : g.E.length > 12
  · rw [if_pos (by exact_mod_cast c1), pentaglotref40_Large.j0, if_pos rfl]; simp [c1]
  · rw [if_neg (by exact_mod_cast c1)]
    by_cases c2 : g.K.length > 20
    · rw [if_pos (by exact_mod_cast c2), pentaglotref40_Large.j0, if_pos rfl]; simp [c2]
    · rw [if_neg (by exact_mod_cast c2)]
      by_cases c3 : g.Gs.length > 20
      · rw [pentaglotref40_Large.j0, if_pos (by rw [decide_eq_true_iff]; exact_mod_cast c3)]; simp [c3]
      · rw [pentaglotref40_Large.j0, if_neg (by rw [decide_eq_true_iff]; exact_mod_cast c3)]
        have := large_l0 g (by omega) (by omega) g.E.length 99 0 (by omega) (by omega) (by omega)
        rw [show ((0 : Nat) : Int) = 0 from rfl, List.drop_zero] at this
        rw [this]
        simp [c1, c2, c3]

/-- A graph lies in block gb of w. -/
structure GB (g : Gph) (gb : Nat) (w : World) (A0 : Option Addr) (c0 : Nat) (A1 : Option Addr) (c1 : Nat) (A2 : Option Addr) (c2 : Nat) : Prop where
  blk : w.heap[gb]? = some (.cells #[.slice A0 g.E.length c0, .slice A1 g.K.length c1, .slice A2 g.Gs.length c2] 26 (0, 0))
  at_ : GAt g w A0 c0 A1 c1 A2 c2
theorem GB.below {g : Gph} {gb : Nat} {w w' : World} {A0 A1 A2 : Option Addr} {c0 c1 c2 : Nat} (h : GB g gb w A0 c0 A1 c1 A2 c2) (hb : Below w.heap.size w w') : GB g gb w' A0 c0 A1 c1 A2 c2 :=
  ⟨(hb.block gb (Array.getElem?_eq_some_iff.1 h.1).1).trans h.1, h.2.below hb⟩
theorem GB.cells {g : Gph} {gb : Nat} {w : World} {A0 A1 A2 : Option Addr} {c0 c1 c2 : Nat} (h : GB g gb w A0 c0 A1 c1 A2 c2) : w.cell? ⟨gb, 0, none⟩ = some (.slice A0 g.E.length c0) ∧ w.cell? ⟨gb, 1, none⟩ = some (.slice A1 g.K.length c1) ∧ w.cell? ⟨gb, 2, none⟩ = some (.slice A2 g.Gs.length c2) := by
  have h1 := h.1
  refine ⟨?_, ?_, ?_⟩ <;> (unfold World.cell?; rw [h1]; rfl)
theorem GB.make {g : Gph} {w : World} {A0 A1 A2 : Option Addr} {c0 c1 c2 : Nat} (h : GAt g w A0 c0 A1 c1 A2 c2) : GB g w.heap.size (w.alloc (.cells #[.slice A0 g.E.length c0, .slice A1 g.K.length c1, .slice A2 g.Gs.length c2] 26)) A0 c0 A1 c1 A2 c2 :=
  ⟨by show (w.heap.push _)[w.heap.size]? = _; simp, h.alloc _⟩
section
variable {g : Gph} {w : World} {A0 A1 A2 : Option Addr} {c0 c1 c2 : Nat}
theorem glarge_is (h : GAt g w A0 c0 A1 c1 A2 c2) (b : Bool) (hb : g.large = b) :
    Calls Try.prog 12 #[.agg #[.slice A0 g.E.length c0, .slice A1 g.K.length c1, .slice A2 g.Gs.length c2]] w fun e w' => e = .returned (.bool b) ∧ Below w.heap.size w w' := by
  subst hb
  obtain ⟨k, hk⟩ := large_f g
  exact pentaglotref40_Large.calls k A0 c0 g.E A1 c1 g.K A2 c2 g.Gs g.large w h.h0 h.l0 h.h1 h.l1 h.h2 h.l2 hk
theorem ghas_is (h : GAt g w A0 c0 A1 c1 A2 c2) (s : Int) (b : Bool) (hb : g.has s = b) :
    Calls Try.prog 13 #[.agg #[.slice A0 g.E.length c0, .slice A1 g.K.length c1, .slice A2 g.Gs.length c2], .int .i64 s] w fun e w' => e = .returned (.bool b) ∧ Below w.heap.size w w' := by
  subst hb
  exact ghas_any h s
theorem gplain_is (h : GAt g w A0 c0 A1 c1 A2 c2) (b : Bool) (hb : g.plain = b) :
    Calls Try.prog 19 #[.agg #[.slice A0 g.E.length c0, .slice A1 g.K.length c1, .slice A2 g.Gs.length c2]] w fun e w' => e = .returned (.bool b) ∧ Below w.heap.size w w' := by
  subst hb
  exact pentaglotlaw40_plain.calls A0 c0 g.E A1 c1 g.K A2 c2 g.Gs g.plain w h.h0 h.l0 h.h1 h.l1 h.h2 h.l2 (by unfold pentaglotlaw40_plain.f Gph.plain; congr 1; rw [Bool.eq_iff_iff]; simp)
end
theorem op_edge : Opens Try.prog 51 k51 :=
  op_iso (fun x : S51 => (x.f0, x.f1)) (fun y => ⟨y.1, y.2⟩) (fun _ => rfl) (op_struct2 Try.underlying51 (op_int Try.underlying3) (op_int Try.underlying3) rfl (by kernel_rfl) rfl (by kernel_rfl) (by kernel_rfl))
theorem op_edges : Opens Try.prog 22 (Kd.slice 48 (Kd.slice 51 k51)) := op_slice Try.underlying22 (by kernel_rfl) (op_slice Try.underlying48 (by kernel_rfl) op_edge)
theorem op_keys : Opens Try.prog 23 (Kd.slice 9 Kd.string) := op_slice Try.underlying23 (by kernel_rfl) (op_string Try.underlying9)
theorem op_goals : Opens Try.prog 24 (Kd.slice 3 (Kd.int .i64)) := op_slice Try.underlying24 (by kernel_rfl) (op_int Try.underlying3)
/-- Whatever reads as a graph is one. -/
theorem op_graph : Opens Try.prog 26 (Kd.pair (Kd.slice 48 (Kd.slice 51 k51)) (Kd.pair (Kd.slice 9 Kd.string) (Kd.slice 3 (Kd.int .i64)))) :=
  op_struct3 Try.underlying26 op_edges op_keys op_goals rfl (by kernel_rfl) rfl (by kernel_rfl) rfl (by kernel_rfl) (by kernel_rfl)
set_option maxRecDepth 100000 in
theorem open_graph {H : Type} {enc : TypeId × Value → H} {W : World} {r : Reach} {b0 : Nat} {v : Value} {d : DataW H} {p : List MemPlace} (hv : Value.okWide Try.prog W r b0 26 v) (h : DataW.Trod enc Try.prog W 0 (fun _ => true) true 26 v d p) :
    ∃ (g : Gph) (A0 : Option Addr) (c0 : Nat) (A1 : Option Addr) (c1 : Nat) (A2 : Option Addr) (c2 : Nat), v = .agg #[.slice A0 g.E.length c0, .slice A1 g.K.length c1, .slice A2 g.Gs.length c2] ∧ GAt g W A0 c0 A1 c1 A2 c2 := by
  obtain ⟨v0, v1, v2, y0, y1, y2, n, rfl, _, _, t0, t1, t2⟩ := Joins.open_agg3 Try.underlying26 (by kernel_rfl) (by kernel_rfl) hv h
  obtain ⟨E, A0, c0, e0, l0, h0⟩ := op_edges H enc W n _ _ t0
  obtain ⟨K, A1, c1, e1, l1, h1⟩ := op_keys H enc W n _ _ t1
  obtain ⟨G, A2, c2, e2, l2, h2⟩ := op_goals H enc W n _ _ t2
  cases e0; cases e1; cases e2
  exact ⟨⟨E, K, G⟩, A0, c0, A1, c1, A2, c2, rfl, ⟨h0, l0, h1, l1, h2, l2⟩⟩
end Go.Proofs.Ytipdejalohmkpaa.Gr

/- The states of the problem whose states are keys. -/
namespace Go.Proofs.Ytipdejalohmkpaa.Gr
open Go.RowKit Go.Proofs.YtipdejalohmkpaaW.PrintWords Go.Proofs.YtipdejalohmkpaaW.PrintLast Go.Proofs.YtipdejalohmkpaaW.PrintMore PBestfirstDistances
variable {g : Gph} {w : World} {A0 A1 A2 : Option Addr} {c0 c1 c2 : Nat}
def stateFrom (g : Gph) (key : ByteArray) : Nat → Nat → Int
  | 0, _ => -1
  | d + 1, i => if g.key (i : Nat) = key then (i : Nat) else stateFrom g key d (i + 1)
def WdRel (g : Gph) (key : ByteArray) (W : World) (v10 : Value) (wr : World) : Prop :=
  ∃ i : Nat, i ≤ g.E.length ∧ v10 = .int .i64 i ∧ stateFrom g key g.E.length 0 = stateFrom g key (g.E.length - i) i ∧ Below W.heap.size W wr
/-- A graph lies in the box of a problem of keys, in block gb. -/
structure WB (g : Gph) (gb : Nat) (w : World) (A0 : Option Addr) (c0 : Nat) (A1 : Option Addr) (c1 : Nat) (A2 : Option Addr) (c2 : Nat) : Prop where
  blk : w.heap[gb]? = some (.cells #[.slice A0 g.E.length c0, .slice A1 g.K.length c1, .slice A2 g.Gs.length c2] 59 (0, 0))
  at_ : GAt g w A0 c0 A1 c1 A2 c2
theorem WB.below {gb : Nat} {w' : World} (h : WB g gb w A0 c0 A1 c1 A2 c2) (hb : Below w.heap.size w w') : WB g gb w' A0 c0 A1 c1 A2 c2 :=
  ⟨(hb.block gb (Array.getElem?_eq_some_iff.1 h.1).1).trans h.1, h.2.below hb⟩
theorem WB.cells {gb : Nat} (h : WB g gb w A0 c0 A1 c1 A2 c2) : w.cell? ⟨gb, 0, none⟩ = some (.slice A0 g.E.length c0) ∧ w.cell? ⟨gb, 1, none⟩ = some (.slice A1 g.K.length c1) ∧ w.cell? ⟨gb, 2, none⟩ = some (.slice A2 g.Gs.length c2) := by
  have h1 := h.1
  refine ⟨?_, ?_, ?_⟩ <;> (unfold World.cell?; rw [h1]; rfl)
theorem WB.make (h : GAt g w A0 c0 A1 c1 A2 c2) : WB g w.heap.size (w.alloc (.cells #[.slice A0 g.E.length c0, .slice A1 g.K.length c1, .slice A2 g.Gs.length c2] 59)) A0 c0 A1 c1 A2 c2 :=
  ⟨by show (w.heap.push _)[w.heap.size]? = _; simp, h.alloc _⟩
set_option maxRecDepth 1000000 in
set_option maxHeartbeats 1000000 in
theorem wstate_any (h : GAt g w A0 c0 A1 c1 A2 c2) (hl : g.large = false) (key : ByteArray) :
    Calls Try.prog 67 #[.agg #[.slice A0 g.E.length c0, .slice A1 g.K.length c1, .slice A2 g.Gs.length c2], .string key] w fun e w' => e = .returned (.int .i64 (stateFrom g key g.E.length 0)) ∧ Below w.heap.size w w' := by
  have H := Lib.hid h
  have HN := Lib.hid (show g.E.length ≤ 12 by have := dom_len g hl; unfold Gph.dom at this; rwa [List.length_map, List.length_range] at this)
  clear h hl
  have HA := Lib.hid (show Below w.heap.size w (w.alloc (.cells #[.slice A0 g.E.length c0, .slice A1 g.K.length c1, .slice A2 g.Gs.length c2] 59)) from (Below.refl _ _).alloc (Nat.le_refl _) _)
  have HB0 := Lib.hid (WB.make H.out)
  go_enter Try.func67, Try.ntmps67
  go_wp2
  have hI : WdRel g key (w.alloc (.cells #[.slice A0 g.E.length c0, .slice A1 g.K.length c1, .slice A2 g.Gs.length c2] 59)) (.int .i64 0) (w.alloc (.cells #[.slice A0 g.E.length c0, .slice A1 g.K.length c1, .slice A2 g.Gs.length c2] 59)) := ⟨0, Nat.zero_le _, rfl, rfl, Below.refl _ _⟩
  have HI := Lib.hid hI
  clear hI
  generalize w.alloc (.cells #[.slice A0 g.E.length c0, .slice A1 g.K.length c1, .slice A2 g.Gs.length c2] 59) = w1 at HA HB0 HI ⊢
  go_loopw [10] (fun v10 wr => WdRel g key w1 v10 wr) (fun v10 _ => g.E.length - (intOf v10).toNat)
  case atStart => exact HI.out
  case round =>
    obtain ⟨i, hi, rfl, hst, hB⟩ := hrel
    have HB := Lib.hid hB
    have HST := Lib.hid hst
    clear hB hst HI H
    have h12 := HN.out
    by_cases hlt : i < g.E.length
    · have HBw := Lib.hid (HB0.out.below HB.out)
      obtain ⟨q0, q1, q2⟩ := HBw.out.cells
      have HS2 : Hid (stateFrom g key g.E.length 0 = if g.key (i : Int) = key then (i : Int) else stateFrom g key (g.E.length - (i + 1)) (i + 1)) := by
        have h := HST.out
        rw [show g.E.length - i = (g.E.length - (i + 1)) + 1 by omega] at h
        exact Lib.hid h
      clear HST
      go_wp2_with fail
      refine (gkey_any HBw.out.at_ (i : Int) (by omega)).mono ?_
      rintro en w8 ⟨rfl, hb8⟩
      have HB8 := Lib.hid (below_then HB.out HB.out.size hb8)
      clear hb8 q0 q1 q2 HBw
      by_cases he : g.key (i : Int) = key
      · have hb : ((g.key (i : Int)).toList == key.toList) = true := by rw [he]; simp
        have hr := HS2.out
        rw [if_pos he] at hr
        have HR := Lib.hid hr
        clear he hr HS2
        go_wp2
        go_ret
        exact ⟨by rw [HR.out]; rfl, HA.out.trans (HB8.out.mono HA.out.size)⟩
      · have hb : ((g.key (i : Int)).toList == key.toList) = false := by rw [← beq_toListBytes, beq_eq_false_iff_ne]; exact he
        have hr := HS2.out
        rw [if_neg he] at hr
        have HR := Lib.hid hr
        clear he hr HS2
        go_wp2
        go_roundw
        case rel => exact ⟨i + 1, by omega, by go_num, HR.out, HB8.out⟩
        case measure => simp [intOf]; omega
    · obtain rfl : i = g.E.length := by omega
      have hr := HST.out
      rw [Nat.sub_self] at hr
      have HR := Lib.hid hr
      clear hr HST
      go_wp2
      go_ret
      exact ⟨by rw [HR.out]; rfl, HA.out.trans (HB.out.mono HA.out.size)⟩
end Go.Proofs.Ytipdejalohmkpaa.Gr

/- Key and Goal of the problem whose states are keys. -/
namespace Go.Proofs.Ytipdejalohmkpaa.Gr
open Go.RowKit Go.Proofs.YtipdejalohmkpaaW.PrintWords Go.Proofs.YtipdejalohmkpaaW.PrintLast Go.Proofs.YtipdejalohmkpaaW.PrintMore PBestfirstDistances
variable {g : Gph} {w : World} {A0 A1 A2 : Option Addr} {c0 c1 c2 : Nat}
def Gph.st (g : Gph) (key : ByteArray) : Int := stateFrom g key g.E.length 0
set_option maxRecDepth 1000000 in
theorem wkey_any (key : ByteArray) :
    Calls Try.prog 65 #[.agg #[.slice A0 g.E.length c0, .slice A1 g.K.length c1, .slice A2 g.Gs.length c2], .string key] w fun e w' => e = .returned (.string key) ∧ Below w.heap.size w w' := by
  have HA := Lib.hid (show Below w.heap.size w (w.alloc (.cells #[.slice A0 g.E.length c0, .slice A1 g.K.length c1, .slice A2 g.Gs.length c2] 59)) from (Below.refl _ _).alloc (Nat.le_refl _) _)
  go_enter Try.func65, Try.ntmps65
  go_wp2
  go_ret
  exact ⟨rfl, HA.out⟩
set_option maxRecDepth 1000000 in
set_option maxHeartbeats 1000000 in
theorem wgoal_any (h : GAt g w A0 c0 A1 c1 A2 c2) (hl : g.large = false) (key : ByteArray) :
    Calls Try.prog 64 #[.agg #[.slice A0 g.E.length c0, .slice A1 g.K.length c1, .slice A2 g.Gs.length c2], .string key] w fun e w' => e = .returned (.bool (g.goal (g.st key))) ∧ Below w.heap.size w w' := by
  have HL := Lib.hid hl
  have HA := Lib.hid (Below.drew (show Below w.heap.size w (w.alloc (.cells #[.slice A0 g.E.length c0, .slice A1 g.K.length c1, .slice A2 g.Gs.length c2] 59)) from (Below.refl _ _).alloc (Nat.le_refl _) _))
  have HB0 := Lib.hid ((WB.make h).below (Below.drew (Below.refl _ _)))
  clear h hl
  obtain ⟨q0, q1, q2⟩ := HB0.out.cells
  go_enter Try.func64, Try.ntmps64
  go_wp2
  refine start_ (n := 7) (S := fun w' => w'.cell? ⟨w.heap.size, 0, none⟩ = some (.slice A0 g.E.length c0) ∧ w'.cell? ⟨w.heap.size, 1, none⟩ = some (.slice A1 g.K.length c1) ∧ w'.cell? ⟨w.heap.size, 2, none⟩ = some (.slice A2 g.Gs.length c2)) (ds := []) #[false, false, false, false, false, false, false] (by kernel_rfl) rfl rfl ⟨q0, q1, q2⟩ (fun hHeld => ?_)
  clear q0 q1 q2
  generalize (w.alloc (.cells #[.slice A0 g.E.length c0, .slice A1 g.K.length c1, .slice A2 g.Gs.length c2] 59)).drew = w1 at HA HB0 hHeld ⊢
  refine pure_ (i := 0) (N := (some 5)) (v := ?_) (a' := ?_) #[true, false, false, false, false, false, false] rfl rfl (by kernel_rfl) (fun _ _ _ h => h) (Or.inl ⟨by rfl, ?_⟩) ?_ ?_
  rotate_left
  · intro w'
    go_simp
    with_reducible rfl
  rotate_left
  · simp only [Act.put, List.setIfInBounds_toArray, List.set_cons_zero, List.set_cons_succ]
    rfl
  refine take_ (i := 1) (N := (some 6)) (v := ?_) (a' := ?_) #[true, true, false, false, false, false, false] rfl rfl (by kernel_rfl) (fun _ _ _ h => h) (Or.inl ⟨by rfl, ?_⟩) hHeld ?_ ?_
  rotate_left
  · rintro w' ⟨s0, s1, s2⟩
    go_simp
    with_reducible rfl
  rotate_left
  · simp only [Act.put, List.setIfInBounds_toArray, List.set_cons_zero, List.set_cons_succ]
    rfl
  refine take_ (i := 2) (N := (some 7)) (v := ?_) (a' := ?_) #[true, true, true, false, false, false, false] rfl rfl (by kernel_rfl) (fun _ _ _ h => h) (Or.inl ⟨by rfl, ?_⟩) hHeld ?_ ?_
  rotate_left
  · rintro w' ⟨s0, s1, s2⟩
    go_simp
    with_reducible rfl
  rotate_left
  · simp only [Act.put, List.setIfInBounds_toArray, List.set_cons_zero, List.set_cons_succ]
    rfl
  refine pure_ (i := 3) (N := (some 8)) (v := ?_) (a' := ?_) #[true, true, true, true, false, false, false] rfl rfl (by kernel_rfl) (fun _ _ _ h => h) (Or.inl ⟨by rfl, ?_⟩) ?_ ?_
  rotate_left
  · intro w'
    go_simp
    with_reducible rfl
  rotate_left
  · simp only [Act.put, List.setIfInBounds_toArray, List.set_cons_zero, List.set_cons_succ]
    rfl
  refine one_ (i := 4) (N := (some 9)) #[true, true, true, true, true, false, false] rfl rfl (by kernel_rfl) (by decide) (fun K hK => ?_)
  go_simp
  refine (wstate_any HB0.out.at_ HL.out key).mono ?_
  rintro en w7 ⟨rfl, hb7⟩
  have HB7 := Lib.hid (HB0.out.below hb7)
  have HA7 := Lib.hid (below_then HA.out HA.out.size hb7)
  clear hb7
  refine hK.out _ _ HB7.out.cells (fun hHeld => ?_)
  clear hK K
  (try simp only [Act.put, List.setIfInBounds_toArray, List.set_cons_zero, List.set_cons_succ])
  refine one_ (i := 5) (N := (some 10)) #[true, true, true, true, true, true, false] rfl rfl (by kernel_rfl) (by decide) (fun K hK => ?_)
  go_simp
  refine (ggoal_any HB7.out.at_ _).mono ?_
  rintro en w8 ⟨rfl, hb8⟩
  have HB8 := Lib.hid (HB7.out.below hb8)
  have HA8 := Lib.hid (below_then HA7.out HA7.out.size hb8)
  clear hb8
  refine hK.out _ _ HB8.out.cells (fun hHeld => ?_)
  clear hK K
  (try simp only [Act.put, List.setIfInBounds_toArray, List.set_cons_zero, List.set_cons_succ])
  refine pure_ (i := 6) (N := (some 4)) (v := ?_) (a' := ?_) #[true, true, true, true, true, true, true] rfl rfl (by kernel_rfl) (fun _ _ _ h => h) (Or.inl ⟨by rfl, ?_⟩) ?_ ?_
  rotate_left
  · intro w'
    go_simp
    with_reducible rfl
  rotate_left
  · simp only [Act.put, List.setIfInBounds_toArray, List.set_cons_zero, List.set_cons_succ]
    rfl
  refine done_ (by kernel_rfl) ?_
  go_wp2
  go_ret
  exact ⟨rfl, HA8.out⟩
end Go.Proofs.Ytipdejalohmkpaa.Gr

/- The search finds cheapest paths: what holds of the list and of the expanded states at every round. -/
namespace Go.Proofs.Ytipdejalohmkpaa.Sr
variable {σ : Type}

/-- A path from the start, the last state first, and its cost. -/
inductive PW (p : Prob σ) (start : σ) : List σ → Int → Prop
  | base : PW p start [start] 0
  | step {s : σ} {r : List σ} {c : Int} {t : σ} {w : Int} : PW p start (s :: r) c → (t, w) ∈ p.next s → 0 ≤ w → w ≤ maxCount - c → PW p start (t :: s :: r) (c + w)
theorem PW.bound {p : Prob σ} {start : σ} {l : List σ} {c : Int} (h : PW p start l c) : 0 ≤ c ∧ c ≤ maxCount := by
  induction h with
  | base => exact ⟨Int.le_refl _, by decide⟩
  | step _ _ _ _ ih => omega
theorem PW.dom {p : Prob σ} {start : σ} {dom : List σ} (hs : start ∈ dom) (hc : ∀ s ∈ dom, ∀ y ∈ p.next s, y.1 ∈ dom) {l : List σ} {c : Int} (h : PW p start l c) : ∀ s ∈ l, s ∈ dom := by
  induction h with
  | base => intro s h; obtain rfl : s = start := by simpa using h
            exact hs
  | step _ hn _ _ ih =>
    intro s h
    rcases List.mem_cons.1 h with rfl | h
    · exact hc _ (ih _ (by simp)) _ hn
    · exact ih s h

structure Inv (p : Prob σ) (goal : σ → Bool) (start : σ) (L : List (Ent σ)) (order : List σ) (F : List (σ × Int)) : Prop where
  names : F.map Prod.fst = order
  paths : ∀ x ∈ F, ∃ r, PW p start (x.1 :: r) x.2 ∧ r.length ≤ order.length
  ents : ∀ e ∈ L, PW p start e.rp e.cost ∧ e.bk.length ≤ order.length
  first : (∃ c, c ≤ 0 ∧ (start, c) ∈ F) ∨ ∃ e ∈ L, e.st = start ∧ e.cost ≤ 0
  front : ∀ x ∈ F, ∀ y ∈ p.next x.1, 0 ≤ y.2 → y.2 ≤ maxCount - x.2 → (∃ c, c ≤ x.2 + y.2 ∧ (y.1, c) ∈ F) ∨ ∃ e ∈ L, e.st = y.1 ∧ e.cost ≤ x.2 + y.2
  mono : ∀ x ∈ F, ∀ e ∈ L, x.2 ≤ e.cost
  sorted : F.Pairwise fun a b => a.2 ≤ b.2
  goals : ∀ s ∈ order, goal s = false

theorem Inv.start (p : Prob σ) (goal : σ → Bool) (s : σ) : Inv p goal s [⟨s, [], 0, 0⟩] [] [] where
  names := rfl
  paths x hx := by simp at hx
  ents e he := by
    obtain rfl : e = ⟨s, [], 0, 0⟩ := by simpa using he
    exact ⟨PW.base, by simp⟩
  first := .inr ⟨⟨s, [], 0, 0⟩, by simp, rfl, Int.le_refl _⟩
  front x hx := by simp at hx
  mono x hx := by simp at hx
  sorted := List.Pairwise.nil
  goals s hs := by simp at hs

theorem Inv.cover {p : Prob σ} {goal : σ → Bool} {start : σ} {L : List (Ent σ)} {order : List σ} {F : List (σ × Int)} (h : Inv p goal start L order F) {l : List σ} {c : Int} (hw : PW p start l c) :
    ∀ t r, l = t :: r → (∃ c', c' ≤ c ∧ (t, c') ∈ F) ∨ ∃ e ∈ L, e.cost ≤ c := by
  induction hw with
  | base =>
    intro t r e
    injection e with e1 _
    subst e1
    rcases h.first with h1 | ⟨x, hx, _, h2⟩
    · exact .inl h1
    · exact .inr ⟨x, hx, h2⟩
  | @step s r c t w hw hn h0 hle ih =>
    intro t' r' e
    injection e with e1 _
    subst e1
    rcases ih s r rfl with ⟨c', hc', hF⟩ | ⟨x, hx, h2⟩
    · rcases h.front (s, c') hF (t, w) hn h0 (by simp only; omega) with ⟨c2, h3, h4⟩ | ⟨x, hx, _, h3⟩
      · exact .inl ⟨c2, by simp only at h3; omega, h4⟩
      · exact .inr ⟨x, hx, by simp only at h3; omega⟩
    · exact .inr ⟨x, hx, by omega⟩

theorem mem_erase {L : List (Ent σ)} {e x : Ent σ} (hx : L[minIdx L]? = some x) (he : e ∈ L) : e = x ∨ e ∈ L.eraseIdx (minIdx L) := by
  obtain ⟨hlt, hxe⟩ := List.getElem?_eq_some_iff.1 hx
  obtain ⟨j, hj, hje⟩ := List.getElem_of_mem he
  by_cases c : j = minIdx L
  · subst c; left; rw [← hje, hxe]
  · right
    rw [List.mem_eraseIdx_iff_getElem]
    exact ⟨j, hj, c, hje⟩
theorem min_cost {L : List (Ent σ)} {x : Ent σ} (hx : L[minIdx L]? = some x) : ∀ e ∈ L, x.cost ≤ e.cost := by
  have hne : L ≠ [] := by rintro rfl; simp at hx
  obtain ⟨hlt, _, h2⟩ := minIdx_spec L hne
  intro e he
  obtain ⟨j, hj, hje⟩ := List.getElem_of_mem he
  have := h2 j hj
  have cj : costs L j = e.cost := by simp [costs, List.getElem?_eq_getElem hj, hje]
  have cx : costs L (minIdx L) = x.cost := by simp [costs, hx]
  omega

theorem Inv.skip {p : Prob σ} {goal : σ → Bool} {start : σ} {L : List (Ent σ)} {order : List σ} {F : List (σ × Int)} {x : Ent σ} (h : Inv p goal start L order F) (hx : L[minIdx L]? = some x) (hin : x.st ∈ order) :
    Inv p goal start (L.eraseIdx (minIdx L)) order F := by
  have hxm : x ∈ L := List.mem_of_getElem? hx
  have hsub : ∀ e ∈ L.eraseIdx (minIdx L), e ∈ L := fun e he => (List.eraseIdx_sublist ..).subset he
  obtain ⟨⟨s, c⟩, hF, hs⟩ : ∃ y ∈ F, y.1 = x.st := by rw [← h.names] at hin; exact List.mem_map.1 hin
  simp only at hs
  subst hs
  have hc := h.mono _ hF x hxm
  refine ⟨h.names, h.paths, fun e he => h.ents e (hsub e he), ?_, fun y hy z hz h0 hle => ?_, fun y hy e he => h.mono y hy e (hsub e he), h.sorted, h.goals⟩
  · rcases h.first with h1 | ⟨e, he, h1, h2⟩
    · exact .inl h1
    · rcases mem_erase hx he with rfl | he'
      · exact .inl ⟨c, by simp only at hc; omega, by rw [← h1]; exact hF⟩
      · exact .inr ⟨e, he', h1, h2⟩
  · rcases h.front y hy z hz h0 hle with h1 | ⟨e, he, h1, h2⟩
    · exact .inl h1
    · rcases mem_erase hx he with rfl | he'
      · exact .inl ⟨c, by simp only at hc; omega, by rw [← h1]; exact hF⟩
      · exact .inr ⟨e, he', h1, h2⟩

theorem pushes_in (x : Ent σ) : ∀ (r : List (σ × Int)) (n : Nat) (y : σ × Int), y ∈ r → 0 ≤ y.2 → y.2 ≤ maxCount - x.cost → ∃ e ∈ pushes x r n, e.st = y.1 ∧ e.cost = x.cost + y.2 := by
  intro r
  induction r with
  | nil => intro n y hy; simp at hy
  | cons z r ih =>
    intro n y hy h0 hle
    rcases List.mem_cons.1 hy with rfl | hy
    · unfold pushes
      rw [if_neg (by omega)]
      exact ⟨_, List.mem_cons_self, rfl, rfl⟩
    · unfold pushes
      split
      · exact ih n y hy h0 hle
      · obtain ⟨e, he, h1⟩ := ih (n + 1) y hy h0 hle
        exact ⟨e, List.mem_cons_of_mem _ he, h1⟩
theorem pushes_out (x : Ent σ) : ∀ (r : List (σ × Int)) (n : Nat) (e : Ent σ), e ∈ pushes x r n → ∃ y ∈ r, 0 ≤ y.2 ∧ y.2 ≤ maxCount - x.cost ∧ e.st = y.1 ∧ e.bk = x.st :: x.bk ∧ e.cost = x.cost + y.2 := by
  intro r
  induction r with
  | nil => intro n e he; simp [pushes] at he
  | cons z r ih =>
    intro n e he
    unfold pushes at he
    split at he
    · obtain ⟨y, hy, h⟩ := ih n e he; exact ⟨y, by simp [hy], h⟩
    · rename_i hz
      rcases List.mem_cons.1 he with rfl | he
      · exact ⟨z, by simp, by omega, by omega, rfl, rfl, rfl⟩
      · obtain ⟨y, hy, h⟩ := ih (n + 1) e he; exact ⟨y, by simp [hy], h⟩

theorem Inv.expand {p : Prob σ} {goal : σ → Bool} {start : σ} {L : List (Ent σ)} {order : List σ} {F : List (σ × Int)} {x : Ent σ} (h : Inv p goal start L order F) (hx : L[minIdx L]? = some x) (hg : goal x.st = false) (added : Nat) :
    Inv p goal start (L.eraseIdx (minIdx L) ++ pushes x (p.next x.st) added) (order ++ [x.st]) (F ++ [(x.st, x.cost)]) := by
  have hxm : x ∈ L := List.mem_of_getElem? hx
  have hsub : ∀ e ∈ L.eraseIdx (minIdx L), e ∈ L := fun e he => (List.eraseIdx_sublist ..).subset he
  obtain ⟨hpx, hlx⟩ := h.ents x hxm
  have hmin := min_cost hx
  refine ⟨by rw [List.map_append, h.names]; rfl, fun y hy => ?_, fun e he => ?_, ?_, fun y hy z hz h0 hle => ?_, fun y hy e he => ?_, ?_, fun s hs => ?_⟩
  · rcases List.mem_append.1 hy with hy | hy
    · obtain ⟨r, h1, h2⟩ := h.paths y hy; exact ⟨r, h1, by simp; omega⟩
    · obtain rfl : y = (x.st, x.cost) := by simpa using hy
      exact ⟨x.bk, hpx, by simp; omega⟩
  · rcases List.mem_append.1 he with he | he
    · obtain ⟨h1, h2⟩ := h.ents e (hsub e he); exact ⟨h1, by simp; omega⟩
    · obtain ⟨y, hy, h1, h2, h3, h4, h5⟩ := pushes_out x _ _ e he
      refine ⟨?_, by rw [h4]; simp; omega⟩
      unfold Ent.rp
      rw [h3, h4, h5]
      exact PW.step hpx hy h1 h2
  · rcases h.first with ⟨c, h1, h2⟩ | ⟨e, he, h1, h2⟩
    · exact .inl ⟨c, h1, by simp [h2]⟩
    · rcases mem_erase hx he with rfl | he'
      · exact .inl ⟨e.cost, h2, by rw [← h1]; simp⟩
      · exact .inr ⟨e, by simp [he'], h1, h2⟩
  · rcases List.mem_append.1 hy with hy | hy
    · rcases h.front y hy z hz h0 hle with ⟨c, h1, h2⟩ | ⟨e, he, h1, h2⟩
      · exact .inl ⟨c, h1, by simp [h2]⟩
      · rcases mem_erase hx he with rfl | he'
        · exact .inl ⟨e.cost, h2, by rw [← h1]; simp⟩
        · exact .inr ⟨e, by simp [he'], h1, h2⟩
    · obtain rfl : y = (x.st, x.cost) := by simpa using hy
      obtain ⟨e, he, h1, h2⟩ := pushes_in x (p.next x.st) added z hz h0 hle
      exact .inr ⟨e, by simp [he], h1, by simp only; omega⟩
  · rcases List.mem_append.1 hy with hy | hy
    · rcases List.mem_append.1 he with he | he
      · exact h.mono y hy e (hsub e he)
      · obtain ⟨z, _, h1, _, _, _, h5⟩ := pushes_out x _ _ e he
        have := h.mono y hy x hxm
        omega
    · obtain rfl : y = (x.st, x.cost) := by simpa using hy
      simp only
      rcases List.mem_append.1 he with he | he
      · exact hmin e (hsub e he)
      · obtain ⟨z, _, h1, _, _, _, h5⟩ := pushes_out x _ _ e he
        omega
  · refine List.pairwise_append.2 ⟨h.sorted, by simp, fun a ha b hb => ?_⟩
    obtain rfl : b = (x.st, x.cost) := by simpa using hb
    exact h.mono a ha x hxm
  · rcases List.mem_append.1 hs with hs | hs
    · exact h.goals s hs
    · obtain rfl : s = x.st := by simpa using hs
      exact hg

/-- What the search's answer says. -/
def Best (p : Prob σ) (goal : σ → Bool) (start : σ) (budget : Nat) : Out σ → Prop
  | .found x _ => PW p start x.rp x.cost ∧ goal x.st = true ∧ ∀ t r c, PW p start (t :: r) c → goal t = true → x.cost ≤ c
  | .notFound o => ∃ F : List (σ × Int), F.map Prod.fst = o ∧ (∀ y ∈ F, ∃ r, PW p start (y.1 :: r) y.2 ∧ r.length ≤ o.length) ∧ (F.Pairwise fun a b => a.2 ≤ b.2) ∧ (∀ s ∈ o, goal s = false) ∧ KeysNe p o ∧ ∀ t r c, PW p start (t :: r) c → ∃ c', c' ≤ c ∧ (t, c') ∈ F
  | .budget o => o.length = budget ∧ KeysNe p o ∧ ∃ F : List (σ × Int), F.map Prod.fst = o ∧ (∀ y ∈ F, ∃ r, PW p start (y.1 :: r) y.2 ∧ r.length ≤ o.length)
theorem run_best (p : Prob σ) (goal : σ → Bool) (start : σ) (budget : Nat) (dom : List σ) (hdom : start ∈ dom) (hclosed : ∀ s ∈ dom, ∀ y ∈ p.next s, y.1 ∈ dom) (hinj : ∀ s ∈ dom, ∀ t ∈ dom, p.key s = p.key t → s = t) :
    ∀ (k : Nat) (L : List (Ent σ)) (order : List σ) (added : Nat) (F : List (σ × Int)) (out : Out σ), Inv p goal start L order F → KeysNe p order → run p goal budget k L order added = some out → Best p goal start budget out := by
  intro k
  induction k with
  | zero => intro L order added F out _ _ h; simp [run] at h
  | succ k ih =>
    intro L order added F out hi hk h
    have hod : ∀ s ∈ order, s ∈ dom := fun s hs => by
      rw [← hi.names] at hs
      obtain ⟨y, hy, rfl⟩ := List.mem_map.1 hs
      obtain ⟨r, h1, _⟩ := hi.paths y hy
      exact h1.dom hdom hclosed _ (by simp)
    rw [run] at h
    cases hx : L[minIdx L]? with
    | none =>
      rw [hx] at h
      injection h with h
      subst h
      have hL : L = [] := by
        apply Classical.byContradiction
        intro hne
        obtain ⟨hlt, _⟩ := minIdx_spec L hne
        rw [List.getElem?_eq_getElem hlt] at hx
        cases hx
      subst hL
      refine ⟨F, hi.names, hi.paths, hi.sorted, hi.goals, hk, fun t r c hw => ?_⟩
      rcases hi.cover hw t r rfl with h1 | ⟨e, he, _⟩
      · exact h1
      · simp at he
    | some x =>
      rw [hx] at h
      dsimp only at h
      have hxm : x ∈ L := List.mem_of_getElem? hx
      have hxd : x.st ∈ dom := (hi.ents x hxm).1.dom hdom hclosed _ (by simp [Ent.rp])
      cases hw : was p order x.st with
      | true =>
        rw [hw] at h
        simp only [if_true] at h
        obtain ⟨y, hy, h1⟩ := was_true hw
        have := hinj y (hod y hy) x.st hxd h1
        subst this
        exact ih _ _ _ F out (hi.skip hx hy) hk h
      | false =>
        rw [hw] at h
        simp only [Bool.false_eq_true, if_false] at h
        split at h
        · rename_i hg
          injection h with h
          subst h
          refine ⟨(hi.ents x hxm).1, hg, fun t r c hpw ht => ?_⟩
          rcases hi.cover hpw t r rfl with ⟨c', _, h2⟩ | ⟨e, he, h2⟩
          · have : t ∈ order := by rw [← hi.names]; exact List.mem_map.2 ⟨_, h2, rfl⟩
            rw [hi.goals t this] at ht
            cases ht
          · have := min_cost hx e he
            omega
        · rename_i hg
          split at h
          · rename_i hb
            injection h with h
            subst h
            exact ⟨hb, hk, F, hi.names, hi.paths⟩
          · exact ih _ _ _ _ out (hi.expand hx (by simpa using hg) added) (hk.snoc hw) h
end Go.Proofs.Ytipdejalohmkpaa.Sr

/- Least costs by repeated relaxation are the least costs of paths. -/
namespace Go.Proofs.Ytipdejalohmkpaa.Gr
open Go.RowKit Go.Proofs.YtipdejalohmkpaaW.PrintWords Go.Proofs.YtipdejalohmkpaaW.PrintLast Go.Proofs.YtipdejalohmkpaaW.PrintMore PBestfirstDistances

def relax (o : List Int) (s : Int) (x : S51) : List Int :=
  if 0 ≤ x.f1 ∧ x.f1 ≤ 1099511627776 ∧ rd o s < 1099511627777 ∧ rd o s + x.f1 < rd o x.f0 then o.set x.f0.toNat (rd o s + x.f1) else o
def relaxAll (o : List Int) (s : Int) : List S51 → List Int
  | [] => o
  | x :: xs => relaxAll (relax o s x) s xs
def sweep (g : Gph) : Nat → Nat → List Int → List Int
  | 0, _, o => o
  | d + 1, i, o => sweep g d (i + 1) (relaxAll o i (g.next i))
def rounds (g : Gph) : Nat → List Int → List Int
  | 0, o => o
  | d + 1, o => rounds g d (sweep g g.E.length 0 o)
def dists (g : Gph) (start : Int) : List Int := rounds g g.E.length ((List.replicate g.E.length 1099511627777).set start.toNat 0)

structure Snd (g : Gph) (start : Int) (o : List Int) : Prop where
  len : o.length = g.E.length
  ran : ∀ t, g.has t = true → 0 ≤ rd o t ∧ rd o t ≤ 1099511627777
  path : ∀ t, g.has t = true → rd o t < 1099511627777 → ∃ r, Sr.PW g.prob start (t :: r) (rd o t)

theorem rd_set {o : List Int} {i t v : Int} (h0 : 0 ≤ i) (h1 : i < (o.length : Int)) (t0 : 0 ≤ t) : rd (o.set i.toNat v) t = if t = i then v else rd o t := by
  unfold rd
  rw [List.getD_eq_getElem?_getD, List.getD_eq_getElem?_getD]
  by_cases e : t = i
  · subst e
    rw [if_pos rfl, List.getElem?_set_self (by omega)]
    rfl
  · rw [if_neg e, List.getElem?_set_ne (by omega)]

theorem prob_next {g : Gph} {s : Int} {x : S51} (h : x ∈ g.next s) : (x.f0, x.f1) ∈ g.prob.next s := List.mem_map.2 ⟨x, h, rfl⟩

variable {g : Gph} {start : Int}
theorem Snd.relax {o : List Int} (h : Snd g start o) {s : Int} (hs : g.has s = true) {x : S51} (hx : x ∈ g.next s) :
    Snd g start (relax o s x) ∧ (∀ t, g.has t = true → rd (Gr.relax o s x) t ≤ rd o t) ∧ (0 ≤ x.f1 → x.f1 ≤ 1099511627776 → rd o s < 1099511627777 → rd (Gr.relax o s x) x.f0 ≤ rd o s + x.f1) := by
  have hx0 := next_has hx
  have hi := has_iff.1 hx0
  unfold Gr.relax
  split
  · rename_i hc
    obtain ⟨c0, c1, c2, c3⟩ := hc
    have hr := fun (t : Int) (t0 : 0 ≤ t) => rd_set (o := o) (v := rd o s + x.f1) hi.1 (by rw [h.len]; exact hi.2) t0
    refine ⟨⟨by rw [List.length_set, h.len], fun t ht => ?_, fun t ht hl => ?_⟩, fun t ht => ?_, fun _ _ _ => ?_⟩
    · rw [hr t (has_iff.1 ht).1]
      have a := h.ran t ht
      have b := h.ran s hs
      have c := h.ran x.f0 hx0
      split <;> omega
    · rw [hr t (has_iff.1 ht).1] at hl ⊢
      split
      · rename_i e
        subst e
        obtain ⟨r, hr⟩ := h.path s hs c2
        have c := h.ran x.f0 hx0
        exact ⟨_, Sr.PW.step hr (prob_next hx) c0 (by unfold Sr.maxCount; omega)⟩
      · rename_i e
        rw [if_neg e] at hl
        exact h.path t ht hl
    · rw [hr t (has_iff.1 ht).1]
      split
      · rename_i e; subst e; omega
      · omega
    · rw [hr x.f0 hi.1, if_pos rfl]; omega
  · rename_i hc
    refine ⟨h, fun t _ => Int.le_refl _, fun a b c => ?_⟩
    have : ¬ rd o s + x.f1 < rd o x.f0 := fun d => hc ⟨a, b, c, d⟩
    omega
theorem Snd.relaxAll {s : Int} (hs : g.has s = true) : ∀ (xs : List S51) (o : List Int), (∀ x ∈ xs, x ∈ g.next s) → Snd g start o →
    Snd g start (relaxAll o s xs) ∧ (∀ t, g.has t = true → rd (Gr.relaxAll o s xs) t ≤ rd o t) ∧ ∀ x ∈ xs, 0 ≤ x.f1 → x.f1 ≤ 1099511627776 → rd o s < 1099511627777 → rd (Gr.relaxAll o s xs) x.f0 ≤ rd o s + x.f1 := by
  intro xs
  induction xs with
  | nil => intro o _ h; exact ⟨h, fun t _ => Int.le_refl _, fun x hx => by simp at hx⟩
  | cons y ys ih =>
    intro o hm h
    obtain ⟨h1, d1, e1⟩ := h.relax hs (hm y (by simp))
    obtain ⟨h2, d2, e2⟩ := ih (Gr.relax o s y) (fun x hx => hm x (by simp [hx])) h1
    refine ⟨h2, fun t ht => Int.le_trans (d2 t ht) (d1 t ht), fun x hx a b c => ?_⟩
    rcases List.mem_cons.1 hx with rfl | hx
    · exact Int.le_trans (d2 _ (next_has (hm x (by simp)))) (e1 a b c)
    · have p := d1 s hs
      have q := e2 x hx a b (by omega)
      show rd (Gr.relaxAll (Gr.relax o s y) s ys) x.f0 ≤ _
      omega
theorem Snd.sweep : ∀ (d i : Nat) (o : List Int), i + d = g.E.length → Snd g start o →
    Snd g start (sweep g d i o) ∧ (∀ t, g.has t = true → rd (Gr.sweep g d i o) t ≤ rd o t) ∧ ∀ s : Int, (i : Int) ≤ s → g.has s = true → ∀ x ∈ g.next s, 0 ≤ x.f1 → x.f1 ≤ 1099511627776 → rd o s < 1099511627777 → rd (Gr.sweep g d i o) x.f0 ≤ rd o s + x.f1 := by
  intro d
  induction d with
  | zero => intro i o hi h; exact ⟨h, fun t _ => Int.le_refl _, fun s h1 h2 => by have := has_iff.1 h2; omega⟩
  | succ d ih =>
    intro i o hi h
    have hs : g.has (i : Int) = true := has_iff.2 ⟨by omega, by omega⟩
    obtain ⟨h1, d1, e1⟩ := Snd.relaxAll hs (g.next i) o (fun _ h => h) h
    obtain ⟨h2, d2, e2⟩ := ih (i + 1) _ (by omega) h1
    refine ⟨h2, fun t ht => Int.le_trans (d2 t ht) (d1 t ht), fun s hle hss x hx a b c => ?_⟩
    by_cases e : s = (i : Int)
    · subst e
      exact Int.le_trans (d2 _ (next_has hx)) (e1 x hx a b c)
    · have p := d1 s hss
      have q := e2 s (by omega) hss x hx a b (by omega)
      show rd (Gr.sweep g d (i + 1) (Gr.relaxAll o i (g.next i))) x.f0 ≤ _
      omega
/-- No path with at most j steps is cheaper. -/
def Cmp (g : Gph) (start : Int) (j : Nat) (o : List Int) : Prop := ∀ t r c, Sr.PW g.prob start (t :: r) c → r.length ≤ j → rd o t ≤ c
theorem pw_has (hs : g.has start = true) {t : Int} {r : List Int} {c : Int} (h : Sr.PW g.prob start (t :: r) c) : g.has t = true :=
  mem_dom.1 (h.dom (mem_dom.2 hs) (dom_closed g) t (by simp))
theorem Cmp.sweep (hs : g.has start = true) {j : Nat} {o : List Int} (h : Snd g start o) (hc : Cmp g start j o) : Cmp g start (j + 1) (sweep g g.E.length 0 o) := by
  obtain ⟨_, d1, e1⟩ := Snd.sweep g.E.length 0 o (by omega) h
  intro t r c hw hl
  generalize hL : t :: r = L at hw
  cases hw with
  | base =>
    injection hL with h1 h2
    subst h1 h2
    exact Int.le_trans (d1 _ hs) (hc _ _ _ Sr.PW.base (by simp))
  | @step s r' c' t' w hw hn h0 hle =>
    injection hL with h1 h2
    subst h1 h2
    have hp := hc s r' c' hw (by simpa using hl)
    have hss := pw_has hs hw
    have hb := hw.bound
    unfold Sr.maxCount at hb hle
    obtain ⟨x, hx, hxe⟩ := List.mem_map.1 hn
    injection hxe with x0 x1
    subst x0 x1
    have := e1 s (by have := has_iff.1 hss; omega) hss x hx h0 (by omega) (by omega)
    omega
theorem rounds_spec (hs : g.has start = true) : ∀ (d j : Nat) (o : List Int), Snd g start o → Cmp g start j o → Snd g start (rounds g d o) ∧ Cmp g start (j + d) (rounds g d o) := by
  intro d
  induction d with
  | zero => intro j o h hc; exact ⟨h, hc⟩
  | succ d ih =>
    intro j o h hc
    have := ih (j + 1) _ (Snd.sweep g.E.length 0 o (by omega) h).1 (Cmp.sweep hs h hc)
    rw [show j + (d + 1) = j + 1 + d by omega]
    exact this
theorem rd_init (hs : g.has start = true) {t : Int} (ht : g.has t = true) : rd ((List.replicate g.E.length (1099511627777 : Int)).set start.toNat 0) t = if t = start then 0 else 1099511627777 := by
  have h1 := has_iff.1 hs
  have h2 := has_iff.1 ht
  rw [rd_set h1.1 (by simpa using h1.2) h2.1]
  split
  · rfl
  · unfold rd
    rw [List.getD_eq_getElem?_getD, List.getElem?_replicate, if_pos (by omega)]
    rfl
theorem init_snd (hs : g.has start = true) : Snd g start ((List.replicate g.E.length (1099511627777 : Int)).set start.toNat 0) where
  len := by simp
  ran t ht := by rw [rd_init hs ht]; split <;> omega
  path t ht hl := by
    rw [rd_init hs ht] at hl ⊢
    split
    · rename_i e; subst e; exact ⟨[], Sr.PW.base⟩
    · rename_i e; rw [if_neg e] at hl; omega
theorem init_cmp (hs : g.has start = true) : Cmp g start 0 ((List.replicate g.E.length (1099511627777 : Int)).set start.toNat 0) := by
  intro t r c hw hl
  obtain rfl : r = [] := List.length_eq_zero_iff.1 (by omega)
  generalize hL : [t] = L at hw
  cases hw with
  | base =>
    injection hL with h1 h2
    subst h1
    rw [rd_init hs hs, if_pos rfl]
    omega
  | step => injection hL with h1 h2; cases h2
theorem dists_spec (hs : g.has start = true) : Snd g start (dists g start) ∧ Cmp g start g.E.length (dists g start) := by
  have := rounds_spec hs g.E.length 0 _ (init_snd hs) (init_cmp hs)
  rw [Nat.zero_add] at this
  exact this

end Go.Proofs.Ytipdejalohmkpaa.Gr

/- What the search answers on a plain graph, against the least costs by relaxation. -/
namespace Go.Proofs.Ytipdejalohmkpaa.Gr
open Go.RowKit Go.Proofs.YtipdejalohmkpaaW.PrintWords Go.Proofs.YtipdejalohmkpaaW.PrintLast Go.Proofs.YtipdejalohmkpaaW.PrintMore PBestfirstDistances

theorem dig12 : ((List.range 12).all fun a => (List.range 12).all fun b => !(digits a == digits b) || a == b) = true := by kernel_rfl
theorem dig_inj {a b : Nat} (ha : a < 12) (hb : b < 12) (h : digits a = digits b) : a = b := by
  have h1 := List.all_eq_true.1 dig12 a (List.mem_range.2 ha)
  have h2 := List.all_eq_true.1 h1 b (List.mem_range.2 hb)
  rw [h] at h2
  simpa using h2
theorem key_plain {g : Gph} (hp : g.plain = true) (s : Int) : g.key s = digits s.toNat := by
  unfold Gph.key
  unfold Gph.plain at hp
  have : g.K.length = 0 := by simpa using hp
  rw [if_neg (by omega)]
theorem len12 {g : Gph} (hl : g.large = false) : g.E.length ≤ 12 := by
  have h12 := dom_len g hl
  unfold Gph.dom at h12
  rwa [List.length_map, List.length_range] at h12
theorem key_inj {g : Gph} (hl : g.large = false) (hp : g.plain = true) : ∀ s ∈ g.dom, ∀ t ∈ g.dom, g.prob.key s = g.prob.key t → s = t := by
  intro s hs t ht h
  have h1 := has_iff.1 (mem_dom.1 hs)
  have h2 := has_iff.1 (mem_dom.1 ht)
  have hn := len12 hl
  have h' : g.key s = g.key t := h
  rw [key_plain hp, key_plain hp] at h'
  have := dig_inj (by omega) (by omega) h'
  omega

variable {g : Gph} {start : Int}
theorem best_out (hl : g.large = false) (hp : g.plain = true) (hs : g.has start = true) (goal : Int → Bool) (b : Nat) : Sr.Best g.prob goal start b (g.out goal b start) :=
  Sr.run_best g.prob goal start b g.dom (mem_dom.2 hs) (dom_closed g) (key_inj hl hp) 200 _ [] 1 [] _ (Sr.Inv.start _ _ _) List.Pairwise.nil (out_run g hl goal b start hs)
theorem order_few (hs : g.has start = true) {o : List Int} {F : List (Int × Int)} {n : Nat} (hF : F.map Prod.fst = o) (hp : ∀ y ∈ F, ∃ r, Sr.PW g.prob start (y.1 :: r) y.2 ∧ r.length ≤ n) (hk : Sr.KeysNe g.prob o) : o.length ≤ g.E.length := by
  have hsub : ∀ s ∈ o, s ∈ g.dom := fun s h => by
    rw [← hF] at h
    obtain ⟨y, hy, rfl⟩ := List.mem_map.1 h
    obtain ⟨r, h1, _⟩ := hp y hy
    exact mem_dom.2 (pw_has hs h1)
  have := List.Nodup.length_le_of_subset hk.nodup hsub
  unfold Gph.dom at this
  rwa [List.length_map, List.length_range] at this
theorem no_budget (hl : g.large = false) (hp : g.plain = true) (hs : g.has start = true) (goal : Int → Bool) (o : List Int) : g.out goal 100 start ≠ .budget o := by
  intro e
  have h := best_out hl hp hs goal 100
  rw [e] at h
  obtain ⟨h1, h2, F, h3, h4⟩ := h
  have := order_few hs h3 h4 h2
  have := len12 hl
  omega
/-- No path is cheaper than the least cost. -/
theorem dists_opt (hl : g.large = false) (hp : g.plain = true) (hs : g.has start = true) {t : Int} {r : List Int} {c : Int} (hw : Sr.PW g.prob start (t :: r) c) : rd (dists g start) t ≤ c := by
  have h := best_out hl hp hs (fun _ => false) 100
  cases e : g.out (fun _ => false) 100 start with
  | budget o => exact absurd e (no_budget hl hp hs _ o)
  | found x o =>
    rw [e] at h
    exact absurd h.2.1 (by simp)
  | notFound o =>
    rw [e] at h
    obtain ⟨F, h1, h2, _, _, hk, h3⟩ := h
    obtain ⟨c', h4, h5⟩ := h3 t r c hw
    obtain ⟨r', h6, h7⟩ := h2 _ h5
    have := (dists_spec hs).2 t r' c' h6 (Nat.le_trans h7 (order_few hs h1 h2 hk))
    omega
theorem dist_pure (hl : g.large = false) (hp : g.plain = true) (hs : g.has start = true) {tg : Int} (ht : g.has tg = true) {d e : Int} (hr : dres g start (g.key tg) 100 = (d, e)) :
    (e = 0 ∧ d = rd (dists g start) tg) ∨ (e = 4 ∧ rd (dists g start) tg = 1099511627777) := by
  have hS := (dists_spec hs).1
  have h := best_out hl hp hs (fun t => g.key t == g.key tg) 100
  unfold dres at hr
  rw [if_neg (by omega)] at hr
  change (match g.out (fun t => g.key t == g.key tg) 100 start with | .notFound _ => ((0 : Int), (4 : Int)) | .budget _ => (0, 7) | .found x _ => (x.cost, 0)) = (d, e) at hr
  cases ho : g.out (fun t => g.key t == g.key tg) 100 start with
  | budget o => exact absurd ho (no_budget hl hp hs _ o)
  | found x o =>
    rw [ho] at h hr
    injection hr with h1 h2
    obtain ⟨a, b, c⟩ := h
    have hx := pw_has hs a
    have hxt : x.st = tg := key_inj hl hp _ (mem_dom.2 hx) _ (mem_dom.2 ht) (show g.key x.st = g.key tg by simpa using b)
    left
    refine ⟨h2.symm, ?_⟩
    have l1 := dists_opt hl hp hs a
    have hb := a.bound
    unfold Sr.maxCount at hb
    rw [hxt] at l1
    obtain ⟨r, hr⟩ := hS.path tg ht (by omega)
    have := c tg r _ hr (by simp)
    omega
  | notFound o =>
    rw [ho] at h hr
    injection hr with h1 h2
    obtain ⟨F, f1, _, _, f4, _, f3⟩ := h
    right
    refine ⟨h2.symm, ?_⟩
    have hran := hS.ran tg ht
    apply Classical.byContradiction
    intro hne
    obtain ⟨r, hr⟩ := hS.path tg ht (by omega)
    obtain ⟨c', _, h5⟩ := f3 tg r _ hr
    have : tg ∈ o := by rw [← f1]; exact List.mem_map.2 ⟨_, h5, rfl⟩
    have := f4 tg this
    simp at this
/-- Reachable's list: each once, in the order of the distances, all that can be reached. -/
theorem order_pure (hl : g.large = false) (hp : g.plain = true) (hs : g.has start = true) :
    ∃ o, rres g start 100 = (o, 0) ∧ o.Nodup ∧ (∀ s ∈ o, g.has s = true) ∧ (∀ t, g.has t = true → (rd (dists g start) t < 1099511627777 ↔ t ∈ o)) ∧ (o.Pairwise fun a b => rd (dists g start) a ≤ rd (dists g start) b) := by
  have hS := (dists_spec hs).1
  have h := best_out hl hp hs (fun _ => false) 100
  cases ho : g.out (fun _ => false) 100 start with
  | budget o => exact absurd ho (no_budget hl hp hs _ o)
  | found x o =>
    rw [ho] at h
    exact absurd h.2.1 (by simp)
  | notFound o =>
    rw [ho] at h
    obtain ⟨F, f1, f2, f5, _, hk, f3⟩ := h
    have hnd := hk.nodup
    have heq : ∀ y ∈ F, y.2 = rd (dists g start) y.1 := fun y hy => by
      obtain ⟨r, h1, _⟩ := f2 y hy
      have l1 := dists_opt hl hp hs h1
      have hb := h1.bound
      unfold Sr.maxCount at hb
      obtain ⟨r', h2⟩ := hS.path y.1 (pw_has hs h1) (by omega)
      obtain ⟨c', h3, h4⟩ := f3 _ _ _ h2
      have hc : c' = y.2 := by
        rw [← f1] at hnd
        obtain ⟨i, hi, hie⟩ := List.getElem_of_mem hy
        obtain ⟨j, hj, hje⟩ := List.getElem_of_mem h4
        have hpw := List.pairwise_iff_getElem.1 hnd
        have hij : i = j := by
          rcases Nat.lt_trichotomy i j with h | h | h
          · exact (hpw i j (by simpa using hi) (by simpa using hj) h (by simp [hie, hje])).elim
          · exact h
          · exact (hpw j i (by simpa using hj) (by simpa using hi) h (by simp [hie, hje])).elim
        subst hij
        rw [hie] at hje
        rw [hje]
      omega
    refine ⟨o, ?_, hnd, fun s h => ?_, fun t ht => ⟨fun hlt => ?_, fun hm => ?_⟩, ?_⟩
    · unfold rres
      rw [if_neg (by omega)]
      change (match g.out (fun _ => false) 100 start with | .notFound o => (o, (0 : Int)) | .budget _ => ([], 7) | .found _ _ => ([], 0)) = (o, 0)
      rw [ho]
    · rw [← f1] at h
      obtain ⟨y, hy, rfl⟩ := List.mem_map.1 h
      obtain ⟨r, h1, _⟩ := f2 y hy
      exact pw_has hs h1
    · obtain ⟨r, hr⟩ := hS.path t ht hlt
      obtain ⟨c', _, h4⟩ := f3 _ _ _ hr
      rw [← f1]
      exact List.mem_map.2 ⟨_, h4, rfl⟩
    · rw [← f1] at hm
      obtain ⟨y, hy, rfl⟩ := List.mem_map.1 hm
      obtain ⟨r, h1, _⟩ := f2 y hy
      have l1 := dists_opt hl hp hs h1
      have hb := h1.bound
      unfold Sr.maxCount at hb
      omega
    · rw [← f1, List.pairwise_map]
      refine List.Pairwise.imp_of_mem (fun {a b} ha hb hab => ?_) f5
      have := heq a ha
      have := heq b hb
      omega
end Go.Proofs.Ytipdejalohmkpaa.Gr

/- With keys as states the search answers alike. -/
namespace Go.Proofs.Ytipdejalohmkpaa.Gr
open Go.RowKit Go.Proofs.YtipdejalohmkpaaW.PrintWords Go.Proofs.YtipdejalohmkpaaW.PrintLast Go.Proofs.YtipdejalohmkpaaW.PrintMore PBestfirstDistances
/-- The problem whose states are keys. -/
def Gph.wprob (g : Gph) : Sr.Prob ByteArray := ⟨fun s => s, fun s => (g.next (g.st s)).map fun x => (g.key x.f0, x.f1)⟩
theorem stateFrom_key {g : Gph} (hl : g.large = false) (hp : g.plain = true) {s : Int} (hs : g.has s = true) : ∀ (d i : Nat), i + d = g.E.length → (i : Int) ≤ s → stateFrom g (g.key s) d i = s := by
  have h1 := has_iff.1 hs
  intro d
  induction d with
  | zero => intro i hi hle; omega
  | succ d ih =>
    intro i hi hle
    unfold stateFrom
    split
    · rename_i e
      exact key_inj hl hp _ (mem_dom.2 (has_iff.2 ⟨by omega, by omega⟩)) _ (mem_dom.2 hs) e
    · rename_i e
      by_cases c : (i : Int) = s
      · rw [c] at e; exact absurd rfl e
      · exact ih (i + 1) (by omega) (by omega)
theorem st_key {g : Gph} (hl : g.large = false) (hp : g.plain = true) {s : Int} (hs : g.has s = true) : g.st (g.key s) = s :=
  stateFrom_key hl hp hs g.E.length 0 (by omega) (by have := has_iff.1 hs; omega)
theorem out_words {g : Gph} (hl : g.large = false) (hp : g.plain = true) {s : Int} (hs : g.has s = true) (b : Nat) :
    Sr.run g.wprob (fun t => g.goal (g.st t)) b 200 [⟨g.key s, [], 0, 0⟩] [] 1 = some (Sr.Out.map g.key (g.out g.goal b s)) := by
  have h := Sr.run_map g.key g.prob g.wprob g.goal (fun t => g.goal (g.st t)) g.dom (dom_closed g) (fun s _ => rfl)
    (fun t ht => by
      show (g.next (g.st (g.key t))).map _ = _
      rw [st_key hl hp (mem_dom.1 ht)]
      show _ = (steps (g.next t)).map _
      unfold steps
      rw [List.map_map]
      rfl)
    (fun t ht => by simp only [st_key hl hp (mem_dom.1 ht)]) b 200 [⟨s, [], 0, 0⟩] [] 1 (start_dom hs) (by simp)
  rw [out_run g hl g.goal b s hs] at h
  exact h
end Go.Proofs.Ytipdejalohmkpaa.Gr

/- The queue of a search and its entries in memory: what the queue's methods do. -/
namespace Go.Proofs.Ytipdejalohmkpaa.S
open Go.RowKit Hp

/-- The address of an entry. -/
def ptrV (e : Nat) : Value := .pointer (some ⟨e, 0, none⟩)
/-- An entry: its state, the address of the entry before it, its cost and its number. -/
structure EntD where
  st : Value
  bf : Option Addr
  cost : Int
  num : Int
def EntD.key (d : EntD) : Int × Int := (d.cost, d.num)
def EntAt (w : World) (e : Nat) (d : EntD) : Prop := w.heap[e]? = some (.cells #[d.st, .pointer d.bf, .int .i64 d.cost, .int .i64 d.num] 74 (0, 0))
theorem EntAt.c0 {w : World} {e : Nat} {d : EntD} (h : EntAt w e d) : w.cell? ⟨e, 0, none⟩ = some d.st := by unfold EntAt at h; simp [World.cell?, h]
theorem EntAt.c1 {w : World} {e : Nat} {d : EntD} (h : EntAt w e d) : w.cell? ⟨e, 1, none⟩ = some (.pointer d.bf) := by unfold EntAt at h; simp [World.cell?, h]
theorem EntAt.c2 {w : World} {e : Nat} {d : EntD} (h : EntAt w e d) : w.cell? ⟨e, 2, none⟩ = some (.int .i64 d.cost) := by unfold EntAt at h; simp [World.cell?, h]
theorem EntAt.c3 {w : World} {e : Nat} {d : EntD} (h : EntAt w e d) : w.cell? ⟨e, 3, none⟩ = some (.int .i64 d.num) := by unfold EntAt at h; simp [World.cell?, h]
theorem EntAt.lt {w : World} {e : Nat} {d : EntD} (h : EntAt w e d) : e < w.heap.size := (Array.getElem?_eq_some_iff.1 h).1
theorem EntAt.of_block {w w' : World} {e : Nat} {d : EntD} (h : EntAt w e d) (hb : w'.heap[e]? = w.heap[e]?) : EntAt w' e d := hb.trans h
theorem EntAt.below {w w' : World} {e : Nat} {d : EntD} (h : EntAt w e d) (hb : Below w.heap.size w w') : EntAt w' e d := h.of_block (hb.block e h.lt)

/-- The row of a queue: the addresses of its entries. -/
def RowOf (w : World) (base : Nat) (v : Value) (l : List Nat) : Prop := w.ownsRow base 69 1 v l.length (l.map ptrV)
theorem RowOf.ne_ent {w : World} {base : Nat} {v : Value} {l : List Nat} (h : RowOf w base v l) {e : Nat} {d : EntD} (he : EntAt w e d) : some e ≠ v.ownBlock := by
  intro hk
  rcases h.2 with ⟨rfl, _⟩ | ⟨g, cap, cur, rfl, _, hh, _⟩
  · simp [Value.ownBlock] at hk
  · have : e = g := by simpa [Value.ownBlock] using hk
    subst this
    unfold EntAt at he
    rw [hh] at he
    injection he with he
    injection he with _ ht
    exact absurd ht (by decide)
theorem EntAt.grown {w w' : World} {base : Nat} {v : Value} {l : List Nat} {e : Nat} {d : EntD} (h : EntAt w e d) (hr : RowOf w base v l) (hg : w.grownBy w' v.ownBlock) : EntAt w' e d :=
  h.of_block (hg.block e h.lt (hr.ne_ent h))
theorem RowOf.form {w : World} {base : Nat} {v : Value} {l : List Nat} (h : RowOf w base v l) (hn : 0 < l.length) : ∃ g cap, v = .slice (some ⟨g, 0, none⟩) l.length cap ∧ base ≤ g ∧ g < w.heap.size := by
  obtain ⟨g, cap, rfl, hb, hh⟩ := World.ownsRow.form h hn
  exact ⟨g, cap, rfl, hb, (World.ownsRow.lt h g rfl).2⟩
theorem RowOf.cell {w : World} {base g n cap : Nat} {l : List Nat} (h : RowOf w base (.slice (some ⟨g, 0, none⟩) n cap) l) (i : Nat) (hi : i < l.length) : w.cell? ⟨g, i, none⟩ = some (ptrV (at_ l i)) := by
  have hn : n = l.length := by
    rcases h.2 with ⟨h1, _⟩ | ⟨g', cap', cur', h1, _⟩
    · cases h1
    · injection h1
  subst hn
  have := World.ownsRow.cellAt h i (by omega)
  rw [this]
  simp [at_, List.getElem?_map, List.getElem?_eq_getElem hi]
theorem RowOf.frozen {w : World} {base g n cap : Nat} {l : List Nat} (h : RowOf w base (.slice (some ⟨g, 0, none⟩) n cap) l) (i : Nat) : w.frozen? ⟨g, i, none⟩ = false := by
  have hn : n = l.length := by
    rcases h.2 with ⟨h1, _⟩ | ⟨g', cap', cur', h1, _⟩
    · cases h1
    · injection h1
  subst hn
  exact World.ownsRow.frozenAt h i
theorem RowOf.drewN {w : World} {base : Nat} {v : Value} {l : List Nat} (h : RowOf w base v l) (n : Nat) : RowOf (w.drewN n) base v l := h
theorem RowOf.kept {w w' : World} {base : Nat} {v : Value} {l : List Nat} (h : RowOf w base v l) {row : Option Nat} (hg : w.grownBy w' row) (hne : v.ownBlock = none ∨ v.ownBlock ≠ row) : RowOf w' base v l := World.ownsRow.kept h hg hne
theorem RowOf.below {w w' : World} {base : Nat} {v : Value} {l : List Nat} (h : RowOf w base v l) (hb : Below w.heap.size w w') : RowOf w' base v l := YtipdejalohmkpaaW.PrintWords.pw_own_below h hb
theorem RowOf.stored {w : World} {base g cap : Nat} {l : List Nat} (h : RowOf w base (.slice (some ⟨g, 0, none⟩) l.length cap) l) (i : Nat) (x : Nat) (n : Nat) (hn : n = l.length) : RowOf (w.setCell ⟨g, i, none⟩ (ptrV x)) base (.slice (some ⟨g, 0, none⟩) n cap) (l.set i x) := by
  subst hn
  have := World.ownsRow.stored h i (ptrV x)
  unfold RowOf
  rw [List.length_set, List.map_set]
  exact this.1

theorem grown_set {w : World} (g i : Nat) (u : Value) : w.grownBy (w.setCell ⟨g, i, none⟩ u) (some g) := ⟨rfl, rfl, rfl, by simp [World.setCell], fun k _ hne => Below.heap_setCell _ _ _ _ (by intro e; exact hne (by rw [e]))⟩
theorem grown_drewN {w w' : World} {row : Option Nat} (h : w.grownBy w' row) (n : Nat) : w.grownBy (w'.drewN n) row := ⟨h.os, h.tape, h.output, h.size, h.block⟩
theorem grown_refl (w : World) (row : Option Nat) : w.grownBy w row := ⟨rfl, rfl, rfl, Nat.le_refl _, fun _ _ _ => rfl⟩

set_option maxHeartbeats 400000 in
theorem len_any (A : Option Addr) (n c : Nat) (w : World) :
    Calls Try.prog 39 #[.slice A n c] w fun e w' => e = .returned (.int .i64 n) ∧ w = w' := by
  go_enter Try.func39, Try.ntmps39
  go_wp2
  go_ret
  exact ⟨rfl, rfl⟩

set_option maxHeartbeats 800000 in
theorem less_cells (b n c : Nat) (i j : Int) (ei ej : Nat) (xi xj yi yj : Int) (w : World)
    (hi0 : 0 ≤ i) (hi : i < n) (hj0 : 0 ≤ j) (hj : j < n)
    (hci : w.cell? ⟨b, i.toNat, none⟩ = some (.pointer (some ⟨ei, 0, none⟩))) (hcj : w.cell? ⟨b, j.toNat, none⟩ = some (.pointer (some ⟨ej, 0, none⟩)))
    (hei : w.cell? ⟨ei, 2, none⟩ = some (.int .i64 xi)) (hej : w.cell? ⟨ej, 2, none⟩ = some (.int .i64 xj))
    (hei3 : w.cell? ⟨ei, 3, none⟩ = some (.int .i64 yi)) (hej3 : w.cell? ⟨ej, 3, none⟩ = some (.int .i64 yj)) :
    Calls Try.prog 71 #[.slice (some ⟨b, 0, none⟩) n c, .int .i64 i, .int .i64 j] w fun e w' => (∃ n, w' = w.drewN n) ∧ e = .returned (.bool (ltK (xi, yi) (xj, yj))) := by
  by_cases hx : xi = xj
  · have hne : (xi != xj) = false := by simp [hx]
    have hr : ltK (xi, yi) (xj, yj) = decide (yi < yj) := by unfold ltK; simp [hx]
    have HR := Lib.hid hr
    clear hr hx
    go_enter Try.func71, Try.ntmps71
    go_wp2
    go_quiet (fail)
    go_wp2
    go_quiet (fail)
    go_wp2
    go_ret
    exact ⟨⟨_, World.drewN_drewN ..⟩, by rw [HR.out]; rfl⟩
  · have hne : (xi != xj) = true := by simp [hx]
    have hr : ltK (xi, yi) (xj, yj) = decide (xi < xj) := by unfold ltK; simp [hx]
    have HR := Lib.hid hr
    clear hr hx
    go_enter Try.func71, Try.ntmps71
    go_wp2
    go_quiet (fail)
    go_wp2
    go_quiet (fail)
    go_wp2
    go_ret
    exact ⟨⟨_, World.drewN_drewN ..⟩, by rw [HR.out]; rfl⟩

/-- Less tells which of two entries of a row comes first. -/
theorem less_any (base : Nat) (v : Value) (l : List Nat) (D : Nat → EntD) (i j : Int) (w : World) (hr : RowOf w base v l) (hD : ∀ e ∈ l, EntAt w e (D e)) (hi0 : 0 ≤ i) (hi : i < l.length) (hj0 : 0 ≤ j) (hj : j < l.length) :
    Calls Try.prog 71 #[v, .int .i64 i, .int .i64 j] w fun e w' => (∃ n, w' = w.drewN n) ∧ e = .returned (.bool (ltK (D (at_ l i.toNat)).key (D (at_ l j.toNat)).key)) := by
  obtain ⟨g, cap, rfl, _, _⟩ := hr.form (by omega)
  have mem : ∀ k, k < l.length → at_ l k ∈ l := fun k hk => by simp [at_, List.getElem?_eq_getElem hk]
  have hdi := hD _ (mem i.toNat (by omega))
  have hdj := hD _ (mem j.toNat (by omega))
  exact less_cells g l.length cap i j _ _ _ _ _ _ w hi0 hi hj0 hj (hr.cell _ (by omega)) (hr.cell _ (by omega)) hdi.c2 hdj.c2 hdi.c3 hdj.c3

set_option maxHeartbeats 400000 in
theorem swap_ne (b n c : Nat) (i j : Int) (pi pj : Option Addr) (w : World)
    (hi0 : 0 ≤ i) (hi : i < n) (hj0 : 0 ≤ j) (hj : j < n) (hne : i.toNat ≠ j.toNat)
    (hci : w.cell? ⟨b, i.toNat, none⟩ = some (.pointer pi)) (hcj : w.cell? ⟨b, j.toNat, none⟩ = some (.pointer pj))
    (hfi : w.frozen? ⟨b, i.toNat, none⟩ = false) (hfj : w.frozen? ⟨b, j.toNat, none⟩ = false) :
    Calls Try.prog 74 #[.slice (some ⟨b, 0, none⟩) n c, .int .i64 i, .int .i64 j] w fun e w' => 
      e = .returned (.tuple #[]) ∧ ∃ n, w' = ((w.setCell ⟨b, i.toNat, none⟩ (.pointer pj)).setCell ⟨b, j.toNat, none⟩ (.pointer pi)).drewN n := by
  go_enter Try.func74, Try.ntmps74
  go_wp2
  go_region
  all_goals (go_end0; exact ⟨rfl, 1, rfl⟩)
set_option maxHeartbeats 400000 in
theorem swap_eq (b n c : Nat) (i : Int) (pi : Option Addr) (w : World)
    (hi0 : 0 ≤ i) (hi : i < n)
    (hci : w.cell? ⟨b, i.toNat, none⟩ = some (.pointer pi))
    (hfi : w.frozen? ⟨b, i.toNat, none⟩ = false) (hc2 : (w.setCell ⟨b, i.toNat, none⟩ (.pointer pi)).cell? ⟨b, i.toNat, none⟩ = some (.pointer pi)) :
    Calls Try.prog 74 #[.slice (some ⟨b, 0, none⟩) n c, .int .i64 i, .int .i64 i] w fun e w' => 
      e = .returned (.tuple #[]) ∧ ∃ n, w' = ((w.setCell ⟨b, i.toNat, none⟩ (.pointer pi)).setCell ⟨b, i.toNat, none⟩ (.pointer pi)).drewN n := by
  go_enter Try.func74, Try.ntmps74
  go_wp2
  go_region
  all_goals (go_end0; exact ⟨rfl, 1, rfl⟩)

def SwapPost (base : Nat) (v : Value) (l : List Nat) (w : World) (i j : Nat) (w' : World) : Prop := RowOf w' base v (swp l i j) ∧ w.grownBy w' v.ownBlock
/-- Swap exchanges two entries of a row. -/
theorem swap_any (base : Nat) (v : Value) (l : List Nat) (i j : Int) (w : World) (hr : RowOf w base v l) (hi0 : 0 ≤ i) (hi : i < l.length) (hj0 : 0 ≤ j) (hj : j < l.length) :
    Calls Try.prog 74 #[v, .int .i64 i, .int .i64 j] w fun e w' => e = .returned (.tuple #[]) ∧ SwapPost base v l w i.toNat j.toNat w' := by
  obtain ⟨g, cap, rfl, _, _⟩ := hr.form (by omega)
  have hci := hr.cell i.toNat (by omega)
  have hcj := hr.cell j.toNat (by omega)
  have post : ∀ n, SwapPost base (.slice (some ⟨g, 0, none⟩) l.length cap) l w i.toNat j.toNat (((w.setCell ⟨g, i.toNat, none⟩ (ptrV (at_ l j.toNat))).setCell ⟨g, j.toNat, none⟩ (ptrV (at_ l i.toNat))).drewN n) := fun n => by
    have h1 := hr.stored i.toNat (at_ l j.toNat) l.length rfl
    have h2 : RowOf ((w.setCell ⟨g, i.toNat, none⟩ (ptrV (at_ l j.toNat))).setCell ⟨g, j.toNat, none⟩ (ptrV (at_ l i.toNat))) base (.slice (some ⟨g, 0, none⟩) l.length cap) (swp l i.toNat j.toNat) := by
      have h1' : RowOf (w.setCell ⟨g, i.toNat, none⟩ (ptrV (at_ l j.toNat))) base (.slice (some ⟨g, 0, none⟩) (l.set i.toNat (at_ l j.toNat)).length cap) (l.set i.toNat (at_ l j.toNat)) := by rw [List.length_set]; exact h1
      exact h1'.stored j.toNat (at_ l i.toNat) l.length (by simp)
    exact ⟨h2.drewN n, grown_drewN ((grown_set g i.toNat _).trans (grown_set g j.toNat _)) n⟩
  by_cases e : i.toNat = j.toNat
  · obtain rfl : i = j := by omega
    refine (swap_eq g l.length cap i _ w hi0 hi hci (hr.frozen _) ?_).mono ?_
    · have hlt : i.toNat < l.length := by omega
      have hs : at_ (l.set i.toNat (at_ l i.toNat)) i.toNat = at_ l i.toNat := by simp [at_, hlt]
      have h3 := (hr.stored i.toNat (at_ l i.toNat) l.length rfl).cell i.toNat (by simpa using hlt)
      rw [hs] at h3
      exact h3
    · rintro e w' ⟨rfl, n, rfl⟩
      exact ⟨rfl, post n⟩
  · refine (swap_ne g l.length cap i j _ _ w hi0 hi hj0 hj e hci hcj (hr.frozen _) (hr.frozen _)).mono ?_
    rintro e w' ⟨rfl, n, rfl⟩
    exact ⟨rfl, post n⟩

end Go.Proofs.Ytipdejalohmkpaa.S
