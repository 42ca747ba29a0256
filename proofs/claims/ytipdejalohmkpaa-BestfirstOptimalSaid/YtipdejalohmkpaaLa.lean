/- What the laws share: the graph in its block, whether it is large, and its opening. -/
import Derived.Test.YtipdejalohmkpaaAw
import Derived.Test.YtipdejalohmkpaaRd
import Derived.ProofKit
import Derived.SizedLaws
import Derived.Lib.SmallJoins
namespace Go.Proofs.Ytipdejalohmkpaa.Gr
open Go.RowKit Go.Proofs.YtipdejalohmkpaaW.PrintWords Go.Proofs.YtipdejalohmkpaaW.PrintLast Go.Proofs.YtipdejalohmkpaaW.PrintMore PBestfirstDistances Rd

theorem large_l1 (xs : List ByteArray) (hx : xs.length ≤ 20) : ∀ (d k i : Nat), xs.length - i = d → i ≤ xs.length → d < k → pentaglotref40_Large.l1 k xs (xs.length : Int) (i : Int) = some ((xs.drop i).any fun s => decide (s.size > 20)) := by
  intro d
  induction d with
  | zero =>
    intro k i hd hi hk
    obtain ⟨k, rfl⟩ : ∃ m, k = m + 1 := ⟨k - 1, by omega⟩
    rw [pentaglotref40_Large.l1, if_neg (by omega), List.drop_eq_nil_of_le (by omega)]
    rfl
  | succ d ih =>
    intro k i hd hi hk
    obtain ⟨k, rfl⟩ : ∃ m, k = m + 1 := ⟨k - 1, by omega⟩
    have hlt : i < xs.length := by omega
    have c1 : (i : Int) < (xs.length : Int) := by omega
    have c0 : 0 ≤ (i : Int) := by omega
    have e1 := ih k (i + 1) (by omega) (by omega) (by omega)
    have hr : rdOf ByteArray.empty xs (i : Int) = xs[i] := by simp [rdOf, hlt]
    have hw : wrap64 ((i : Int) + 1) = ((i + 1 : Nat) : Int) := by rw [w64 (by omega) (by omega)]; omega
    rw [pentaglotref40_Large.l1, if_pos c1, if_pos c0, if_pos c1, hr, hw, e1, List.drop_eq_getElem_cons hlt, List.any_cons]
    by_cases c : xs[i].size > 20
    · rw [if_pos (by exact_mod_cast c)]; simp [c]
    · rw [if_neg (by exact_mod_cast c)]; simp [c]
theorem large_l0 (g : Gph) (hE : g.E.length ≤ 12) (hK : g.K.length ≤ 20) : ∀ (d k i : Nat), g.E.length - i = d → i ≤ g.E.length → d + 30 < k →
    pentaglotref40_Large.l0 k g.E (g.E.length : Int) (i : Int) g.E g.K g.Gs = some (((g.E.drop i).any fun l => decide (l.length > 8)) || g.K.any fun s => decide (s.size > 20)) := by
  intro d
  induction d with
  | zero =>
    intro k i hd hi hk
    obtain ⟨k, rfl⟩ : ∃ m, k = m + 1 := ⟨k - 1, by omega⟩
    have := large_l1 g.K hK g.K.length k 0 (by omega) (by omega) (by omega)
    rw [show ((0 : Nat) : Int) = 0 from rfl, List.drop_zero] at this
    rw [pentaglotref40_Large.l0, if_neg (by omega), List.drop_eq_nil_of_le (by omega), this]
    rfl
  | succ d ih =>
    intro k i hd hi hk
    obtain ⟨k, rfl⟩ : ∃ m, k = m + 1 := ⟨k - 1, by omega⟩
    have hlt : i < g.E.length := by omega
    have c1 : (i : Int) < (g.E.length : Int) := by omega
    have c0 : 0 ≤ (i : Int) := by omega
    have e1 := ih k (i + 1) (by omega) (by omega) (by omega)
    have hr : rd_L2 g.E (i : Int) = g.E[i] := by simp [rd_L2, hlt]
    have hw : wrap64 ((i : Int) + 1) = ((i + 1 : Nat) : Int) := by rw [w64 (by omega) (by omega)]; omega
    rw [pentaglotref40_Large.l0, if_pos c1, if_pos c0, if_pos c1, hr, hw, e1, List.drop_eq_getElem_cons hlt, List.any_cons]
    by_cases c : g.E[i].length > 8
    · rw [if_pos (by exact_mod_cast c)]; simp [c]
    · rw [if_neg (by exact_mod_cast c)]; simp [c]
theorem large_f (g : Gph) : ∃ k, pentaglotref40_Large.f k g.E g.K g.Gs = some g.large := by
  refine ⟨100, ?_⟩
  unfold pentaglotref40_Large.f Gph.large
  by_cases c1 : g.E.length > 12
  · rw [if_pos (by exact_mod_cast c1), pentaglotref40_Large.j0, if_pos rfl]; simp [c1]
  · rw [if_neg (by exact_mod_cast c1)]
    by_cases c2 : g.K.length > 20
    · rw [if_pos (by exact_mod_cast c2), pentaglotref40_Large.j0, if_pos rfl]; simp [c2]
    · rw [if_neg (by exact_mod_cast c2)]
      by_cases c3 : g.Gs.length > 20
      · rw [pentaglotref40_Large.j0, if_pos (by rw [decide_eq_true_iff]; exact_mod_cast c3)]; simp [c3]
      · rw [pentaglotref40_Large.j0, if_neg (by rw [decide_eq_true_iff]; exact_mod_cast c3)]
        have := large_l0 g (by omega) (by omega) g.E.length 99 0 (by omega) (by omega) (by omega)
        rw [show ((0 : Nat) : Int) = 0 from rfl, List.drop_zero] at this
        rw [this]
        simp [c1, c2, c3]

/-- A graph lies in block gb of w. -/
structure GB (g : Gph) (gb : Nat) (w : World) (A0 : Option Addr) (c0 : Nat) (A1 : Option Addr) (c1 : Nat) (A2 : Option Addr) (c2 : Nat) : Prop where
  blk : w.heap[gb]? = some (.cells #[.slice A0 g.E.length c0, .slice A1 g.K.length c1, .slice A2 g.Gs.length c2] 26 (0, 0))
  at_ : GAt g w A0 c0 A1 c1 A2 c2
theorem GB.below {g : Gph} {gb : Nat} {w w' : World} {A0 A1 A2 : Option Addr} {c0 c1 c2 : Nat} (h : GB g gb w A0 c0 A1 c1 A2 c2) (hb : Below w.heap.size w w') : GB g gb w' A0 c0 A1 c1 A2 c2 :=
  ⟨(hb.block gb (Array.getElem?_eq_some_iff.1 h.1).1).trans h.1, h.2.below hb⟩
theorem GB.cells {g : Gph} {gb : Nat} {w : World} {A0 A1 A2 : Option Addr} {c0 c1 c2 : Nat} (h : GB g gb w A0 c0 A1 c1 A2 c2) : w.cell? ⟨gb, 0, none⟩ = some (.slice A0 g.E.length c0) ∧ w.cell? ⟨gb, 1, none⟩ = some (.slice A1 g.K.length c1) ∧ w.cell? ⟨gb, 2, none⟩ = some (.slice A2 g.Gs.length c2) := by
  have h1 := h.1
  refine ⟨?_, ?_, ?_⟩ <;> (unfold World.cell?; rw [h1]; rfl)
theorem GB.make {g : Gph} {w : World} {A0 A1 A2 : Option Addr} {c0 c1 c2 : Nat} (h : GAt g w A0 c0 A1 c1 A2 c2) : GB g w.heap.size (w.alloc (.cells #[.slice A0 g.E.length c0, .slice A1 g.K.length c1, .slice A2 g.Gs.length c2] 26)) A0 c0 A1 c1 A2 c2 :=
  ⟨by show (w.heap.push _)[w.heap.size]? = _; simp, h.alloc _⟩
section
variable {g : Gph} {w : World} {A0 A1 A2 : Option Addr} {c0 c1 c2 : Nat}
theorem glarge_is (h : GAt g w A0 c0 A1 c1 A2 c2) (b : Bool) (hb : g.large = b) :
    Calls Try.prog 12 #[.agg #[.slice A0 g.E.length c0, .slice A1 g.K.length c1, .slice A2 g.Gs.length c2]] w fun e w' => e = .returned (.bool b) ∧ Below w.heap.size w w' := by
  subst hb
  obtain ⟨k, hk⟩ := large_f g
  exact pentaglotref40_Large.calls k A0 c0 g.E A1 c1 g.K A2 c2 g.Gs g.large w h.h0 h.l0 h.h1 h.l1 h.h2 h.l2 hk
theorem ghas_is (h : GAt g w A0 c0 A1 c1 A2 c2) (s : Int) (b : Bool) (hb : g.has s = b) :
    Calls Try.prog 13 #[.agg #[.slice A0 g.E.length c0, .slice A1 g.K.length c1, .slice A2 g.Gs.length c2], .int .i64 s] w fun e w' => e = .returned (.bool b) ∧ Below w.heap.size w w' := by
  subst hb
  exact ghas_any h s
theorem gplain_is (h : GAt g w A0 c0 A1 c1 A2 c2) (b : Bool) (hb : g.plain = b) :
    Calls Try.prog 19 #[.agg #[.slice A0 g.E.length c0, .slice A1 g.K.length c1, .slice A2 g.Gs.length c2]] w fun e w' => e = .returned (.bool b) ∧ Below w.heap.size w w' := by
  subst hb
  exact pentaglotlaw40_plain.calls A0 c0 g.E A1 c1 g.K A2 c2 g.Gs g.plain w h.h0 h.l0 h.h1 h.l1 h.h2 h.l2 (by unfold pentaglotlaw40_plain.f Gph.plain; congr 1; rw [Bool.eq_iff_iff]; simp)
end
theorem op_edge : Opens Try.prog 51 k51 :=
  op_iso (fun x : S51 => (x.f0, x.f1)) (fun y => ⟨y.1, y.2⟩) (fun _ => rfl) (op_struct2 Try.underlying51 (op_int Try.underlying3) (op_int Try.underlying3) rfl (by kernel_rfl) rfl (by kernel_rfl) (by kernel_rfl))
theorem op_edges : Opens Try.prog 22 (Kd.slice 48 (Kd.slice 51 k51)) := op_slice Try.underlying22 (by kernel_rfl) (op_slice Try.underlying48 (by kernel_rfl) op_edge)
theorem op_keys : Opens Try.prog 23 (Kd.slice 9 Kd.string) := op_slice Try.underlying23 (by kernel_rfl) (op_string Try.underlying9)
theorem op_goals : Opens Try.prog 24 (Kd.slice 3 (Kd.int .i64)) := op_slice Try.underlying24 (by kernel_rfl) (op_int Try.underlying3)
/-- Whatever reads as a graph is one. -/
theorem op_graph : Opens Try.prog 26 (Kd.pair (Kd.slice 48 (Kd.slice 51 k51)) (Kd.pair (Kd.slice 9 Kd.string) (Kd.slice 3 (Kd.int .i64)))) :=
  op_struct3 Try.underlying26 op_edges op_keys op_goals rfl (by kernel_rfl) rfl (by kernel_rfl) rfl (by kernel_rfl) (by kernel_rfl)
set_option maxRecDepth 100000 in
theorem open_graph {H : Type} {enc : TypeId × Value → H} {W : World} {r : Reach} {b0 : Nat} {v : Value} {d : DataW H} {p : List MemPlace} (hv : Value.okWide Try.prog W r b0 26 v) (h : DataW.Trod enc Try.prog W 0 (fun _ => true) true 26 v d p) :
    ∃ (g : Gph) (A0 : Option Addr) (c0 : Nat) (A1 : Option Addr) (c1 : Nat) (A2 : Option Addr) (c2 : Nat), v = .agg #[.slice A0 g.E.length c0, .slice A1 g.K.length c1, .slice A2 g.Gs.length c2] ∧ GAt g W A0 c0 A1 c1 A2 c2 := by
  obtain ⟨v0, v1, v2, y0, y1, y2, n, rfl, _, _, t0, t1, t2⟩ := Joins.open_agg3 Try.underlying26 (by kernel_rfl) (by kernel_rfl) hv h
  obtain ⟨E, A0, c0, e0, l0, h0⟩ := op_edges H enc W n _ _ t0
  obtain ⟨K, A1, c1, e1, l1, h1⟩ := op_keys H enc W n _ _ t1
  obtain ⟨G, A2, c2, e2, l2, h2⟩ := op_goals H enc W n _ _ t2
  cases e0; cases e1; cases e2
  exact ⟨⟨E, K, G⟩, A0, c0, A1, c1, A2, c2, rfl, ⟨h0, l0, h1, l1, h2, l2⟩⟩
end Go.Proofs.Ytipdejalohmkpaa.Gr
