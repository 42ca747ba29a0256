/- Part 5 of the proof of Optimal: La, Dw, Di, Oq. -/
import Derived.Test.YtipdejalohmkpaaBOptimal4
import Derived.ProofKit
import Derived.SizedLaws
import Derived.Lib.SmallJoins
import Derived.Test.YtipdejalohmkpaaBOptimal2
import Derived.Deep.QuietTactic
import Derived.BigQuiet
/- What the laws share: the graph in its block, whether it is large, and its opening. -/
namespace Go.Proofs.Ytipdejalohmkpaa.Gr
open Go.RowKit Go.Proofs.YtipdejalohmkpaaW.PrintWords Go.Proofs.YtipdejalohmkpaaW.PrintLast Go.Proofs.YtipdejalohmkpaaW.PrintMore PBestfirstDistances Rd

theorem large_l1 (xs : List ByteArray) (hx : xs.length ≤ 20) : ∀ (d k i : Nat), xs.length - i = d → i ≤ xs.length → d < k → pentaglotref40_Large.l1 k xs (xs.length : Int) (i : Int) = some ((xs.drop i).any fun s => decide (s.size > 20)) := by
  intro d
  induction d with
  | zero =>
    intro k i hd hi hk
    obtain ⟨k, rfl⟩ : ∃ m, k = m + 1 := ⟨k - 1, by omega⟩
    rw [pentaglotref40_Large.l1, if_neg (by omega), List.drop_eq_nil_of_le (by omega)]
    rfl
  | succ d ih =>
    intro k i hd hi hk
    obtain ⟨k, rfl⟩ : ∃ m, k = m + 1 := ⟨k - 1, by omega⟩
    have hlt : i < xs.length := by omega
    have c1 : (i : Int) < (xs.length : Int) := by omega
    have c0 : 0 ≤ (i : Int) := by omega
    have e1 := ih k (i + 1) (by omega) (by omega) (by omega)
    have hr : rdOf ByteArray.empty xs (i : Int) = xs[i] := by simp [rdOf, hlt]
    have hw : wrap64 ((i : Int) + 1) = ((i + 1 : Nat) : Int) := by rw [w64 (by omega) (by omega)]; omega
    rw [pentaglotref40_Large.l1, if_pos c1, if_pos c0, if_pos c1, hr, hw, e1, List.drop_eq_getElem_cons hlt, List.any_cons]
    by_cases c : xs[i].size > 20
    · rw [if_pos (by exact_mod_cast c)]; simp [c]
    · rw [if_neg (by exact_mod_cast c)]; simp [c]
theorem large_l0 (g : Gph) (hE : g.E.length ≤ 12) (hK : g.K.length ≤ 20) : ∀ (d k i : Nat), g.E.length - i = d → i ≤ g.E.length → d + 30 < k →
    pentaglotref40_Large.l0 k g.E (g.E.length : Int) (i : Int) g.E g.K g.Gs = some (((g.E.drop i).any fun l => decide (l.length > 8)) || g.K.any fun s => decide (s.size > 20)) := by
  intro d
  induction d with
  | zero =>
    intro k i hd hi hk
    obtain ⟨k, rfl⟩ : ∃ m, k = m + 1 := ⟨k - 1, by omega⟩
    have := large_l1 g.K hK g.K.length k 0 (by omega) (by omega) (by omega)
    rw [show ((0 : Nat) : Int) = 0 from rfl, List.drop_zero] at this
    rw [pentaglotref40_Large.l0, if_neg (by omega), List.drop_eq_nil_of_le (by omega), this]
    rfl
  | succ d ih =>
    intro k i hd hi hk
    obtain ⟨k, rfl⟩ : ∃ m, k = m + 1 := ⟨k - 1, by omega⟩
    have hlt : i < g.E.length := by omega
    have c1 : (i : Int) < (g.E.length : Int) := by omega
    have c0 : 0 ≤ (i : Int) := by omega
    have e1 := ih k (i + 1) (by omega) (by omega) (by omega)
    have hr : rd_L2 g.E (i : Int) = g.E[i] := by simp [rd_L2, hlt]
    have hw : wrap64 ((i : Int) + 1) = ((i + 1 : Nat) : Int) := by rw [w64 (by omega) (by omega)]; omega
    rw [pentaglotref40_Large.l0, if_pos c1, if_pos c0, if_pos c1, hr, hw, e1, List.drop_eq_getElem_cons hlt, List.any_cons]
    by_cases c : g.E[i].length > 8
    · rw [if_pos (by exact_mod_cast c)]; simp [c]
    · rw [if_neg (by exact_mod_cast c)]; simp [c]
theorem large_f (g : Gph) : ∃ k, pentaglotref40_Large.f k g.E g.K g.Gs = some g.large := by
  refine ⟨100, ?_⟩
  unfold pentaglotref40_Large.f Gph.large
  by_cases c1 : g.E.length > 12
  · rw [if_pos (by exact_mod_cast c1), pentaglotref40_Large.j0, if_pos rfl]; simp [c1]
  · rw [if_neg (by exact_mod_cast c1)]
    by_cases c2 : g.K.length > 20
    · rw [if_pos (by exact_mod_cast c2), pentaglotref40_Large.j0, if_pos rfl]; simp [c2]
    · rw [if_neg (by exact_mod_cast c2)]
      by_cases c3 : g.Gs.length > 20
      · rw [pentaglotref40_Large.j0, if_pos (by rw [decide_eq_true_iff]; exact_mod_cast c3)]; simp [c3]
      · rw [pentaglotref40_Large.j0, if_neg (by rw [decide_eq_true_iff]; exact_mod_cast c3)]
        have := large_l0 g (by omega) (by omega) g.E.length 99 0 (by omega) (by omega) (by omega)
        rw [show ((0 : Nat) : Int) = 0 from rfl, List.drop_zero] at this
        rw [this]
        simp [c1, c2, c3]

/-- A graph lies in block gb of w. -/
structure GB (g : Gph) (gb : Nat) (w : World) (A0 : Option Addr) (c0 : Nat) (A1 : Option Addr) (c1 : Nat) (A2 : Option Addr) (c2 : Nat) : Prop where
  blk : w.heap[gb]? = some (.cells #[.slice A0 g.E.length c0, .slice A1 g.K.length c1, .slice A2 g.Gs.length c2] 26 (0, 0))
  at_ : GAt g w A0 c0 A1 c1 A2 c2
theorem GB.below {g : Gph} {gb : Nat} {w w' : World} {A0 A1 A2 : Option Addr} {c0 c1 c2 : Nat} (h : GB g gb w A0 c0 A1 c1 A2 c2) (hb : Below w.heap.size w w') : GB g gb w' A0 c0 A1 c1 A2 c2 :=
  ⟨(hb.block gb (Array.getElem?_eq_some_iff.1 h.1).1).trans h.1, h.2.below hb⟩
theorem GB.cells {g : Gph} {gb : Nat} {w : World} {A0 A1 A2 : Option Addr} {c0 c1 c2 : Nat} (h : GB g gb w A0 c0 A1 c1 A2 c2) : w.cell? ⟨gb, 0, none⟩ = some (.slice A0 g.E.length c0) ∧ w.cell? ⟨gb, 1, none⟩ = some (.slice A1 g.K.length c1) ∧ w.cell? ⟨gb, 2, none⟩ = some (.slice A2 g.Gs.length c2) := by
  have h1 := h.1
  refine ⟨?_, ?_, ?_⟩ <;> (unfold World.cell?; rw [h1]; rfl)
theorem GB.make {g : Gph} {w : World} {A0 A1 A2 : Option Addr} {c0 c1 c2 : Nat} (h : GAt g w A0 c0 A1 c1 A2 c2) : GB g w.heap.size (w.alloc (.cells #[.slice A0 g.E.length c0, .slice A1 g.K.length c1, .slice A2 g.Gs.length c2] 26)) A0 c0 A1 c1 A2 c2 :=
  ⟨by show (w.heap.push _)[w.heap.size]? = _; simp, h.alloc _⟩
section
variable {g : Gph} {w : World} {A0 A1 A2 : Option Addr} {c0 c1 c2 : Nat}
theorem glarge_is (h : GAt g w A0 c0 A1 c1 A2 c2) (b : Bool) (hb : g.large = b) :
    Calls Try.prog 12 #[.agg #[.slice A0 g.E.length c0, .slice A1 g.K.length c1, .slice A2 g.Gs.length c2]] w fun e w' => e = .returned (.bool b) ∧ Below w.heap.size w w' := by
  subst hb
  obtain ⟨k, hk⟩ := large_f g
  exact pentaglotref40_Large.calls k A0 c0 g.E A1 c1 g.K A2 c2 g.Gs g.large w h.h0 h.l0 h.h1 h.l1 h.h2 h.l2 hk
theorem ghas_is (h : GAt g w A0 c0 A1 c1 A2 c2) (s : Int) (b : Bool) (hb : g.has s = b) :
    Calls Try.prog 13 #[.agg #[.slice A0 g.E.length c0, .slice A1 g.K.length c1, .slice A2 g.Gs.length c2], .int .i64 s] w fun e w' => e = .returned (.bool b) ∧ Below w.heap.size w w' := by
  subst hb
  exact ghas_any h s
theorem gplain_is (h : GAt g w A0 c0 A1 c1 A2 c2) (b : Bool) (hb : g.plain = b) :
    Calls Try.prog 19 #[.agg #[.slice A0 g.E.length c0, .slice A1 g.K.length c1, .slice A2 g.Gs.length c2]] w fun e w' => e = .returned (.bool b) ∧ Below w.heap.size w w' := by
  subst hb
  exact pentaglotlaw40_plain.calls A0 c0 g.E A1 c1 g.K A2 c2 g.Gs g.plain w h.h0 h.l0 h.h1 h.l1 h.h2 h.l2 (by unfold pentaglotlaw40_plain.f Gph.plain; congr 1; rw [Bool.eq_iff_iff]; simp)
end
theorem op_edge : Opens Try.prog 51 k51 :=
  op_iso (fun x : S51 => (x.f0, x.f1)) (fun y => ⟨y.1, y.2⟩) (fun _ => rfl) (op_struct2 Try.underlying51 (op_int Try.underlying3) (op_int Try.underlying3) rfl (by kernel_rfl) rfl (by kernel_rfl) (by kernel_rfl))
theorem op_edges : Opens Try.prog 22 (Kd.slice 48 (Kd.slice 51 k51)) := op_slice Try.underlying22 (by kernel_rfl) (op_slice Try.underlying48 (by kernel_rfl) op_edge)
theorem op_keys : Opens Try.prog 23 (Kd.slice 9 Kd.string) := op_slice Try.underlying23 (by kernel_rfl) (op_string Try.underlying9)
theorem op_goals : Opens Try.prog 24 (Kd.slice 3 (Kd.int .i64)) := op_slice Try.underlying24 (by kernel_rfl) (op_int Try.underlying3)
/-- Whatever reads as a graph is one. -/
theorem op_graph : Opens Try.prog 26 (Kd.pair (Kd.slice 48 (Kd.slice 51 k51)) (Kd.pair (Kd.slice 9 Kd.string) (Kd.slice 3 (Kd.int .i64)))) :=
  op_struct3 Try.underlying26 op_edges op_keys op_goals rfl (by kernel_rfl) rfl (by kernel_rfl) rfl (by kernel_rfl) (by kernel_rfl)
set_option maxRecDepth 100000 in
theorem open_graph {H : Type} {enc : TypeId × Value → H} {W : World} {r : Reach} {b0 : Nat} {v : Value} {d : DataW H} {p : List MemPlace} (hv : Value.okWide Try.prog W r b0 26 v) (h : DataW.Trod enc Try.prog W 0 (fun _ => true) true 26 v d p) :
    ∃ (g : Gph) (A0 : Option Addr) (c0 : Nat) (A1 : Option Addr) (c1 : Nat) (A2 : Option Addr) (c2 : Nat), v = .agg #[.slice A0 g.E.length c0, .slice A1 g.K.length c1, .slice A2 g.Gs.length c2] ∧ GAt g W A0 c0 A1 c1 A2 c2 := by
  obtain ⟨v0, v1, v2, y0, y1, y2, n, rfl, _, _, t0, t1, t2⟩ := Joins.open_agg3 Try.underlying26 (by kernel_rfl) (by kernel_rfl) hv h
  obtain ⟨E, A0, c0, e0, l0, h0⟩ := op_edges H enc W n _ _ t0
  obtain ⟨K, A1, c1, e1, l1, h1⟩ := op_keys H enc W n _ _ t1
  obtain ⟨G, A2, c2, e2, l2, h2⟩ := op_goals H enc W n _ _ t2
  cases e0; cases e1; cases e2
  exact ⟨⟨E, K, G⟩, A0, c0, A1, c1, A2, c2, rfl, ⟨h0, l0, h1, l1, h2, l2⟩⟩
end Go.Proofs.Ytipdejalohmkpaa.Gr

/- `distances` computes least costs by repeated relaxation: the walk, by hand. -/
namespace Go.Proofs.Ytipdejalohmkpaa.Gr
open Go.RowKit Go.Proofs.YtipdejalohmkpaaW.PrintWords Go.Proofs.YtipdejalohmkpaaW.PrintLast Go.Proofs.YtipdejalohmkpaaW.PrintMore PBestfirstDistances
variable {g : Gph} {w : World} {A0 A1 A2 : Option Addr} {c0 c1 c2 : Nat}
theorem len12w (hl : g.large = false) : g.E.length ≤ 12 := by
  have := dom_len g hl; unfold Gph.dom at this; rwa [List.length_map, List.length_range] at this
theorem keepd {w w' : World} {a : Addr} {v : Value} (hb : Below w.heap.size w w') (h : w.cell? a = some v) : w'.cell? a = some v := (hb.cell (World.block_lt_of_cell? w _ h)).trans h
theorem nxt_len (hl : g.large = false) (s : Int) : (g.next s).length < 1000000 := by
  have := next_len g hl s
  omega
/-- The list that is being computed lies in block go. -/
def DwAt (W1 : World) (n go co : Nat) (o : List Int) (wr : World) : Prop :=
  (Kd.int .i64).R 3 wr W1.heap.size (fun _ => True) (.slice (some ⟨go, 0, none⟩) n co) o ∧ Below W1.heap.size W1 wr
def Dw0 (W1 : World) (n go co : Nat) (v17 : Value) (wr : World) : Prop :=
  ∃ i : Nat, i ≤ n ∧ v17 = .int .i64 i ∧ DwAt W1 n go co (List.replicate i 1099511627777 ++ List.replicate (n - i) 0) wr
def Dw1 (g : Gph) (s : Int) (W1 : World) (n go co : Nat) (v7 : Value) (wr : World) : Prop :=
  ∃ (j : Nat) (o : List Int), j ≤ n ∧ v7 = .int .i64 j ∧ Snd g s o ∧ rounds g (n - j) o = dists g s ∧ DwAt W1 n go co o wr
def Dw2 (g : Gph) (s : Int) (W1 : World) (n go co j : Nat) (v35 : Value) (wr : World) : Prop :=
  ∃ (i : Nat) (o : List Int), i ≤ n ∧ v35 = .int .i64 i ∧ Snd g s o ∧ rounds g (n - (j + 1)) (sweep g (n - i) i o) = dists g s ∧ DwAt W1 n go co o wr
def Dw3 (g : Gph) (s : Int) (W1 : World) (n go co j i B : Nat) (An : Option Addr) (cn : Nat) (v42 : Value) (wr : World) : Prop :=
  ∃ (k : Nat) (o : List Int), k ≤ (g.next i).length ∧ v42 = .int .i64 k ∧ Snd g s o ∧ rounds g (n - (j + 1)) (sweep g (n - (i + 1)) (i + 1) (relaxAll o i ((g.next i).drop k))) = dists g s ∧ DwAt W1 n go co o wr ∧
    Kd.R k51 51 wr B (fun k => k ≠ go) (.slice An (g.next i).length cn) (g.next i)
theorem DwAt.box {W1 : World} {n go co : Nat} {o : List Int} {wr : World} (h : DwAt W1 n go co o wr) (ob : Obj) (nq : Nat) : DwAt W1 n go co o ((wr.alloc ob).drewN nq) :=
  ⟨Kd.R_drewN (Kd.R_alloc h.1 _) _, pw_below_drewN (below_alloc h.2 _) _⟩
theorem relaxAll_at {o : List Int} {i : Int} {nx : List S51} {k : Nat} (hk : k < nx.length) : relaxAll o i (nx.drop k) = relaxAll (relax o i nx[k]) i (nx.drop (k + 1)) := by
  rw [List.drop_eq_getElem_cons hk]; rfl
theorem relax_no {o : List Int} {i : Int} {x : S51} (h : ¬ (0 ≤ x.f1 ∧ x.f1 ≤ 1099511627776 ∧ rd o i < 1099511627777 ∧ rd o i + x.f1 < rd o x.f0)) : relax o i x = o := if_neg h
theorem relax_yes {o : List Int} {i : Int} {x : S51} (h : 0 ≤ x.f1 ∧ x.f1 ≤ 1099511627776 ∧ rd o i < 1099511627777 ∧ rd o i + x.f1 < rd o x.f0) : relax o i x = o.set x.f0.toNat (rd o i + x.f1) := if_pos h
theorem DwAt.set {W1 : World} {n go co : Nat} {o : List Int} {wr : World} (h : DwAt W1 n go co o wr) (hgo : W1.heap.size ≤ go) (i x : Int) : DwAt W1 n go co (o.set i.toNat x) (wr.setCell ⟨go, i.toNat, none⟩ (.int .i64 x)) :=
  ⟨(Kd.R_putg h.1 i x).1, below_set h.2 hgo⟩
theorem far_set (n i : Nat) (h : i < n) : (List.replicate i (1099511627777 : Int) ++ List.replicate (n - i) 0).set i 1099511627777 = List.replicate (i + 1) 1099511627777 ++ List.replicate (n - (i + 1)) 0 := by
  rw [List.set_append_right _ _ (by simp), List.length_replicate, Nat.sub_self, show n - i = (n - (i + 1)) + 1 by omega, List.replicate_succ, List.set_cons_zero, List.replicate_succ', List.append_assoc]
  rfl
set_option maxRecDepth 1000000 in
set_option maxHeartbeats 8000000 in
theorem ldists_is (h : GAt g w A0 c0 A1 c1 A2 c2) (hl : g.large = false) (s : Int) (hs : g.has s = true) :
    Calls Try.prog 20 #[.agg #[.slice A0 g.E.length c0, .slice A1 g.K.length c1, .slice A2 g.Gs.length c2], .int .i64 s] w fun e w' => ∃ (B : Option Addr) (d : Nat), e = .returned (.slice B (dists g s).length d) ∧ (dists g s).length ≤ d ∧ (Kd.int .i64).C w' B (dists g s).length (dists g s) ∧ Below w.heap.size w w' := by
  have HA := Lib.hid (show Below w.heap.size w (w.alloc (.cells #[.slice A0 g.E.length c0, .slice A1 g.K.length c1, .slice A2 g.Gs.length c2] 26)) from (Below.refl _ _).alloc (Nat.le_refl _) _)
  have HGB := Lib.hid (GB.make h)
  have HL := Lib.hid hl
  have HS := Lib.hid hs
  have HN := Lib.hid (has_iff.1 hs)
  have HN12 := Lib.hid (len12w hl)
  have HI0 := Lib.hid (init_snd hs)
  clear h hl hs
  obtain ⟨n, hn⟩ : ∃ n, g.E.length = n := ⟨_, rfl⟩
  have HNE := Lib.hid hn
  have hN := HN.out
  have hN12 := HN12.out
  rw [hn] at hN hN12
  have hn0 : 0 ≤ (n : Int) := by omega
  have hn1 : (n : Int).toNat ≤ 35184372088832 := by omega
  obtain ⟨q0, q1, q2⟩ := HGB.out.cells
  rw [hn] at q0
  rw [hn]
  go_enter Try.func20, Try.ntmps20
  rw [hn] at HA HGB
  generalize hw1 : w.alloc (.cells #[.slice A0 n c0, .slice A1 g.K.length c1, .slice A2 g.Gs.length c2] 26) = w1 at HA HGB q0 q1 q2
  clear hn
  go_wp2_with (first | ((with_reducible refine gate_dst (N := 14) rfl ?_); refine Kd.R_make (Kd.int .i64) _ 3 rfl (N := 14) rfl 24 _ _ rfl (n : Int) rfl rfl Try.underlying24 (.int .i64 0) 8 (by kernel_rfl) rfl (by decide) (by omega) (0 : Int) (ok := fun _ => True) (okp := fun _ => True) rfl (fun _ hk => hk) trivial hn0 (Nat.le_trans (Nat.mul_le_mul_right _ hn1) (by omega)) (Below.refl _ _) (Nat.le_refl _) ?_; intro v7 w7 ho7 hb7 hg7 hnew7; clear hg7 hnew7; obtain ⟨go, co, rfl, hgo, hgl, hgc⟩ := Kd.R_form ho7 (by simp; omega); simp only [List.length_replicate, Int.toNat_natCast] at ho7 ⊢; have HO7 := Lib.hid ho7; have HB7 := Lib.hid hb7; have HGO := Lib.hid hgo; clear hgl hgc ho7 hb7 hgo))
  have HI := Lib.hid (show Dw0 w1 n go co (.int .i64 0) w7 from ⟨0, Nat.zero_le _, rfl, HO7.out, HB7.out⟩)
  clear HO7 HB7
  go_loopw [17] (fun v17 wr => Dw0 w1 n go co v17 wr) (fun v17 _ => n - (intOf v17).toNat)
  case atStart => exact HI.out
  case round =>
    clear HI
    obtain ⟨i, hi, rfl, hD⟩ := hrel
    have HD := Lib.hid hD
    clear hD
    by_cases hlt : i < n
    · have hi0 : 0 ≤ (i : Int) := by omega
      have hi1 : (i : Int) < (n : Int) := by omega
      obtain ⟨hs1, hs2⟩ := Kd.R_celln 0 HD.out.1 (i : Int) hi0 hi1
      rw [Int.toNat_natCast] at hs1 hs2
      have HSET := Lib.hid (HD.out.set HGO.out (i : Int) 1099511627777)
      have HFS := Lib.hid (far_set n i hlt)
      rw [Int.toNat_natCast] at HSET
      clear HD
      go_wp2_with (first | ((with_reducible refine gate_store (t := 3) (p := 22) rfl ?_); refine store_event (t := 3) (p := 22) (v := ?vo) (w1 := (wr.setCell ⟨go, i, none⟩ (.int .i64 1099511627777))) ?hg ?ho ?hn ?hr ?_; (case ho => rfl); (case hg => rfl); (case hn => rfl); (case hr => first | (go_simp; done) | (go_simp; rfl)); intro w12 hw12; have HW12 := Lib.hid hw12; clear hw12))
      go_roundw
      case rel => exact ⟨i + 1, by omega, by go_num, by rw [HW12.out, ← HFS.out]; exact HSET.out⟩
      case measure => simp [intOf]; omega
    · obtain rfl : n = i := by omega
      have HD1 : Hid (DwAt w1 n go co (List.replicate n 1099511627777) wr) := by
        have h := HD.out
        rw [Nat.sub_self, List.replicate_zero, List.append_nil] at h
        exact Lib.hid h
      clear HD hlt hi
      have hs0 : 0 ≤ s := hN.1
      have hsn : s < (n : Int) := hN.2
      obtain ⟨hs1, hs2⟩ := Kd.R_celln 0 HD1.out.1 s hs0 hsn
      have HSET := Lib.hid (HD1.out.set HGO.out s 0)
      clear HD1
      go_wp2
      clear hs1 hs2
      have HI := Lib.hid (show Dw1 g s w1 n go co (.int .i64 0) (wr.setCell ⟨go, s.toNat, none⟩ (.int .i64 0)) from ⟨0, _, Nat.zero_le _, rfl, HI0.out, by rw [Nat.sub_zero]; unfold dists; rw [HNE.out], by rw [HNE.out]; exact HSET.out⟩)
      clear HSET
      generalize wr.setCell ⟨go, s.toNat, none⟩ (.int .i64 0) = w12 at HI ⊢
      go_loopw [7] (fun v7 wr => Dw1 g s w1 n go co v7 wr) (fun v7 _ => n - (intOf v7).toNat)
      case atStart => exact HI.out
      case round =>
        clear HI
        obtain ⟨j, o, hj, rfl, hsnd, hrd, hD⟩ := hrel
        have HSND := Lib.hid hsnd
        have HRD := Lib.hid hrd
        have HD := Lib.hid hD
        clear hsnd hrd hD
        by_cases hlt : j < n
        · have HI := Lib.hid (show Dw2 g s w1 n go co j (.int .i64 0) wr from ⟨0, o, Nat.zero_le _, rfl, HSND.out, by
            have h := HRD.out
            rw [show n - j = (n - (j + 1)) + 1 by omega] at h
            rw [Nat.sub_zero, ← HNE.out]
            rw [← HNE.out] at h
            exact h, HD.out⟩)
          clear HD HSND HRD
          go_wp2
          go_loopw [35] (fun v35 wr => Dw2 g s w1 n go co j v35 wr) (fun v35 _ => n - (intOf v35).toNat)
          case atStart => exact HI.out
          case round =>
            clear HI
            obtain ⟨i, o, hi, rfl, hsnd, hrd, hD⟩ := hrel
            have HSND := Lib.hid hsnd
            have HRD := Lib.hid hrd
            have HD := Lib.hid hD
            clear hsnd hrd hD
            by_cases hlt2 : i < n
            · have HGBw := Lib.hid (HGB.out.below HD.out.2)
              have HQ := Lib.hid HGBw.out.cells
              obtain ⟨p0, p1, p2⟩ := HQ.out
              have hp0 : wr.cell? ⟨w.heap.size, 0, none⟩ = some (.slice A0 n c0) := by rw [← HNE.out]; exact p0
              clear q0 q1 q2 p0
              have HCALL := Lib.hid (gnext_any HGBw.out.at_ HL.out (i : Int))
              rw [HNE.out] at HCALL
              go_wp2_with fail
              refine HCALL.out.mono ?_
              rintro en w8 ⟨vn, rfl, hvn, hb8⟩
              obtain ⟨An, cn, rfl, hlc, hCn⟩ := Kd.R_reads hvn
              have HD8 := Lib.hid (show DwAt w1 n go co o w8 from ⟨Kd.R_below HD.out.1 hb8, below_then HD.out.2 HD.out.2.size hb8⟩)
              have HGO8 := Lib.hid (show go < wr.heap.size from by
                obtain ⟨gg, cap, e1, _, e2, _⟩ := Kd.R_form HD.out.1 (by rw [HSND.out.len, HNE.out]; omega)
                injection e1 with e1
                injection e1 with e1
                injection e1 with e1
                subst e1
                exact e2)
              have HRX := Lib.hid (show Kd.R k51 51 w8 wr.heap.size (fun k => k ≠ go) (.slice An (g.next i).length cn) (g.next i) from Kd.R_mono (Kd.R_bound hvn) (fun k hk => by have := hk.2.1; have := HGO8.out; omega))
              clear hvn hlc hCn hb8 HCALL hp0 p1 p2 HQ
              generalize wr.heap.size = B at HRX HGO8
              have HI := Lib.hid (show Dw3 g s w1 n go co j i B An cn (.int .i64 0) w8 from ⟨0, o, Nat.zero_le _, rfl, HSND.out, by
                have h := HRD.out
                rw [show n - i = (n - (i + 1)) + 1 by omega] at h
                rw [List.drop_zero]
                exact h, HD8.out, HRX.out⟩)
              have HNX := Lib.hid (next_len g HL.out (i : Int))
              have HHAS := Lib.hid (has_iff.2 (show 0 ≤ (i : Int) ∧ (i : Int) < (g.E.length : Int) by rw [HNE.out]; omega))
              clear HD HSND HRD HD8 HRX
              go_wp2
              go_loopw [42] (fun v42 wr => Dw3 g s w1 n go co j i B An cn v42 wr) (fun v42 _ => (g.next i).length - (intOf v42).toNat)
              case atStart => exact HI.out
              case round =>
                clear HI
                obtain ⟨k, o, hk, rfl, hsnd, hrd, hD, hR⟩ := hrel
                have HSND := Lib.hid hsnd
                have HRD := Lib.hid hrd
                have HD := Lib.hid hD
                have HR := Lib.hid hR
                clear hsnd hrd hD hR
                by_cases hlt3 : k < (g.next i).length
                · obtain ⟨ad, rfl, hx0, hx1⟩ := at_T51 (Kd.R_reads' HR.out).2.2 (k : Int) (by omega) (by omega)
                  have hrd51 : rd_T51 (g.next i) (k : Int) = (g.next i)[k] := by simp [rd_T51, hlt3]
                  rw [hrd51, Int.toNat_natCast] at hx0 hx1
                  clear hrd51
                  rw [relaxAll_at hlt3] at HRD
                  have HX := Lib.hid (has_iff.1 (next_has (List.getElem_mem hlt3)))
                  have HSX := Lib.hid (HSND.out.relax HHAS.out (List.getElem_mem hlt3)).1
                  obtain ⟨x, ex⟩ : ∃ x, (g.next i)[k] = x := ⟨_, rfl⟩
                  rw [ex] at hx0 hx1 HRD HX HSX
                  clear ex
                  rw [HNE.out] at HX
                  obtain ⟨x0, ex0⟩ : ∃ y, x.f0 = y := ⟨_, rfl⟩
                  obtain ⟨c, ex1⟩ : ∃ y, x.f1 = y := ⟨_, rfl⟩
                  have HE0 := Lib.hid ex0
                  have HE1 := Lib.hid ex1
                  rw [ex0] at hx0 HX
                  rw [ex1] at hx1
                  clear ex0 ex1
                  have HRAN := Lib.hid (HSND.out.ran i HHAS.out)
                  obtain ⟨hX0, hX1⟩ := HX.out
                  have hi0 : 0 ≤ (i : Int) := by omega
                  have hi1 : (i : Int) < (n : Int) := by omega
                  have hk0 : 0 ≤ (k : Int) := by omega
                  have hk1 : (k : Int) < ((g.next i).length : Int) := by omega
                  have hnx := HNX.out
                  obtain ⟨hq1, hq2⟩ := Kd.R_celln 0 HD.out.1 (i : Int) hi0 hi1
                  obtain ⟨hp1, hp2⟩ := Kd.R_celln 0 HD.out.1 x0 hX0 hX1
                  obtain ⟨q, eq⟩ : ∃ y, rd o i = y := ⟨_, rfl⟩
                  obtain ⟨p, ep⟩ : ∃ y, rd o x0 = y := ⟨_, rfl⟩
                  replace hq1 : wr.cell? ⟨go, i, none⟩ = some (.int .i64 q) := by rw [← eq]; exact hq1
                  replace hp1 : wr.cell? ⟨go, x0.toNat, none⟩ = some (.int .i64 p) := by rw [← ep]; exact hp1
                  rw [eq] at HRAN
                  have HEQ := Lib.hid eq
                  have HEP := Lib.hid ep
                  clear eq ep hq2 hp2
                  have HBX := Lib.hid ((Below.refl wr.heap.size wr).alloc (Nat.le_refl _) (.cells #[.int .i64 x0, .int .i64 c] 51))
                  replace hq1 := keepd HBX.out hq1
                  replace hp1 := keepd HBX.out hp1
                  by_cases a1 : 0 ≤ c
                  · have g1 : decide (0 ≤ c) = true := decide_eq_true a1
                    by_cases a2 : c ≤ 1099511627776
                    · have g2 : decide (c ≤ 1099511627776) = true := decide_eq_true a2
                      by_cases a3 : q < 1099511627777
                      · have g3 : decide (q < 1099511627777) = true := decide_eq_true a3
                        have hwr : IntKind.i64.wrap (q + c) = q + c := by
                          have := HRAN.out
                          rw [i64_w]; exact w64 (by omega) (by omega)
                        by_cases a4 : q + c < p
                        · have g4 : decide (q + c < p) = true := decide_eq_true a4
                          have HNO := Lib.hid (relax_yes (o := o) (i := i) (x := x) (by rw [HE0.out, HE1.out, HEQ.out, HEP.out]; exact ⟨a1, a2, a3, a4⟩))
                          rw [HE0.out, HE1.out, HEQ.out] at HNO
                          clear a1 a2 a3 a4
                          go_wp2
                          go_quiet (fail)
                          go_wp2
                          have HNC := Lib.hid (show (((wr.alloc (.cells #[.int .i64 x0, .int .i64 c] 51)).drewN nq).drew.cell? ⟨wr.heap.size, 0, none⟩ = some (.int .i64 x0)) ∧ (((wr.alloc (.cells #[.int .i64 x0, .int .i64 c] 51)).drewN nq).drew.cell? ⟨wr.heap.size, 1, none⟩ = some (.int .i64 c)) from ⟨by simp, by simp⟩)
                          have HDN := Lib.hid (show DwAt w1 n go co o (((wr.alloc (.cells #[.int .i64 x0, .int .i64 c] 51)).drewN nq).drew) from ⟨Kd.R_drew (HD.out.box _ _).1, (HD.out.box _ _).2.drew⟩)
                          have HRN := Lib.hid (Kd.R_drew (Kd.R_drewN (Kd.R_alloc HR.out (.cells #[.int .i64 x0, .int .i64 c] 51)) nq))
                          have hq3 : (((wr.alloc (.cells #[.int .i64 x0, .int .i64 c] 51)).drewN nq).drew).cell? ⟨go, i, none⟩ = some (.int .i64 q) := hq1
                          clear hq1 hp1 HBX hx0 hx1
                          refine start_ (n := 12) (S := fun w' => w'.cell? ⟨wr.heap.size, 0, none⟩ = some (.int .i64 x0) ∧ w'.cell? ⟨wr.heap.size, 1, none⟩ = some (.int .i64 c) ∧ w'.cell? ⟨go, i, none⟩ = some (.int .i64 q)) (ds := [11]) #[false, false, false, false, false, false, false, false, false, false, false, false] (by kernel_rfl) rfl rfl ⟨HNC.out.1, HNC.out.2, hq3⟩ (fun hHeld => ?_)
                          clear hq3 HNC
                          generalize (((wr.alloc (.cells #[.int .i64 x0, .int .i64 c] 51)).drewN nq).drew) = w10 at HDN HRN hHeld ⊢
                          obtain ⟨hp1, hp2⟩ := Kd.R_celln 0 HDN.out.1 x0 hX0 hX1
                          have HSET := Lib.hid (HDN.out.set HGO.out x0 (q + c))
                          have HRS := Lib.hid (Kd.R_far (p := ⟨go, x0.toNat, none⟩) HRN.out (fun k hk => hk) (.int .i64 (q + c)))
                          refine pure_ (i := 0) (N := (some 76)) (v := ?_) (a' := ?_) #[true, false, false, false, false, false, false, false, false, false, false, false] rfl rfl (by kernel_rfl) (fun _ _ _ h => h) (Or.inl ⟨by rfl, ?_⟩) ?_ ?_
                          rotate_left
                          · intro w'
                            go_simp
                            with_reducible rfl
                          rotate_left
                          · simp only [Act.put, List.setIfInBounds_toArray, List.set_cons_zero, List.set_cons_succ]
                            rfl
                          refine pure_ (i := 1) (N := (some 77)) (v := ?_) (a' := ?_) #[true, true, false, false, false, false, false, false, false, false, false, false] rfl rfl (by kernel_rfl) (fun _ _ _ h => h) (Or.inl ⟨by rfl, ?_⟩) ?_ ?_
                          rotate_left
                          · intro w'
                            go_simp
                            with_reducible rfl
                          rotate_left
                          · simp only [Act.put, List.setIfInBounds_toArray, List.set_cons_zero, List.set_cons_succ]
                            rfl
                          refine take_ (i := 2) (N := (some 78)) (v := ?_) (a' := ?_) #[true, true, true, false, false, false, false, false, false, false, false, false] rfl rfl (by kernel_rfl) (fun _ _ _ h => h) (Or.inl ⟨by rfl, ?_⟩) hHeld ?_ ?_
                          rotate_left
                          · rintro w' ⟨s0, s1, s2⟩
                            go_simp
                            with_reducible rfl
                          rotate_left
                          · simp only [Act.put, List.setIfInBounds_toArray, List.set_cons_zero, List.set_cons_succ]
                            rfl
                          refine pure_ (i := 3) (N := (some 79)) (v := ?_) (a' := ?_) #[true, true, true, true, false, false, false, false, false, false, false, false] rfl rfl (by kernel_rfl) (fun _ _ _ h => h) (Or.inl ⟨by rfl, ?_⟩) ?_ ?_
                          rotate_left
                          · intro w'
                            go_simp
                            with_reducible rfl
                          rotate_left
                          · simp only [Act.put, List.setIfInBounds_toArray, List.set_cons_zero, List.set_cons_succ]
                            rfl
                          refine pure_ (i := 4) (N := (some 80)) (v := ?_) (a' := ?_) #[true, true, true, true, true, false, false, false, false, false, false, false] rfl rfl (by kernel_rfl) (fun _ _ _ h => h) (Or.inl ⟨by rfl, ?_⟩) ?_ ?_
                          rotate_left
                          · intro w'
                            go_simp
                            with_reducible rfl
                          rotate_left
                          · simp only [Act.put, List.setIfInBounds_toArray, List.set_cons_zero, List.set_cons_succ]
                            rfl
                          refine pure_ (i := 5) (N := (some 81)) (v := ?_) (a' := ?_) #[true, true, true, true, true, true, false, false, false, false, false, false] rfl rfl (by kernel_rfl) (fun _ _ _ h => h) (Or.inl ⟨by rfl, ?_⟩) ?_ ?_
                          rotate_left
                          · intro w'
                            go_simp
                            with_reducible rfl
                          rotate_left
                          · simp only [Act.put, List.setIfInBounds_toArray, List.set_cons_zero, List.set_cons_succ]
                            rfl
                          refine take_ (i := 6) (N := (some 82)) (v := ?_) (a' := ?_) #[true, true, true, true, true, true, true, false, false, false, false, false] rfl rfl (by kernel_rfl) (fun _ _ _ h => h) (Or.inl ⟨by rfl, ?_⟩) hHeld ?_ ?_
                          rotate_left
                          · rintro w' ⟨s0, s1, s2⟩
                            go_simp
                            with_reducible rfl
                          rotate_left
                          · simp only [Act.put, List.setIfInBounds_toArray, List.set_cons_zero, List.set_cons_succ]
                            rfl
                          refine pure_ (i := 7) (N := (some 83)) (v := ?_) (a' := ?_) #[true, true, true, true, true, true, true, true, false, false, false, false] rfl rfl (by kernel_rfl) (fun _ _ _ h => h) (Or.inl ⟨by rfl, ?_⟩) ?_ ?_
                          rotate_left
                          · intro w'
                            go_simp
                            with_reducible rfl
                          rotate_left
                          · simp only [Act.put, List.setIfInBounds_toArray, List.set_cons_zero, List.set_cons_succ]
                            rfl
                          refine take_ (i := 8) (N := (some 84)) (v := ?_) (a' := ?_) #[true, true, true, true, true, true, true, true, true, false, false, false] rfl rfl (by kernel_rfl) (fun _ _ _ h => h) (Or.inl ⟨by rfl, ?_⟩) hHeld ?_ ?_
                          rotate_left
                          · rintro w' ⟨s0, s1, s2⟩
                            go_simp
                            with_reducible rfl
                          rotate_left
                          · simp only [Act.put, List.setIfInBounds_toArray, List.set_cons_zero, List.set_cons_succ]
                            rfl
                          refine pure_ (i := 9) (N := (some 85)) (v := ?_) (a' := ?_) #[true, true, true, true, true, true, true, true, true, true, false, false] rfl rfl (by kernel_rfl) (fun _ _ _ h => h) (Or.inl ⟨by rfl, ?_⟩) ?_ ?_
                          rotate_left
                          · intro w'
                            go_simp
                            with_reducible rfl
                          rotate_left
                          · simp only [Act.put, List.setIfInBounds_toArray, List.set_cons_zero, List.set_cons_succ]
                            rfl
                          refine pure_ (i := 10) (N := (some 86)) (v := ?_) (a' := ?_) #[true, true, true, true, true, true, true, true, true, true, true, false] rfl rfl (by kernel_rfl) (fun _ _ _ h => h) (Or.inl ⟨by rfl, ?_⟩) ?_ ?_
                          rotate_left
                          · intro w'
                            go_simp
                            with_reducible rfl
                          rotate_left
                          · simp only [Act.put, List.setIfInBounds_toArray, List.set_cons_zero, List.set_cons_succ]
                            rfl
                          refine last_ (i := 11) (N := none) #[true, true, true, true, true, true, true, true, true, true, true, true] rfl rfl (by kernel_rfl) (by decide) (fun K hK => ?_)
                          go_simp
                          refine hK.out _ _ ?_
                          clear hK K
                          (try simp only [Act.put, List.setIfInBounds_toArray, List.set_cons_zero, List.set_cons_succ])
                          refine done_ (by kernel_rfl) ?_
                          clear hHeld hp1 hp2
                          generalize w10.setCell ⟨go, x0.toNat, none⟩ (.int .i64 (q + c)) = w11 at HSET HRS ⊢
                          go_wp2
                          go_roundw
                          case rel => exact ⟨k + 1, _, by omega, by go_num, HSX.out, HRD.out, by rw [HNO.out]; exact HSET.out, HRS.out⟩
                          case measure => simp [intOf]; omega
                        · have g4 : decide (q + c < p) = false := decide_eq_false a4
                          have HNO := Lib.hid (relax_no (o := o) (i := i) (x := x) (by rw [HE0.out, HE1.out, HEQ.out, HEP.out]; exact fun h => a4 h.2.2.2))
                          clear a1 a2 a3 a4
                          go_wp2
                          go_quiet (fail)
                          go_wp2
                          go_roundw
                          case rel => exact ⟨k + 1, o, by omega, by go_num, HSND.out, by rw [← HRD.out, HNO.out], HD.out.box _ _, Kd.R_drewN (Kd.R_alloc HR.out _) _⟩
                          case measure => simp [intOf]; omega
                      · have g3 : decide (q < 1099511627777) = false := decide_eq_false a3
                        have HNO := Lib.hid (relax_no (o := o) (i := i) (x := x) (by rw [HEQ.out]; exact fun h => a3 h.2.2.1))
                        clear a1 a2 a3
                        go_wp2
                        go_quiet (fail)
                        go_wp2
                        go_roundw
                        case rel => exact ⟨k + 1, o, by omega, by go_num, HSND.out, by rw [← HRD.out, HNO.out], HD.out.box _ _, Kd.R_drewN (Kd.R_alloc HR.out _) _⟩
                        case measure => simp [intOf]; omega
                    · have g2 : decide (c ≤ 1099511627776) = false := decide_eq_false a2
                      have HNO := Lib.hid (relax_no (o := o) (i := i) (x := x) (by rw [HE1.out]; exact fun h => a2 h.2.1))
                      clear a1 a2
                      go_wp2
                      go_quiet (fail)
                      go_wp2
                      go_roundw
                      case rel => exact ⟨k + 1, o, by omega, by go_num, HSND.out, by rw [← HRD.out, HNO.out], HD.out.box _ _, Kd.R_drewN (Kd.R_alloc HR.out _) _⟩
                      case measure => simp [intOf]; omega
                  · have g1 : decide (0 ≤ c) = false := decide_eq_false a1
                    have HNO := Lib.hid (relax_no (o := o) (i := i) (x := x) (by rw [HE1.out]; exact fun h => a1 h.1))
                    clear a1
                    go_wp2
                    go_quiet (fail)
                    go_wp2
                    go_roundw
                    case rel => exact ⟨k + 1, o, by omega, by go_num, HSND.out, by rw [← HRD.out, HNO.out], HD.out.box _ _, Kd.R_drewN (Kd.R_alloc HR.out _) _⟩
                    case measure => simp [intOf]; omega
                · have hkk : (g.next i).length = k := by omega
                  have HI := Lib.hid (show Dw2 g s w1 n go co j (.int .i64 ((i + 1 : Nat) : Int)) wr from ⟨i + 1, o, by omega, rfl, HSND.out, by
                    have h := HRD.out
                    rw [List.drop_eq_nil_of_le (by omega)] at h
                    exact h, HD.out⟩)
                  clear HD HSND HRD HR
                  go_wp2
                  go_roundw
                  case rel => exact HI.out
                  case measure => simp [intOf]; omega
            · obtain rfl : n = i := by omega
              have HI := Lib.hid (show Dw1 g s w1 n go co (.int .i64 ((j + 1 : Nat) : Int)) wr from ⟨j + 1, o, by omega, rfl, HSND.out, by
                have h := HRD.out
                rw [Nat.sub_self] at h
                exact h, HD.out⟩)
              clear HD HSND HRD
              go_wp2
              go_roundw
              case rel => exact HI.out
              case measure => simp [intOf]; omega
        · obtain rfl : n = j := by omega
          have HR : Hid (o = dists g s) := by
            have h := HRD.out
            rw [Nat.sub_self] at h
            exact Lib.hid h
          clear HRD HI0
          go_wp2
          go_ret
          obtain ⟨hR, hB⟩ := HD.out
          rw [HR.out] at hR
          obtain ⟨e1, e2, e3⟩ := Kd.R_reads' hR
          refine ⟨some ⟨go, 0, none⟩, co, by rw [← e1]; rfl, by rw [← e1]; exact e2, e3, HA.out.trans (hB.mono HA.out.size)⟩
end Go.Proofs.Ytipdejalohmkpaa.Gr

/- Distances are least costs: the statement's function answers true. -/
namespace Go.Proofs.Ytipdejalohmkpaa.Gr
open Go.RowKit Go.Proofs.YtipdejalohmkpaaW.PrintWords Go.Proofs.YtipdejalohmkpaaW.PrintLast Go.Proofs.YtipdejalohmkpaaW.PrintMore PBestfirstDistances
variable {g : Gph} {w : World} {A0 A1 A2 : Option Addr} {c0 c1 c2 : Nat}
set_option maxRecDepth 1000000 in
set_option maxHeartbeats 4000000 in
theorem dlaw_out (h : GAt g w A0 c0 A1 c1 A2 c2) (s tg : Int) (hg : g.large = true ∨ g.has s = false ∨ g.has tg = false ∨ g.plain = false) :
    Calls Try.prog 7 #[.agg #[.slice A0 g.E.length c0, .slice A1 g.K.length c1, .slice A2 g.Gs.length c2], .int .i64 s, .int .i64 tg] w fun e w' => e = .returned (.bool true) ∧ Below w.heap.size w w' := by
  have HA := Lib.hid (show Below w.heap.size w (w.alloc (.cells #[.slice A0 g.E.length c0, .slice A1 g.K.length c1, .slice A2 g.Gs.length c2] 26)) from (Below.refl _ _).alloc (Nat.le_refl _) _)
  have HGB := Lib.hid (GB.make h)
  clear h
  go_enter Try.func7, Try.ntmps7
  go_wp2_with fail
  refine (awake_any _).mono ?_
  rintro e w1 ⟨rfl, hb1⟩
  have HGB1 := Lib.hid (HGB.out.below hb1)
  have HA1 := Lib.hid (below_then HA.out HA.out.size hb1)
  obtain ⟨q0, q1, q2⟩ := HGB1.out.cells
  clear hb1 HGB
  go_wp2_with fail
  cases hl : g.large with
  | true =>
    refine (glarge_is HGB1.out.at_ true hl).mono ?_
    rintro e w2 ⟨rfl, hb2⟩
    have HA2 := Lib.hid (below_then HA1.out HA1.out.size hb2)
    clear hb2 q0 q1 q2 hg hl
    go_wp2
    go_ret
    exact ⟨rfl, HA2.out⟩
  | false =>
    refine (glarge_is HGB1.out.at_ false hl).mono ?_
    rintro e w2 ⟨rfl, hb2⟩
    have HGB2 := Lib.hid (HGB1.out.below hb2)
    have HA2 := Lib.hid (below_then HA1.out HA1.out.size hb2)
    clear hb2 q0 q1 q2
    obtain ⟨q0, q1, q2⟩ := HGB2.out.cells
    go_wp2_with fail
    cases hs : g.has s with
    | false =>
      refine (ghas_is HGB2.out.at_ s false hs).mono ?_
      rintro e w3 ⟨rfl, hb3⟩
      have HA3 := Lib.hid (below_then HA2.out HA2.out.size hb3)
      clear hb3 q0 q1 q2 hg hl hs
      go_wp2
      go_ret
      exact ⟨rfl, HA3.out⟩
    | true =>
      refine (ghas_is HGB2.out.at_ s true hs).mono ?_
      rintro e w3 ⟨rfl, hb3⟩
      have HGB3 := Lib.hid (HGB2.out.below hb3)
      have HA3 := Lib.hid (below_then HA2.out HA2.out.size hb3)
      clear hb3 q0 q1 q2
      obtain ⟨q0, q1, q2⟩ := HGB3.out.cells
      go_wp2_with fail
      cases ht : g.has tg with
      | false =>
        refine (ghas_is HGB3.out.at_ tg false ht).mono ?_
        rintro e w4 ⟨rfl, hb4⟩
        have HA4 := Lib.hid (below_then HA3.out HA3.out.size hb4)
        clear hb4 q0 q1 q2 hg hl hs ht
        go_wp2
        go_ret
        exact ⟨rfl, HA4.out⟩
      | true =>
        refine (ghas_is HGB3.out.at_ tg true ht).mono ?_
        rintro e w4 ⟨rfl, hb4⟩
        have HGB4 := Lib.hid (HGB3.out.below hb4)
        have HA4 := Lib.hid (below_then HA3.out HA3.out.size hb4)
        clear hb4 q0 q1 q2
        obtain ⟨q0, q1, q2⟩ := HGB4.out.cells
        have hpl : g.plain = false := by rw [hl, hs, ht] at hg; simpa using hg
        clear hg hl hs ht
        go_wp2_with fail
        refine (gplain_is HGB4.out.at_ false hpl).mono ?_
        rintro e w5 ⟨rfl, hb5⟩
        have HA5 := Lib.hid (below_then HA4.out HA4.out.size hb5)
        clear hb5 q0 q1 q2 hpl
        go_wp2
        go_ret
        exact ⟨rfl, HA5.out⟩

set_option maxRecDepth 1000000 in
set_option maxHeartbeats 8000000 in
theorem dlaw_in (h : GAt g w A0 c0 A1 c1 A2 c2) (s tg : Int) (hl : g.large = false) (hs : g.has s = true) (ht : g.has tg = true) (hp : g.plain = true) :
    Calls Try.prog 7 #[.agg #[.slice A0 g.E.length c0, .slice A1 g.K.length c1, .slice A2 g.Gs.length c2], .int .i64 s, .int .i64 tg] w fun e w' => e = .returned (.bool true) ∧ Below w.heap.size w w' := by
  have HA := Lib.hid (show Below w.heap.size w (w.alloc (.cells #[.slice A0 g.E.length c0, .slice A1 g.K.length c1, .slice A2 g.Gs.length c2] 26)) from (Below.refl _ _).alloc (Nat.le_refl _) _)
  have HGB := Lib.hid (GB.make h)
  clear h
  obtain ⟨d, e, hr⟩ : ∃ d e, dres g s (g.key tg) 100 = (d, e) := ⟨_, _, rfl⟩
  have HPU := Lib.hid (dist_pure hl hp hs ht hr)
  have HR := Lib.hid hr
  have HL := Lib.hid hl
  have HS := Lib.hid hs
  have HT := Lib.hid ht
  have HP := Lib.hid hp
  have HLE := Lib.hid (dists_spec hs).1.len
  have HTG := Lib.hid (has_iff.1 ht)
  clear hr hl hs ht hp
  go_enter Try.func7, Try.ntmps7
  go_wp2_with fail
  refine (awake_any _).mono ?_
  rintro en w1 ⟨rfl, hb1⟩
  have HGB1 := Lib.hid (HGB.out.below hb1)
  have HA1 := Lib.hid (below_then HA.out HA.out.size hb1)
  obtain ⟨q0, q1, q2⟩ := HGB1.out.cells
  clear hb1 HGB
  go_wp2_with fail
  refine (glarge_is HGB1.out.at_ false HL.out).mono ?_
  rintro en w2 ⟨rfl, hb2⟩
  have HGB2 := Lib.hid (HGB1.out.below hb2)
  have HA2 := Lib.hid (below_then HA1.out HA1.out.size hb2)
  clear hb2 q0 q1 q2
  obtain ⟨q0, q1, q2⟩ := HGB2.out.cells
  go_wp2_with fail
  refine (ghas_is HGB2.out.at_ s true HS.out).mono ?_
  rintro en w3 ⟨rfl, hb3⟩
  have HGB3 := Lib.hid (HGB2.out.below hb3)
  have HA3 := Lib.hid (below_then HA2.out HA2.out.size hb3)
  clear hb3 q0 q1 q2
  obtain ⟨q0, q1, q2⟩ := HGB3.out.cells
  go_wp2_with fail
  refine (ghas_is HGB3.out.at_ tg true HT.out).mono ?_
  rintro en w4 ⟨rfl, hb4⟩
  have HGB4 := Lib.hid (HGB3.out.below hb4)
  have HA4 := Lib.hid (below_then HA3.out HA3.out.size hb4)
  clear hb4 q0 q1 q2
  obtain ⟨q0, q1, q2⟩ := HGB4.out.cells
  go_wp2_with fail
  refine (gplain_is HGB4.out.at_ true HP.out).mono ?_
  rintro en w5 ⟨rfl, hb5⟩
  have HGB5 := Lib.hid ((HGB4.out.below hb5).below (Below.drew (Below.refl _ _)))
  have HA5 := Lib.hid (Below.drew (below_then HA4.out HA4.out.size hb5))
  clear hb5 q0 q1 q2
  obtain ⟨q0, q1, q2⟩ := HGB5.out.cells
  go_wp2
  refine start_ (n := 11) (S := fun w' => w'.cell? ⟨w.heap.size, 0, none⟩ = some (.slice A0 g.E.length c0) ∧ w'.cell? ⟨w.heap.size, 1, none⟩ = some (.slice A1 g.K.length c1) ∧ w'.cell? ⟨w.heap.size, 2, none⟩ = some (.slice A2 g.Gs.length c2)) (ds := []) #[false, false, false, false, false, false, false, false, false, false, false] (by kernel_rfl) rfl rfl ⟨q0, q1, q2⟩ (fun hHeld => ?_)
  clear q0 q1 q2
  generalize w5.drew = w6 at HGB5 HA5 hHeld ⊢
  refine take_ (i := 0) (N := (some 32)) (v := ?_) (a' := ?_) #[true, false, false, false, false, false, false, false, false, false, false] rfl rfl (by kernel_rfl) (fun _ _ _ h => h) (Or.inl ⟨by rfl, ?_⟩) hHeld ?_ ?_
  rotate_left
  · rintro w' ⟨s0, s1, s2⟩
    go_simp
    with_reducible rfl
  rotate_left
  · simp only [Act.put, List.setIfInBounds_toArray, List.set_cons_zero, List.set_cons_succ]
    rfl
  refine pure_ (i := 1) (N := (some 33)) (v := ?_) (a' := ?_) #[true, true, false, false, false, false, false, false, false, false, false] rfl rfl (by kernel_rfl) (fun _ _ _ h => h) (Or.inl ⟨by rfl, ?_⟩) ?_ ?_
  rotate_left
  · intro w'
    go_simp
    with_reducible rfl
  rotate_left
  · simp only [Act.put, List.setIfInBounds_toArray, List.set_cons_zero, List.set_cons_succ]
    rfl
  refine take_ (i := 2) (N := (some 34)) (v := ?_) (a' := ?_) #[true, true, true, false, false, false, false, false, false, false, false] rfl rfl (by kernel_rfl) (fun _ _ _ h => h) (Or.inl ⟨by rfl, ?_⟩) hHeld ?_ ?_
  rotate_left
  · rintro w' ⟨s0, s1, s2⟩
    go_simp
    with_reducible rfl
  rotate_left
  · simp only [Act.put, List.setIfInBounds_toArray, List.set_cons_zero, List.set_cons_succ]
    rfl
  refine pure_ (i := 3) (N := (some 35)) (v := ?_) (a' := ?_) #[true, true, true, true, false, false, false, false, false, false, false] rfl rfl (by kernel_rfl) (fun _ _ _ h => h) (Or.inl ⟨by rfl, ?_⟩) ?_ ?_
  rotate_left
  · intro w'
    go_simp
    with_reducible rfl
  rotate_left
  · simp only [Act.put, List.setIfInBounds_toArray, List.set_cons_zero, List.set_cons_succ]
    rfl
  refine one_ (i := 4) (N := (some 36)) #[true, true, true, true, true, false, false, false, false, false, false] rfl rfl (by kernel_rfl) (by decide) (fun K hK => ?_)
  go_simp
  refine (gkey_any HGB5.out.at_ tg (by have := HTG.out; have := HLE.out; have := len12 HL.out; omega)).mono ?_
  rintro en w7 ⟨rfl, hb7⟩
  have HGB7 := Lib.hid (HGB5.out.below hb7)
  have HA7 := Lib.hid (below_then HA5.out HA5.out.size hb7)
  clear hb7
  refine hK.out _ _ HGB7.out.cells (fun hHeld => ?_)
  clear hK K
  (try simp only [Act.put, List.setIfInBounds_toArray, List.set_cons_zero, List.set_cons_succ])
  refine one_ (i := 5) (N := (some 37)) #[true, true, true, true, true, true, false, false, false, false, false] rfl rfl (by kernel_rfl) (by decide) (fun K hK => ?_)
  go_simp
  refine (ldist_is HGB7.out.at_ HL.out s HS.out (g.key tg) 100 d e HR.out).mono ?_
  rintro en w8 ⟨rfl, hb8⟩
  have HGB8 := Lib.hid (HGB7.out.below hb8)
  have HA8 := Lib.hid (below_then HA7.out HA7.out.size hb8)
  clear hb8
  refine hK.out _ _ HGB8.out.cells (fun hHeld => ?_)
  clear hK K
  (try simp only [Act.put, List.setIfInBounds_toArray, List.set_cons_zero, List.set_cons_succ])
  refine pure_ (i := 6) (N := (some 31)) (v := ?_) (a' := ?_) #[true, true, true, true, true, true, true, false, false, false, false] rfl rfl (by kernel_rfl) (fun _ _ _ h => h) (Or.inl ⟨by rfl, ?_⟩) ?_ ?_
  rotate_left
  · intro w'
    go_simp
    with_reducible rfl
  rotate_left
  · simp only [Act.put, List.setIfInBounds_toArray, List.set_cons_zero, List.set_cons_succ]
    rfl
  refine pure_ (i := 7) (N := (some 38)) (v := ?_) (a' := ?_) #[true, true, true, true, true, true, true, true, false, false, false] rfl rfl (by kernel_rfl) (fun _ _ _ h => h) (Or.inl ⟨by rfl, ?_⟩) ?_ ?_
  rotate_left
  · intro w'
    go_simp
    with_reducible rfl
  rotate_left
  · simp only [Act.put, List.setIfInBounds_toArray, List.set_cons_zero, List.set_cons_succ]
    rfl
  refine pure_ (i := 8) (N := (some 39)) (v := ?_) (a' := ?_) #[true, true, true, true, true, true, true, true, true, false, false] rfl rfl (by kernel_rfl) (fun _ _ _ h => h) (Or.inl ⟨by rfl, ?_⟩) ?_ ?_
  rotate_left
  · intro w'
    go_simp
    with_reducible rfl
  rotate_left
  · simp only [Act.put, List.setIfInBounds_toArray, List.set_cons_zero, List.set_cons_succ]
    rfl
  refine pure_ (i := 9) (N := (some 7)) (v := ?_) (a' := ?_) #[true, true, true, true, true, true, true, true, true, true, false] rfl rfl (by kernel_rfl) (fun _ _ _ h => h) (Or.inl ⟨by rfl, ?_⟩) ?_ ?_
  rotate_left
  · intro w'
    go_simp
    with_reducible rfl
  rotate_left
  · simp only [Act.put, List.setIfInBounds_toArray, List.set_cons_zero, List.set_cons_succ]
    rfl
  refine pure_ (i := 10) (N := (some 8)) (v := ?_) (a' := ?_) #[true, true, true, true, true, true, true, true, true, true, true] rfl rfl (by kernel_rfl) (fun _ _ _ h => h) (Or.inl ⟨by rfl, ?_⟩) ?_ ?_
  rotate_left
  · intro w'
    go_simp
    with_reducible rfl
  rotate_left
  · simp only [Act.put, List.setIfInBounds_toArray, List.set_cons_zero, List.set_cons_succ]
    rfl
  refine done_ (by kernel_rfl) ?_
  obtain ⟨q0, q1, q2⟩ := HGB8.out.cells
  go_wp2_with fail
  refine (ldists_is HGB8.out.at_ HL.out s HS.out).mono ?_
  rintro en w9 ⟨B, dd, rfl, hm, hC, hb9⟩
  have HA9 := Lib.hid (below_then HA8.out HA8.out.size hb9)
  have h0 : 0 ≤ tg := HTG.out.1
  have h1 : tg < ((dists g s).length : Int) := by rw [HLE.out]; exact HTG.out.2
  obtain ⟨ad, rfl, hcell⟩ := Kd.at_int hC tg h0 h1
  clear hb9 hC hm q0 q1 q2
  replace h0 := eq_true h0
  replace h1 := eq_true h1
  have HX := HPU.out
  generalize rd (dists g s) tg = q at HX hcell
  clear HPU HR
  rcases HX with ⟨rfl, rfl⟩ | ⟨rfl, rfl⟩
  all_goals
    go_wp2
    go_ret
    exact ⟨by simp, HA9.out⟩
theorem distances_law (h : GAt g w A0 c0 A1 c1 A2 c2) (s tg : Int) :
    Calls Try.prog 7 #[.agg #[.slice A0 g.E.length c0, .slice A1 g.K.length c1, .slice A2 g.Gs.length c2], .int .i64 s, .int .i64 tg] w fun e w' => e = .returned (.bool true) ∧ Below w.heap.size w w' := by
  by_cases hg : g.large = true ∨ g.has s = false ∨ g.has tg = false ∨ g.plain = false
  · exact dlaw_out h s tg hg
  · simp only [not_or, Bool.not_eq_true, Bool.not_eq_false] at hg
    exact dlaw_in h s tg hg.1 hg.2.1 hg.2.2.1 hg.2.2.2
end Go.Proofs.Ytipdejalohmkpaa.Gr

/- A cheapest path's cost is the sum of its cheapest steps, and the least of the goals' costs. -/
namespace Go.Proofs.Ytipdejalohmkpaa.Gr
open Go.RowKit Go.Proofs.YtipdejalohmkpaaW.PrintWords Go.Proofs.YtipdejalohmkpaaW.PrintLast Go.Proofs.YtipdejalohmkpaaW.PrintMore PBestfirstDistances

def mn (a b : Int) : Int := if b < a then b else a
def cheapFrom (t : Int) : List S51 → Int → Int
  | [], b => b
  | x :: xs, b => cheapFrom t xs (if x.f0 = t ∧ 0 ≤ x.f1 then mn b x.f1 else b)
def cheap (g : Gph) (s t : Int) : Int := cheapFrom t (g.next s) 1099511627777
theorem cheapFrom_le (t : Int) : ∀ (xs : List S51) (b : Int), cheapFrom t xs b ≤ b ∧ ∀ x ∈ xs, x.f0 = t → 0 ≤ x.f1 → cheapFrom t xs b ≤ x.f1 := by
  intro xs
  induction xs with
  | nil => intro b; exact ⟨Int.le_refl _, fun x hx => by simp at hx⟩
  | cons y ys ih =>
    intro b
    unfold cheapFrom
    obtain ⟨h1, h2⟩ := ih (if y.f0 = t ∧ 0 ≤ y.f1 then mn b y.f1 else b)
    have h3 : (if y.f0 = t ∧ 0 ≤ y.f1 then mn b y.f1 else b) ≤ b := by unfold mn; split <;> (try split) <;> omega
    refine ⟨Int.le_trans h1 h3, fun x hx e0 e1 => ?_⟩
    rcases List.mem_cons.1 hx with rfl | hx
    · rw [if_pos ⟨e0, e1⟩] at h1 ⊢
      have : mn b x.f1 ≤ x.f1 := by unfold mn; split <;> omega
      omega
    · exact h2 x hx e0 e1
theorem cheapFrom_mem (t : Int) : ∀ (xs : List S51) (b : Int), cheapFrom t xs b = b ∨ ∃ x ∈ xs, x.f0 = t ∧ 0 ≤ x.f1 ∧ cheapFrom t xs b = x.f1 := by
  intro xs
  induction xs with
  | nil => intro b; exact .inl rfl
  | cons y ys ih =>
    intro b
    unfold cheapFrom
    rcases ih (if y.f0 = t ∧ 0 ≤ y.f1 then mn b y.f1 else b) with h | ⟨x, hx, h⟩
    · rw [h]
      split
      · rename_i hc
        unfold mn
        split
        · exact .inr ⟨y, by simp, hc.1, hc.2, rfl⟩
        · exact .inl rfl
      · exact .inl rfl
    · exact .inr ⟨x, by simp [hx], h⟩
theorem cheapFrom_nn (t : Int) (xs : List S51) (b : Int) (hb : 0 ≤ b) : 0 ≤ cheapFrom t xs b := by
  rcases cheapFrom_mem t xs b with h | ⟨x, _, _, h1, h2⟩ <;> omega
theorem cheap_ran (g : Gph) (s t : Int) : 0 ≤ cheap g s t ∧ cheap g s t ≤ 1099511627777 :=
  ⟨cheapFrom_nn t _ _ (by omega), (cheapFrom_le t _ _).1⟩
theorem cheap_le {g : Gph} {s t c : Int} (h : (t, c) ∈ g.prob.next s) (h0 : 0 ≤ c) : cheap g s t ≤ c := by
  obtain ⟨x, hx, e⟩ := List.mem_map.1 h
  injection e with e0 e1
  subst e1
  exact (cheapFrom_le t _ _).2 x hx e0 h0
theorem cheap_step {g : Gph} {s t : Int} (h : cheap g s t ≠ 1099511627777) : (t, cheap g s t) ∈ g.prob.next s := by
  rcases cheapFrom_mem t (g.next s) 1099511627777 with h1 | ⟨x, hx, h1, _, h3⟩
  · exact absurd h1 h
  · exact List.mem_map.2 ⟨x, hx, by rw [h1]; unfold cheap; rw [h3]⟩

/-- The sum of the cheapest steps of a path, the last state first. -/
def sumC (g : Gph) : List Int → Int
  | t :: s :: r => sumC g (s :: r) + cheap g s t
  | _ => 0
def Good (g : Gph) : List Int → Prop
  | t :: s :: r => cheap g s t ≠ 1099511627777 ∧ Good g (s :: r)
  | _ => True
theorem pw_cheap {g : Gph} {start : Int} {l : List Int} {c : Int} (h : Sr.PW g.prob start l c) : Good g l ∧ Sr.PW g.prob start l (sumC g l) ∧ sumC g l ≤ c := by
  induction h with
  | base => exact ⟨trivial, Sr.PW.base, Int.le_refl _⟩
  | @step s r c t w hw hn h0 hle ih =>
    obtain ⟨i1, i2, i3⟩ := ih
    have hc := cheap_le hn h0
    have hb := hw.bound
    unfold Sr.maxCount at hb hle
    have hne : cheap g s t ≠ 1099511627777 := by omega
    have hr := cheap_ran g s t
    refine ⟨⟨hne, i1⟩, Sr.PW.step i2 (cheap_step hne) hr.1 (by unfold Sr.maxCount; omega), ?_⟩
    show sumC g (s :: r) + cheap g s t ≤ c + w
    omega

/-- The same sum, forwards. -/
def fsum (g : Gph) (p : List Int) : Nat → Int
  | 0 => 0
  | i + 1 => fsum g p i + cheap g (rd p (i : Nat)) (rd p ((i + 1 : Nat) : Int))
theorem rd_app {a b : List Int} {i : Nat} (h : i < a.length) : rd (a ++ b) (i : Int) = rd a i := by
  unfold rd
  rw [Int.toNat_natCast, List.getD_eq_getElem?_getD, List.getD_eq_getElem?_getD, List.getElem?_append_left h]
theorem fsum_app (g : Gph) (a b : List Int) : ∀ i : Nat, i < a.length → fsum g (a ++ b) i = fsum g a i := by
  intro i
  induction i with
  | zero => intro _; rfl
  | succ i ih =>
    intro h
    unfold fsum
    rw [ih (by omega), rd_app (by omega), rd_app h]
theorem rd_last (a : List Int) (t : Int) : rd (a ++ [t]) (a.length : Int) = t := by
  unfold rd
  rw [Int.toNat_natCast, List.getD_eq_getElem?_getD, List.getElem?_append_right (by omega)]
  simp
theorem fsum_rev (g : Gph) : ∀ l : List Int, fsum g l.reverse (l.length - 1) = sumC g l := by
  intro l
  induction l with
  | nil => rfl
  | cons t r ih =>
    cases r with
    | nil => rfl
    | cons s r =>
      have e : (t :: s :: r).reverse = (s :: r).reverse ++ [t] := List.reverse_cons
      rw [e]
      show fsum g ((s :: r).reverse ++ [t]) (r.length + 1) = sumC g (s :: r) + cheap g s t
      unfold fsum
      have h1 : r.length < (s :: r).reverse.length := by simp
      have e2 : rd ((s :: r).reverse ++ [t]) ((r.length + 1 : Nat) : Int) = t := by
        have := rd_last (s :: r).reverse t
        simpa using this
      have e3 : rd ((s :: r).reverse ++ [t]) (r.length : Nat) = s := by
        rw [rd_app h1, List.reverse_cons]
        have := rd_last r.reverse s
        simpa using this
      rw [fsum_app g _ _ _ h1, e2, e3]
      have ih' : fsum g (s :: r).reverse r.length = sumC g (s :: r) := ih
      rw [ih']
theorem good_rev (g : Gph) : ∀ l : List Int, Good g l → ∀ i : Nat, i + 1 < l.length → cheap g (rd l.reverse (i : Nat)) (rd l.reverse ((i + 1 : Nat) : Int)) ≠ 1099511627777 := by
  intro l
  induction l with
  | nil => intro _ i h; simp at h
  | cons t r ih =>
    cases r with
    | nil => intro _ i h; simp at h
    | cons s r =>
      intro hg i hi
      have e : (t :: s :: r).reverse = (s :: r).reverse ++ [t] := List.reverse_cons
      rw [e]
      simp only [List.length_cons] at hi
      by_cases h : i = r.length
      · subst h
        have h1 : r.length < (s :: r).reverse.length := by simp
        have e2 : rd ((s :: r).reverse ++ [t]) ((r.length + 1 : Nat) : Int) = t := by
          have := rd_last (s :: r).reverse t
          simpa using this
        have e3 : rd ((s :: r).reverse ++ [t]) (r.length : Nat) = s := by
          rw [rd_app h1, List.reverse_cons]
          have := rd_last r.reverse s
          simpa using this
        rw [e2, e3]
        exact hg.1
      · rw [rd_app (by simp; omega), rd_app (by simp; omega)]
        exact ih hg.2 i (by simp; omega)
theorem fsum_ran (g : Gph) (p : List Int) : ∀ i : Nat, 0 ≤ fsum g p i ∧ fsum g p i ≤ i * 1099511627777 := by
  intro i
  induction i with
  | zero => exact ⟨Int.le_refl _, by simp [fsum]⟩
  | succ i ih =>
    unfold fsum
    have := cheap_ran g (rd p (i : Nat)) (rd p ((i + 1 : Nat) : Int))
    omega

/-- The least of the goals' costs. -/
def bestFrom (g : Gph) (D : List Int) : Nat → Nat → Int → Int
  | 0, _, b => b
  | d + 1, i, b => bestFrom g D d (i + 1) (if g.goal i then mn b (rd D (i : Nat)) else b)
theorem bestFrom_le (g : Gph) (D : List Int) : ∀ (d i : Nat) (b : Int), bestFrom g D d i b ≤ b ∧ ∀ s : Nat, i ≤ s → s < i + d → g.goal s = true → bestFrom g D d i b ≤ rd D (s : Nat) := by
  intro d
  induction d with
  | zero => intro i b; exact ⟨Int.le_refl _, fun s h1 h2 => by omega⟩
  | succ d ih =>
    intro i b
    unfold bestFrom
    obtain ⟨h1, h2⟩ := ih (i + 1) (if g.goal i then mn b (rd D (i : Nat)) else b)
    have h3 : (if g.goal i then mn b (rd D (i : Nat)) else b) ≤ b := by unfold mn; split <;> (try split) <;> omega
    refine ⟨Int.le_trans h1 h3, fun s a1 a2 hg => ?_⟩
    by_cases e : s = i
    · subst e
      rw [if_pos hg] at h1 ⊢
      have : mn b (rd D (s : Nat)) ≤ rd D (s : Nat) := by unfold mn; split <;> omega
      omega
    · exact h2 s (by omega) (by omega) hg
theorem bestFrom_mem (g : Gph) (D : List Int) : ∀ (d i : Nat) (b : Int), bestFrom g D d i b = b ∨ ∃ s : Nat, i ≤ s ∧ s < i + d ∧ g.goal s = true ∧ bestFrom g D d i b = rd D (s : Nat) := by
  intro d
  induction d with
  | zero => intro i b; exact .inl rfl
  | succ d ih =>
    intro i b
    unfold bestFrom
    rcases ih (i + 1) (if g.goal i then mn b (rd D (i : Nat)) else b) with h | ⟨s, a1, a2, h⟩
    · rw [h]
      split
      · rename_i hc
        unfold mn
        split
        · exact .inr ⟨i, by omega, by omega, hc, rfl⟩
        · exact .inl rfl
      · exact .inl rfl
    · exact .inr ⟨s, by omega, by omega, h⟩
def best (g : Gph) (D : List Int) : Int := bestFrom g D g.E.length 0 1099511627777
/-- What Search answers on a plain graph. -/
def OptOk (g : Gph) (start : Int) (p : List Int) (c e : Int) : Prop :=
  (e = 4 ∧ best g (dists g start) = 1099511627777) ∨
  (e = 0 ∧ c = best g (dists g start) ∧ 0 < p.length ∧ rd p 0 = start ∧ g.goal (rd p ((p.length - 1 : Nat) : Int)) = true ∧ (∀ i : Nat, i + 1 < p.length → cheap g (rd p (i : Nat)) (rd p ((i + 1 : Nat) : Int)) ≠ 1099511627777) ∧ fsum g p (p.length - 1) = c ∧ ∀ s ∈ p, g.has s = true)
theorem pw_first {g : Gph} {start : Int} {l : List Int} {c : Int} (h : Sr.PW g.prob start l c) : rd l.reverse 0 = start ∧ 0 < l.length := by
  induction h with
  | base => exact ⟨rfl, by simp⟩
  | @step s r c t w _ _ _ _ ih =>
    refine ⟨?_, by simp⟩
    rw [List.reverse_cons]
    have := rd_app (a := (s :: r).reverse) (b := [t]) (i := 0) (by simp)
    rw [show ((0 : Nat) : Int) = 0 from rfl] at this
    rw [this]
    exact ih.1
theorem opt_pure {g : Gph} {start : Int} (hl : g.large = false) (hp : g.plain = true) (hs : g.has start = true) {p : List Int} {c e : Int} (hr : sres g start 100 = (p, c, e)) : OptOk g start p c e := by
  have hS := (dists_spec hs).1
  have h := best_out hl hp hs g.goal 100
  unfold sres at hr
  rw [if_neg (by omega)] at hr
  change (match g.out g.goal 100 start with | .notFound _ => (([] : List Int), (0 : Int), (4 : Int)) | .budget _ => ([], 0, 7) | .found x _ => (x.rp.reverse, x.cost, 0)) = (p, c, e) at hr
  cases ho : g.out g.goal 100 start with
  | budget o => exact absurd ho (no_budget hl hp hs _ o)
  | notFound o =>
    rw [ho] at h hr
    injection hr with h1 h2
    injection h2 with h2 h3
    obtain ⟨F, f1, _, _, f4, _, f3⟩ := h
    refine .inl ⟨h3.symm, ?_⟩
    rcases bestFrom_mem g (dists g start) g.E.length 0 1099511627777 with hb | ⟨s, _, a2, a3, hb⟩
    · exact hb
    · have hsh : g.has (s : Int) = true := has_iff.2 ⟨by omega, by omega⟩
      have hran := hS.ran _ hsh
      apply Classical.byContradiction
      intro hne
      have hne' : rd (dists g start) (s : Nat) ≠ 1099511627777 := by rw [← hb]; exact hne
      obtain ⟨r, hr⟩ := hS.path _ hsh (by omega)
      obtain ⟨c', _, h5⟩ := f3 _ _ _ hr
      have hm : (s : Int) ∈ o := by rw [← f1]; exact List.mem_map.2 ⟨_, h5, rfl⟩
      have := f4 _ hm
      rw [a3] at this
      cases this
  | found x o =>
    rw [ho] at h hr
    injection hr with h1 h2
    injection h2 with h2 h3
    obtain ⟨a, b, m⟩ := h
    have hx := pw_has hs a
    have hxi := has_iff.1 hx
    have hbd := a.bound
    unfold Sr.maxCount at hbd
    obtain ⟨k1, k2, k3⟩ := pw_cheap a
    have k4 : x.cost ≤ sumC g x.rp := m x.st x.bk _ k2 b
    have hbest : x.cost = best g (dists g start) := by
      have u1 : best g (dists g start) ≤ rd (dists g start) ((x.st.toNat : Nat) : Int) := (bestFrom_le g (dists g start) g.E.length 0 1099511627777).2 x.st.toNat (by omega) (by omega) (by rw [Int.toNat_of_nonneg hxi.1]; exact b)
      rw [Int.toNat_of_nonneg hxi.1] at u1
      have u2 := dists_opt hl hp hs a
      rcases bestFrom_mem g (dists g start) g.E.length 0 1099511627777 with hb | ⟨s, _, a2, a3, hb⟩
      · have : best g (dists g start) = 1099511627777 := hb
        omega
      · have hb' : best g (dists g start) = rd (dists g start) (s : Nat) := hb
        have hsh : g.has (s : Int) = true := has_iff.2 ⟨by omega, by omega⟩
        obtain ⟨r, hr⟩ := hS.path _ hsh (by omega)
        have := m _ _ _ hr a3
        omega
    refine .inr ⟨h3.symm, by rw [← h2]; exact hbest, ?_, ?_, ?_, ?_, ?_, ?_⟩
    · rw [← h1, List.length_reverse]; exact (pw_first a).2
    · rw [← h1]; exact (pw_first a).1
    · rw [← h1, List.length_reverse]
      have e : x.rp.reverse = x.bk.reverse ++ [x.st] := List.reverse_cons
      rw [e]
      have := rd_last x.bk.reverse x.st
      rw [List.length_reverse] at this
      have e2 : x.rp.length - 1 = x.bk.length := rfl
      rw [e2, this]
      exact b
    · intro i hi
      rw [← h1] at hi ⊢
      rw [List.length_reverse] at hi
      exact good_rev g _ k1 i hi
    · rw [← h1, List.length_reverse, fsum_rev, ← h2]
      omega
    · intro s hm
      rw [← h1, List.mem_reverse] at hm
      exact mem_dom.1 (a.dom (mem_dom.2 hs) (dom_closed g) s hm)
theorem sres_len2 (g : Gph) (hl : g.large = false) (s b : Int) (hs : g.has s = true) : (sres g s b).1.length < 1000000000 := by
  unfold sres
  split
  · simp
  · rename_i hb
    have h := out_run g hl g.goal b.toNat s hs
    cases e : g.out g.goal b.toNat s with
    | notFound o => simp
    | budget o => simp
    | found x o =>
      rw [e] at h
      have := Sr.run_len g.prob g.goal b.toNat 200 [⟨s, [], 0, 0⟩] [] 1 x o (by simp) (by simp) h
      simp only [List.length_reverse]; omega
end Go.Proofs.Ytipdejalohmkpaa.Gr
