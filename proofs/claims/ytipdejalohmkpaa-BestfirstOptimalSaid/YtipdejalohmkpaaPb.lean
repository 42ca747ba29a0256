/- A graph in memory, and the methods of the problem that it is. -/
import Derived.Test.YtipdejalohmkpaaGr
import Derived.Test.YtipdejalohmkpaaRows
import Derived.WalkSpells
import Derived.WalkLawsBesides
import Derived.Lib.Hide
namespace Go.Proofs.Ytipdejalohmkpaa.Gr
open Go.RowKit Go.Proofs.YtipdejalohmkpaaW.PrintWords Go.Proofs.YtipdejalohmkpaaW.PrintLast Go.Proofs.YtipdejalohmkpaaW.PrintMore PBestfirstDistances

/-- A graph's three slices in memory. -/
structure GAt (g : Gph) (w : World) (A0 : Option Addr) (c0 : Nat) (A1 : Option Addr) (c1 : Nat) (A2 : Option Addr) (c2 : Nat) : Prop where
  h0 : Kd.C (Kd.slice 51 k51) w A0 g.E.length g.E
  l0 : g.E.length ≤ c0
  h1 : Kd.C Kd.string w A1 g.K.length g.K
  l1 : g.K.length ≤ c1
  h2 : Kd.C (Kd.int .i64) w A2 g.Gs.length g.Gs
  l2 : g.Gs.length ≤ c2
theorem GAt.below {g : Gph} {w w' : World} {A0 A1 A2 : Option Addr} {c0 c1 c2 : Nat} (h : GAt g w A0 c0 A1 c1 A2 c2) (hb : Below w.heap.size w w') : GAt g w' A0 c0 A1 c1 A2 c2 :=
  ⟨Kd.C_below h.h0 hb, h.l0, Kd.C_below h.h1 hb, h.l1, Kd.C_below h.h2 hb, h.l2⟩
theorem GAt.alloc {g : Gph} {w : World} {A0 A1 A2 : Option Addr} {c0 c1 c2 : Nat} (h : GAt g w A0 c0 A1 c1 A2 c2) (o : Obj) : GAt g (w.alloc o) A0 c0 A1 c1 A2 c2 := h.below (below_alloc (Below.refl _ _) o)
def gval (g : Gph) (A0 : Option Addr) (c0 : Nat) (A1 : Option Addr) (c1 : Nat) (A2 : Option Addr) (c2 : Nat) : Array Value := #[.slice A0 g.E.length c0, .slice A1 g.K.length c1, .slice A2 g.Gs.length c2]

section
variable {g : Gph} {w : World} {A0 A1 A2 : Option Addr} {c0 c1 c2 : Nat}
theorem gkey_any (h : GAt g w A0 c0 A1 c1 A2 c2) (s : Int) (hs : s ≤ 9223372036854775807) :
    Calls Try.prog 23 #[.agg #[.slice A0 g.E.length c0, .slice A1 g.K.length c1, .slice A2 g.Gs.length c2], .int .i64 s] w fun e w' => e = .returned (.string (g.key s)) ∧ Below w.heap.size w w' := by
  obtain ⟨k, hk⟩ := key_f g s hs
  exact pentaglotref40_Graph_Key.calls k A0 c0 g.E A1 c1 g.K A2 c2 g.Gs s (g.key s) w h.h0 h.l0 h.h1 h.l1 h.h2 h.l2 hk
theorem gnext_any (h : GAt g w A0 c0 A1 c1 A2 c2) (hl : g.large = false) (s : Int) :
    Calls Try.prog 22 #[.agg #[.slice A0 g.E.length c0, .slice A1 g.K.length c1, .slice A2 g.Gs.length c2], .int .i64 s] w fun e w' => ∃ v : Value, e = .returned v ∧ Kd.R k51 51 w' w.heap.size (fun _ => True) v (g.next s) ∧ Below w.heap.size w w' := by
  obtain ⟨k, hk⟩ := next_f g hl s
  exact pentaglotref40_Graph_Next.calls k A0 c0 g.E A1 c1 g.K A2 c2 g.Gs s (g.next s) w h.h0 h.l0 h.h1 h.l1 h.h2 h.l2 hk
theorem next_len (g : Gph) (hl : g.large = false) (s : Int) : (g.next s).length ≤ 8 := by
  unfold Gph.next
  split
  · rename_i hh
    have h0 : 0 ≤ s ∧ s < (g.E.length : Int) := by simpa [Gph.has] using hh
    have hlt : s.toNat < g.E.length := by omega
    simp only [Gph.large, Bool.or_eq_false_iff, List.any_eq_false, decide_eq_true_eq] at hl
    have h1 := hl.1.2 g.E[s.toNat] (List.getElem_mem hlt)
    have h2 := List.length_filter_le (fun x : S51 => g.has x.f0) (g.E.getD s.toNat [])
    rw [show g.E.getD s.toNat [] = g.E[s.toNat] from by simp [hlt]] at h2 ⊢
    omega
  · simp
theorem ghas_any (h : GAt g w A0 c0 A1 c1 A2 c2) (s : Int) :
    Calls Try.prog 13 #[.agg #[.slice A0 g.E.length c0, .slice A1 g.K.length c1, .slice A2 g.Gs.length c2], .int .i64 s] w fun e w' => e = .returned (.bool (g.has s)) ∧ Below w.heap.size w w' :=
  pentaglotref40_Graph_Has.calls A0 c0 g.E A1 c1 g.K A2 c2 g.Gs s (g.has s) w h.h0 h.l0 h.h1 h.l1 h.h2 h.l2 (has_f g s)

theorem goals_find (xs : List Int) (s : Int) (k : Nat) (hk : k < xs.length) : (xs.drop k).contains s = ((xs[k] == s) || (xs.drop (k + 1)).contains s) := by
  rw [List.drop_eq_getElem_cons hk, List.contains_cons]
  rw [Bool.beq_comm]
set_option maxHeartbeats 400000 in
theorem ggoal_any (h : GAt g w A0 c0 A1 c1 A2 c2) (s : Int) :
    Calls Try.prog 21 #[.agg #[.slice A0 g.E.length c0, .slice A1 g.K.length c1, .slice A2 g.Gs.length c2], .int .i64 s] w fun e w' => e = .returned (.bool (g.goal s)) ∧ Below w.heap.size w w' := by
  have H := Lib.hid h
  clear h
  have HC := Lib.hid (H.out.alloc (.cells #[.slice A0 g.E.length c0, .slice A1 g.K.length c1, .slice A2 g.Gs.length c2] 26)).h2
  have hm : (g.Gs.length : Int) ≤ 9223372036854775807 := by have := HC.out.2.1; omega
  have HF := Lib.hid (show (g.Gs.drop 0).contains s = g.goal s from rfl)

  go_enter Try.func21, Try.ntmps21
  go_wp2
  go_loop [10] (fun x => ∃ k : Nat, k ≤ g.Gs.length ∧ x = .int .i64 k ∧ Hid ((g.Gs.drop k).contains s = g.goal s)) (fun x => g.Gs.length - (intOf x).toNat)
  case atStart => exact ⟨0, Nat.zero_le _, rfl, HF⟩
  case round =>
    clear HF
    obtain ⟨k, hk, rfl, HR⟩ := hrel
    by_cases hlt : k < g.Gs.length
    · obtain ⟨ad, rfl, hcell⟩ := Kd.at_int HC.out (k : Int) (by omega) (by omega)
      have hrd : rd g.Gs (k : Int) = g.Gs[k] := by simp [rd, hlt]
      rw [hrd, Int.toNat_natCast] at hcell
      clear hrd
      have HS := Lib.hid (goals_find g.Gs s k hlt)
      obtain ⟨x, hx⟩ : ∃ x, g.Gs[k] = x := ⟨_, rfl⟩
      rw [hx] at hcell HS
      clear hx
      have hi0 : 0 ≤ (k : Int) := by omega
      by_cases he : x = s
      · subst he
        have hT : g.goal x = true := by rw [← HR.out, HS.out]; simp
        have HT := Lib.hid hT
        clear hT
        go_wp2
        go_ret
        exact ⟨by rw [HT.out]; rfl, (Below.refl _ _).alloc (Nat.le_refl _) _⟩
      · have hb : (x == s) = false := by simpa using he
        have hT : (g.Gs.drop (k + 1)).contains s = g.goal s := by rw [← HR.out, HS.out, hb]; simp
        have HT := Lib.hid hT
        clear hT
        go_wp2
        go_round
        case rel => exact ⟨k + 1, by omega, by go_num, HT⟩
        case measure => simp [intOf]; omega
    · have hT : g.goal s = false := by rw [← HR.out, List.drop_eq_nil_of_le (by omega)]; rfl
      have HT := Lib.hid hT
      clear hT
      go_wp2
      go_ret
      exact ⟨by rw [HT.out]; rfl, (Below.refl _ _).alloc (Nat.le_refl _) _⟩

set_option maxHeartbeats 400000 in
theorem pkey_any (h : GAt g w A0 c0 A1 c1 A2 c2) (s : Int) (hs : s ≤ 9223372036854775807) :
    Calls Try.prog 69 #[.agg #[.slice A0 g.E.length c0, .slice A1 g.K.length c1, .slice A2 g.Gs.length c2], .int .i64 s] w fun e w' => e = .returned (.string (g.key s)) ∧ Below w.heap.size w w' := by
  have H := Lib.hid h
  clear h
  go_enter Try.func69, Try.ntmps69
  go_wp2_with (go_at_call 23; refine (gkey_any (H.out.alloc _) s hs).mono ?_; rintro e w' ⟨rfl, hb⟩; have HB := Lib.hid hb; clear hb)
  go_ret
  exact ⟨rfl, ((Below.refl _ _).alloc (Nat.le_refl _) _).trans (HB.out.mono (by simp))⟩
set_option maxHeartbeats 400000 in
theorem pgoal_any (h : GAt g w A0 c0 A1 c1 A2 c2) (s : Int) :
    Calls Try.prog 68 #[.agg #[.slice A0 g.E.length c0, .slice A1 g.K.length c1, .slice A2 g.Gs.length c2], .int .i64 s] w fun e w' => e = .returned (.bool (g.goal s)) ∧ Below w.heap.size w w' := by
  have H := Lib.hid h
  clear h
  go_enter Try.func68, Try.ntmps68
  go_wp2_with (go_at_call 21; refine (ggoal_any (H.out.alloc _) s).mono ?_; rintro e w' ⟨rfl, hb⟩; have HB := Lib.hid hb; clear hb)
  go_ret
  exact ⟨rfl, ((Below.refl _ _).alloc (Nat.le_refl _) _).trans (HB.out.mono (by simp))⟩

/-- The kind of a step's cells: where it leads, and its cost. -/
def kstep : Kd (Int × Int) := Kd.pair (Kd.int .i64) (Kd.int .i64)
def steps (l : List S51) : List (Int × Int) := l.map fun x => (x.f0, x.f1)
theorem info102 : (Try.prog.info? 102).map (fun i => (i.zero, i.size, i.bytes)) = some (some (.agg #[.int .i64 0, .int .i64 0]), 2, 16) := by kernel_rfl
def PnRel (l : List S51) (k : Nat) (w1 : World) (v : Value) (wr : World) : Prop := kstep.R 102 wr w1.heap.size (fun _ => True) v (steps (l.take k)) ∧ Below w1.heap.size w1 wr
set_option maxHeartbeats 400000 in
theorem pnext_any (h : GAt g w A0 c0 A1 c1 A2 c2) (hl : g.large = false) (s : Int) :
    Calls Try.prog 70 #[.agg #[.slice A0 g.E.length c0, .slice A1 g.K.length c1, .slice A2 g.Gs.length c2], .int .i64 s] w fun e w' => ∃ v : Value, e = .returned v ∧ kstep.R 102 w' w.heap.size (fun _ => True) v (steps (g.next s)) ∧ Below w.heap.size w w' := by
  have H := Lib.hid h
  clear h
  go_enter Try.func70, Try.ntmps70
  go_wp2_with (go_at_call 22; refine (gnext_any (H.out.alloc _) hl s).mono ?_; rintro e w' ⟨v, rfl, hv, hb⟩; obtain ⟨A, c, rfl, hlc, hC⟩ := Kd.R_reads hv; have HB := Lib.hid hb; have HV := Lib.hid hv; have HC := Lib.hid hC; clear hb hv hC)
  go_loopw [5, 13] (fun v5 v13 wr => ∃ k : Nat, k ≤ (g.next s).length ∧ v13 = .int .i64 k ∧ PnRel (g.next s) k w' v5 wr) (fun _ v13 _ => (g.next s).length - (intOf v13).toNat)
  case atStart => exact ⟨0, Nat.zero_le _, rfl, Kd.R_nil _ _ _ _ _, Below.refl _ _⟩
  case round =>
    have HW : Hid (Below w.heap.size w w') := ((Below.refl _ _).alloc (Nat.le_refl _) _).trans (HB.out.mono (by simp))
    obtain ⟨k, hk, rfl, hR, hB⟩ := hrel
    have HR := Lib.hid hR
    have HBr := Lib.hid hB
    clear hR hB HB HV H
    have hm := HC.out.2.1
    by_cases hlt : k < (g.next s).length
    · obtain ⟨ad, rfl, hx0, hx1⟩ := at_T51 HC.out (k : Int) (by omega) (by omega)
      have hrd : rd_T51 (g.next s) (k : Int) = (g.next s)[k] := by simp [rd_T51, hlt]
      rw [hrd, Int.toNat_natCast] at hx0 hx1
      replace hx0 := (HBr.out.cell (World.block_lt_of_cell? w' _ hx0)).trans hx0
      replace hx1 := (HBr.out.cell (World.block_lt_of_cell? w' _ hx1)).trans hx1
      clear hrd
      have hi0 : 0 ≤ (k : Int) := by omega
      have hi1 : (k : Int) < ((g.next s).length : Int) := by omega
      have htk : steps ((g.next s).take k) ++ [((g.next s)[k].f0, (g.next s)[k].f1)] = steps ((g.next s).take (k + 1)) := by
        unfold steps; rw [List.take_succ_eq_append_getElem hlt, List.map_append]; rfl
      have hln : (steps ((g.next s).take k)).length < 1000000 := by
        have h1 := next_len g hl s
        simp [steps]; omega
      have HTK := Lib.hid htk
      have HLN := Lib.hid hln
      clear htk hln
      obtain ⟨x0, ex0⟩ : ∃ x, (g.next s)[k].f0 = x := ⟨_, rfl⟩
      obtain ⟨x1, ex1⟩ : ∃ x, (g.next s)[k].f1 = x := ⟨_, rfl⟩
      rw [ex0, ex1] at HTK
      rw [ex0] at hx0
      rw [ex1] at hx1
      clear ex0 ex1
      go_wp2_with (first | (at_builtin; go_loud (refine Kd.R_append kstep (w0 := w') w'.heap.size rfl (.tmp 17) (.tmp 23) 100 102 _ 16 rfl Try.underlying100 info102 rfl (by decide) (by decide) _ (steps ((g.next s).take k)) (x0, x1) [.int .i64 x0, .int .i64 x1] (fun _ => True) (fun _ => False) rfl (by simp [Act.eval]) ⟨_, _, rfl, rfl, rfl⟩ (fun _ h => h.elim) (fun _ _ => trivial) (Kd.R_alloc HR.out _) (HBr.out.alloc HBr.out.size _) (Nat.le_trans HBr.out.size (by simp)) (by have := HLN.out; omega) ?_); intro v1 w1 hR1 hB1 _ _; have HP : PnRel (g.next s) (k + 1) w' v1 w1 := ⟨by rw [← HTK.out]; exact hR1, hB1⟩; clear hR1 hB1))
      go_roundw
      case rel => exact ⟨k + 1, by omega, by go_num, HP⟩
      case measure => simp [intOf]; omega
    · obtain rfl : k = (g.next s).length := by omega
      rw [List.take_length] at HR
      go_wp2
      go_ret
      exact ⟨_, rfl, Kd.R_lower HR.out HW.size, HW.trans (HBr.out.mono HW.size)⟩
end
end Go.Proofs.Ytipdejalohmkpaa.Gr
