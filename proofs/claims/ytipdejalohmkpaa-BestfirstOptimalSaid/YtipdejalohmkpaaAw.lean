/- The document's example is found. -/
import Derived.Test.YtipdejalohmkpaaLf
import Derived.KernelRfl
namespace Go.Proofs.Ytipdejalohmkpaa.Gr
open Go.RowKit Go.Proofs.YtipdejalohmkpaaW.PrintWords Go.Proofs.YtipdejalohmkpaaW.PrintLast Go.Proofs.YtipdejalohmkpaaW.PrintMore PBestfirstDistances

def ex : Gph := ⟨[[⟨1, 4⟩, ⟨2, 1⟩], [⟨3, 1⟩], [⟨1, 2⟩, ⟨3, 9⟩], []], [], [3]⟩
theorem ex_small : ex.large = false := by kernel_rfl
theorem ex1 : sres ex 0 3 = ([0, 2, 1, 3], 4, 0) := by kernel_rfl
theorem ex2 : sres ex 0 2 = ([], 0, 7) := by kernel_rfl
theorem ex3 : rres ex 0 10 = ([0, 2, 1, 3], 0) := by kernel_rfl
theorem ex4 : dres ex 0 ⟨#[49]⟩ 10 = (3, 0) := by kernel_rfl
theorem ex5 : dres ex 1 ⟨#[48]⟩ 10 = (0, 4) := by kernel_rfl
theorem ex6 : sres ex 0 0 = ([], 0, 1) := by kernel_rfl
theorem ex_has0 : ex.has 0 = true := by kernel_rfl
theorem ex_has1 : ex.has 1 = true := by kernel_rfl

/-- The example's graph lies in block gb of w. -/
def ExAt (gb : Nat) (w : World) (A0 : Option Addr) (c0 : Nat) (A1 : Option Addr) (c1 : Nat) (A2 : Option Addr) (c2 : Nat) : Prop :=
  w.heap[gb]? = some (.cells #[.slice A0 ex.E.length c0, .slice A1 ex.K.length c1, .slice A2 ex.Gs.length c2] 26 (0, 0)) ∧ GAt ex w A0 c0 A1 c1 A2 c2
theorem ExAt.below {gb : Nat} {w w' : World} {A0 A1 A2 : Option Addr} {c0 c1 c2 : Nat} (h : ExAt gb w A0 c0 A1 c1 A2 c2) (hb : Below w.heap.size w w') : ExAt gb w' A0 c0 A1 c1 A2 c2 :=
  ⟨(hb.block gb (Array.getElem?_eq_some_iff.1 h.1).1).trans h.1, h.2.below hb⟩
theorem ExAt.cells {gb : Nat} {w : World} {A0 A1 A2 : Option Addr} {c0 c1 c2 : Nat} (h : ExAt gb w A0 c0 A1 c1 A2 c2) : w.cell? ⟨gb, 0, none⟩ = some (.slice A0 ex.E.length c0) ∧ w.cell? ⟨gb, 1, none⟩ = some (.slice A1 ex.K.length c1) ∧ w.cell? ⟨gb, 2, none⟩ = some (.slice A2 ex.Gs.length c2) := by
  have h1 := h.1
  refine ⟨?_, ?_, ?_⟩ <;> (unfold World.cell?; rw [h1]; rfl)

theorem lit4 (w : World) (a b c d : Int) : (Kd.int .i64).C (w.alloc (.cells #[.int .i64 a, .int .i64 b, .int .i64 c, .int .i64 d] 3)) (some ⟨w.heap.size, 0, none⟩) 4 [a, b, c, d] := by
  have ho : (w.alloc (.cells #[.int .i64 a, .int .i64 b, .int .i64 c, .int .i64 d] 3)).ownsRow 0 3 1 (.slice (some ⟨w.heap.size, 0, none⟩) 4 4) [a, b, c, d].length (encs (Value.int .i64) [a, b, c, d]) :=
    ⟨rfl, .inr ⟨w.heap.size, 4, #[.int .i64 a, .int .i64 b, .int .i64 c, .int .i64 d], rfl, Nat.zero_le _, by show (w.heap.push _)[w.heap.size]? = _; simp, by simp, by simp [maxLen], rfl, rfl⟩⟩
  exact (Kd.R_reads' (Kd.R_of_own (h1 := fun _ => rfl) ho (ok := fun _ => True) (fun _ _ => trivial))).2.2

set_option maxRecDepth 1000000 in
set_option maxHeartbeats 4000000 in
theorem awake_any (w : World) : Calls Try.prog 11 #[] w fun e w' => e = .returned (.bool true) ∧ Below w.heap.size w w' := by
  go_enter Try.func11, Try.ntmps11
  go_wp2_with fail
  refine (pentaglotlaw40_example.calls ex.E ex.K ex.Gs w rfl).mono ?_
  rintro e w1 ⟨v0, v1, v2, rfl, hv0, hv1, hv2, hb⟩
  obtain ⟨A0, c0, rfl, l0, h0⟩ := Kd.N_reads hv0
  obtain ⟨A1, c1, rfl, l1, h1⟩ := Kd.R_reads hv1
  obtain ⟨A2, c2, rfl, l2, h2⟩ := Kd.R_reads hv2
  have HB := Lib.hid hb
  have EX0 : Hid (ExAt w1.heap.size (w1.alloc (.cells #[.slice A0 ex.E.length c0, .slice A1 ex.K.length c1, .slice A2 ex.Gs.length c2] 26)) A0 c0 A1 c1 A2 c2) :=
    ⟨by show (w1.heap.push _)[w1.heap.size]? = _; simp, GAt.alloc ⟨h0, l0, h1, l1, h2, l2⟩ _⟩
  clear hv0 hv1 hv2 h0 h1 h2 hb
  go_wp2_with fail
  have HBB := Lib.hid (HB.out.alloc HB.out.size (.cells #[.slice A0 ex.E.length c0, .slice A1 ex.K.length c1, .slice A2 ex.Gs.length c2] 26))
  refine (lsearch_is EX0.out.2 ex_small 0 ex_has0 3 _ _ _ ex1).mono ?_
  rintro e y0 ⟨v0, rfl, hv0, hb0⟩
  obtain ⟨B0, d0, rfl, m0, g0⟩ := Kd.R_reads hv0
  clear hv0
  have EX1 := Lib.hid (EX0.out.below hb0)
  have HB0 := Lib.hid (below_then HBB.out HBB.out.size hb0)
  have V2_0 := Lib.hid g0
  clear g0
  clear hb0
  obtain ⟨q0a, q0b, q0c⟩ := EX1.out.cells
  go_wp2_with fail
  refine (lsearch_is EX1.out.2 ex_small 0 ex_has0 2 _ _ _ ex2).mono ?_
  rintro e y1 ⟨v1, rfl, hv1, hb1⟩
  obtain ⟨B1, d1, rfl, m1, g1⟩ := Kd.R_reads hv1
  clear hv1
  have EX2 := Lib.hid (EX1.out.below hb1)
  have HB1 := Lib.hid (below_then HB0.out HB0.out.size hb1)
  have V2_1 := Lib.hid (Kd.C_below V2_0.out hb1)
  clear g1
  clear hb1
  clear q0a q0b q0c
  obtain ⟨q1a, q1b, q1c⟩ := EX2.out.cells
  go_wp2_with fail
  refine (lreach_is EX2.out.2 ex_small 0 ex_has0 10 _ _ ex3).mono ?_
  rintro e y2 ⟨v2, rfl, hv2, hb2⟩
  obtain ⟨B2, d2, rfl, m2, g2⟩ := Kd.R_reads hv2
  clear hv2
  have EX3 := Lib.hid (EX2.out.below hb2)
  have HB2 := Lib.hid (below_then HB1.out HB1.out.size hb2)
  have V2_2 := Lib.hid (Kd.C_below V2_1.out hb2)
  have V8_2 := Lib.hid g2
  clear g2
  clear hb2
  clear q1a q1b q1c
  obtain ⟨q2a, q2b, q2c⟩ := EX3.out.cells
  go_wp2_with fail
  refine (ldist_is EX3.out.2 ex_small 0 ex_has0 ⟨#[49]⟩ 10 _ _ ex4).mono ?_
  rintro e y3 ⟨rfl, hb3⟩
  have EX4 := Lib.hid (EX3.out.below hb3)
  have HB3 := Lib.hid (below_then HB2.out HB2.out.size hb3)
  have V2_3 := Lib.hid (Kd.C_below V2_2.out hb3)
  have V8_3 := Lib.hid (Kd.C_below V8_2.out hb3)
  clear hb3
  clear q2a q2b q2c
  obtain ⟨q3a, q3b, q3c⟩ := EX4.out.cells
  go_wp2_with fail
  refine (ldist_is EX4.out.2 ex_small 1 ex_has1 ⟨#[48]⟩ 10 _ _ ex5).mono ?_
  rintro e y4 ⟨rfl, hb4⟩
  have EX5 := Lib.hid (EX4.out.below hb4)
  have HB4 := Lib.hid (below_then HB3.out HB3.out.size hb4)
  have V2_4 := Lib.hid (Kd.C_below V2_3.out hb4)
  have V8_4 := Lib.hid (Kd.C_below V8_3.out hb4)
  clear hb4
  clear q3a q3b q3c
  obtain ⟨q4a, q4b, q4c⟩ := EX5.out.cells
  go_wp2_with fail
  refine (lsearch_is EX5.out.2 ex_small 0 ex_has0 0 _ _ _ ex6).mono ?_
  rintro e y5 ⟨v5, rfl, hv5, hb5⟩
  obtain ⟨B5, d5, rfl, m5, g5⟩ := Kd.R_reads hv5
  clear hv5
  have EX6 := Lib.hid (EX5.out.below hb5)
  have HB5 := Lib.hid (below_then HB4.out HB4.out.size hb5)
  have V2_5 := Lib.hid (Kd.C_below V2_4.out hb5)
  have V8_5 := Lib.hid (Kd.C_below V8_4.out hb5)
  clear g5
  clear hb5
  clear q4a q4b q4c
  obtain ⟨q5a, q5b, q5c⟩ := EX6.out.cells
  go_wp2_with fail
  refine (same_any (a := [0, 2, 1, 3]) (b := [0, 2, 1, 3]) (Kd.C_below V2_5.out (below_alloc (Below.refl _ _) _)) m0 (lit4 y5 0 2 1 3) (Nat.le_refl 4) (by decide) true rfl).mono ?_
  rintro e z1 ⟨rfl, hd1⟩
  have HZ := Lib.hid ((HB5.out.alloc HB5.out.size _).trans (hd1.below.mono (Nat.le_trans HB5.out.size (by simp))))
  have HV := Lib.hid (Kd.C_below (Kd.C_below V8_5.out (below_alloc (Below.refl _ _) _)) hd1.below)
  clear hd1 q5a q5b q5c
  go_wp2_with fail
  refine (same_any (a := [0, 2, 1, 3]) (b := [0, 2, 1, 3]) (Kd.C_below HV.out (below_alloc (Below.refl _ _) _)) m2 (lit4 z1 0 2 1 3) (Nat.le_refl 4) (by decide) true rfl).mono ?_
  rintro e z2 ⟨rfl, hd2⟩
  have HZ2 := Lib.hid ((HZ.out.alloc HZ.out.size _).trans (hd2.below.mono (Nat.le_trans HZ.out.size (by simp))))
  clear hd2
  go_wp2
  go_ret
  exact ⟨rfl, HZ2.out⟩
end Go.Proofs.Ytipdejalohmkpaa.Gr
