/- Part 10 of the proof of MemoryForms: Mfe, Mff, Mvd, Mof, Msa, Msb, Msc. -/
import Derived.Test.YtbahnpdgaoedmaaGreatDoorCO9
namespace Go.Proofs.YtbahnpdgaoedmaaGreatDoor.Mm
open Go.RowKit Go.Proofs.YtbahnpdgaoedmaaGreatDoorW.PrintWords Go.Proofs.YtbahnpdgaoedmaaGreatDoorW.PrintLast Go.Proofs.YtbahnpdgaoedmaaGreatDoorW.PrintMore Go.Proofs.YtbahnpdgaoedmaaGreatDoor.PMemoryExact
set_option linter.unusedSimpArgs false
set_option linter.unusedVariables false
set_option maxRecDepth 1000000 in
set_option maxHeartbeats 4000000 in
theorem fd8 {nm : ByteArray} {a : List S84} {f t : Int} {k : List S32} {w : World} {A2 A5 : Option Addr} {c2 c5 : Nat} (v : Int) (hk5 : k.length ≤ 9223372036854775807) (ha5 : a.length ≤ 9223372036854775807) (hnm : nm.size ≤ 100) :
  Calls Tryz.prog 110 #[.agg #[.int .i64 8, .string nm, .slice A2 a.length c2, .int .i64 f, .int .i64 t, .slice A5 k.length c5], .int .i64 v] w fun e w' => e = .returned (.bool (fieldsF ⟨8, nm, a, f, t, k⟩ v)) ∧ Below w.heap.size w w' := by
 have HBX := Lib.hid (one_blk w #[.int .i64 8, .string nm, .slice A2 a.length c2, .int .i64 f, .int .i64 t, .slice A5 k.length c5]).1
 have HB := Lib.hid (one_blk w #[.int .i64 8, .string nm, .slice A2 a.length c2, .int .i64 f, .int .i64 t, .slice A5 k.length c5]).2
 have HS := Lib.hid (symB_is hnm)
 clear hnm
 by_cases hf : f = 0
 ·subst hf
  by_cases ht : t = 0
  ·subst ht
   by_cases ha : a.length = 0
   ·obtain rfl := List.eq_nil_of_length_eq_zero ha
    clear ha
    by_cases hk : k.length = 1
    ·have HE := Lib.hid (show fieldsF ⟨8, nm, [], 0, 0, k⟩ v = symB nm by simp [fieldsF, hk])
     have m1 : ((k.length : Int) == (1 : Int)) = true := beq_iff_eq.mpr (by omega)
     have m2 : (k.length == 1) = true := by simpa using hk
     clear hk
     obtain ⟨b, hb⟩ : ∃ b, symB nm = b := ⟨_, rfl⟩
     rw [hb] at HE HS
     clear hb
     go_enter Tryz.func110, Tryz.ntmps110
     go_wp2_with fail
     refine (formula_binds.calls 8 _ _ (binds_f 8)).mono ?_
     rintro e w3 ⟨rfl, hd⟩
     have HBX := Lib.hid (drawn_blk hd HBX.out)
     have HB := Lib.hid (below_then HB.out HB.out.size hd.below)
     clear hd
     obtain ⟨k0, k1, k2, k3, k4, k5⟩ := cells_of HBX.out
     go_wp2_with fail
     refine (formula_symbol.calls 102 nm b _ HS.out).mono ?_
     clear k0 k1 k2 k3 k4 k5
     rintro e w4 ⟨rfl, hd⟩
     have HBX := Lib.hid (drawn_blk hd HBX.out)
     have HB := Lib.hid (below_then HB.out HB.out.size hd.below)
     clear hd
     obtain ⟨k0, k1, k2, k3, k4, k5⟩ := cells_of HBX.out
     go_wp2
     go_ret
     exact ⟨by rw [HE.out]; rfl, HB.out⟩
    ·have HE := Lib.hid (show fieldsF ⟨8, nm, [], 0, 0, k⟩ v = false by simp only [fieldsF]; simp [hk])
     have m1 : ((k.length : Int) == (1 : Int)) = false := beq_eq_false_iff_ne.mpr (by omega)
     have m2 : (k.length == 1) = false := by simpa using hk
     clear hk
     go_enter Tryz.func110, Tryz.ntmps110
     go_wp2_with fail
     refine (formula_binds.calls 8 _ _ (binds_f 8)).mono ?_
     rintro e w3 ⟨rfl, hd⟩
     have HBX := Lib.hid (drawn_blk hd HBX.out)
     have HB := Lib.hid (below_then HB.out HB.out.size hd.below)
     clear hd
     obtain ⟨k0, k1, k2, k3, k4, k5⟩ := cells_of HBX.out
     go_wp2
     go_ret
     exact ⟨by rw [HE.out]; rfl, HB.out⟩
   ·have h0 : 0 < a.length := by omega
    have HE := Lib.hid (show fieldsF ⟨8, nm, a, 0, 0, k⟩ v = false by simp [fieldsF, h0])
    have g1 : decide ((0 : Int) < (a.length : Int)) = true := decide_eq_true (by omega)
    have g2 : decide (0 < a.length) = true := decide_eq_true h0
    clear ha h0
    go_enter Tryz.func110, Tryz.ntmps110
    go_wp2
    go_ret
    exact ⟨by rw [HE.out]; rfl, HB.out⟩
  ·have HE := Lib.hid (show fieldsF ⟨8, nm, a, 0, t, k⟩ v = false by simp [fieldsF, ht])
   have g1 : (t != (0 : Int)) = true := by simpa using ht
   clear ht
   go_enter Tryz.func110, Tryz.ntmps110
   go_wp2
   go_ret
   exact ⟨by rw [HE.out]; rfl, HB.out⟩
 ·have HE := Lib.hid (show fieldsF ⟨8, nm, a, f, t, k⟩ v = false by simp [fieldsF, hf])
  have g1 : (f != (0 : Int)) = true := by simpa using hf
  clear hf
  go_enter Tryz.func110, Tryz.ntmps110
  go_wp2
  go_ret
  exact ⟨by rw [HE.out]; rfl, HB.out⟩
set_option maxRecDepth 1000000 in
set_option maxHeartbeats 4000000 in
theorem fd9 {nm : ByteArray} {a : List S84} {f t : Int} {k : List S32} {w : World} {A2 A5 : Option Addr} {c2 c5 : Nat} (v : Int) (hk5 : k.length ≤ 9223372036854775807) (ha5 : a.length ≤ 9223372036854775807) (hnm : nm.size ≤ 100) :
  Calls Tryz.prog 110 #[.agg #[.int .i64 9, .string nm, .slice A2 a.length c2, .int .i64 f, .int .i64 t, .slice A5 k.length c5], .int .i64 v] w fun e w' => e = .returned (.bool (fieldsF ⟨9, nm, a, f, t, k⟩ v)) ∧ Below w.heap.size w w' := by
 have HBX := Lib.hid (one_blk w #[.int .i64 9, .string nm, .slice A2 a.length c2, .int .i64 f, .int .i64 t, .slice A5 k.length c5]).1
 have HB := Lib.hid (one_blk w #[.int .i64 9, .string nm, .slice A2 a.length c2, .int .i64 f, .int .i64 t, .slice A5 k.length c5]).2
 have HS := Lib.hid (symB_is hnm)
 clear hnm
 by_cases hf : f = 0
 ·subst hf
  by_cases ht : t = 0
  ·subst ht
   by_cases ha : a.length = 0
   ·obtain rfl := List.eq_nil_of_length_eq_zero ha
    clear ha
    by_cases hk : k.length = 1
    ·have HE := Lib.hid (show fieldsF ⟨9, nm, [], 0, 0, k⟩ v = symB nm by simp [fieldsF, hk])
     have m1 : ((k.length : Int) == (1 : Int)) = true := beq_iff_eq.mpr (by omega)
     have m2 : (k.length == 1) = true := by simpa using hk
     clear hk
     obtain ⟨b, hb⟩ : ∃ b, symB nm = b := ⟨_, rfl⟩
     rw [hb] at HE HS
     clear hb
     go_enter Tryz.func110, Tryz.ntmps110
     go_wp2_with fail
     refine (formula_binds.calls 9 _ _ (binds_f 9)).mono ?_
     rintro e w3 ⟨rfl, hd⟩
     have HBX := Lib.hid (drawn_blk hd HBX.out)
     have HB := Lib.hid (below_then HB.out HB.out.size hd.below)
     clear hd
     obtain ⟨k0, k1, k2, k3, k4, k5⟩ := cells_of HBX.out
     go_wp2_with fail
     refine (formula_symbol.calls 102 nm b _ HS.out).mono ?_
     clear k0 k1 k2 k3 k4 k5
     rintro e w4 ⟨rfl, hd⟩
     have HBX := Lib.hid (drawn_blk hd HBX.out)
     have HB := Lib.hid (below_then HB.out HB.out.size hd.below)
     clear hd
     obtain ⟨k0, k1, k2, k3, k4, k5⟩ := cells_of HBX.out
     go_wp2
     go_ret
     exact ⟨by rw [HE.out]; rfl, HB.out⟩
    ·have HE := Lib.hid (show fieldsF ⟨9, nm, [], 0, 0, k⟩ v = false by simp only [fieldsF]; simp [hk])
     have m1 : ((k.length : Int) == (1 : Int)) = false := beq_eq_false_iff_ne.mpr (by omega)
     have m2 : (k.length == 1) = false := by simpa using hk
     clear hk
     go_enter Tryz.func110, Tryz.ntmps110
     go_wp2_with fail
     refine (formula_binds.calls 9 _ _ (binds_f 9)).mono ?_
     rintro e w3 ⟨rfl, hd⟩
     have HBX := Lib.hid (drawn_blk hd HBX.out)
     have HB := Lib.hid (below_then HB.out HB.out.size hd.below)
     clear hd
     obtain ⟨k0, k1, k2, k3, k4, k5⟩ := cells_of HBX.out
     go_wp2
     go_ret
     exact ⟨by rw [HE.out]; rfl, HB.out⟩
   ·have h0 : 0 < a.length := by omega
    have HE := Lib.hid (show fieldsF ⟨9, nm, a, 0, 0, k⟩ v = false by simp [fieldsF, h0])
    have g1 : decide ((0 : Int) < (a.length : Int)) = true := decide_eq_true (by omega)
    have g2 : decide (0 < a.length) = true := decide_eq_true h0
    clear ha h0
    go_enter Tryz.func110, Tryz.ntmps110
    go_wp2
    go_ret
    exact ⟨by rw [HE.out]; rfl, HB.out⟩
  ·have HE := Lib.hid (show fieldsF ⟨9, nm, a, 0, t, k⟩ v = false by simp [fieldsF, ht])
   have g1 : (t != (0 : Int)) = true := by simpa using ht
   clear ht
   go_enter Tryz.func110, Tryz.ntmps110
   go_wp2
   go_ret
   exact ⟨by rw [HE.out]; rfl, HB.out⟩
 ·have HE := Lib.hid (show fieldsF ⟨9, nm, a, f, t, k⟩ v = false by simp [fieldsF, hf])
  have g1 : (f != (0 : Int)) = true := by simpa using hf
  clear hf
  go_enter Tryz.func110, Tryz.ntmps110
  go_wp2
  go_ret
  exact ⟨by rw [HE.out]; rfl, HB.out⟩
set_option maxRecDepth 1000000 in
set_option maxHeartbeats 4000000 in
theorem fd10 {nm : ByteArray} {a : List S84} {f t : Int} {k : List S32} {w : World} {A2 A5 : Option Addr} {c2 c5 : Nat} (v : Int) (hk5 : k.length ≤ 9223372036854775807) (ha5 : a.length ≤ 9223372036854775807) (hnm : nm.size ≤ 100) :
  Calls Tryz.prog 110 #[.agg #[.int .i64 10, .string nm, .slice A2 a.length c2, .int .i64 f, .int .i64 t, .slice A5 k.length c5], .int .i64 v] w fun e w' => e = .returned (.bool (fieldsF ⟨10, nm, a, f, t, k⟩ v)) ∧ Below w.heap.size w w' := by
 have HBX := Lib.hid (one_blk w #[.int .i64 10, .string nm, .slice A2 a.length c2, .int .i64 f, .int .i64 t, .slice A5 k.length c5]).1
 have HB := Lib.hid (one_blk w #[.int .i64 10, .string nm, .slice A2 a.length c2, .int .i64 f, .int .i64 t, .slice A5 k.length c5]).2
 have HS := Lib.hid (symB_is hnm)
 clear hnm
 by_cases ha : a.length = 0
 ·obtain rfl := List.eq_nil_of_length_eq_zero ha
  clear ha
  by_cases hn : nm.toList = []
  ·have n1 : (nm.toList == ([] : List UInt8)) = true := beq_iff_eq.mpr hn
   have n2 : (nm.toList != ([] : List UInt8)) = false := bne_eq_false_iff_eq.mpr hn
   have HN := Lib.hid hn
   clear hn
   by_cases hk : k.length = 1
   ·have m1 : ((k.length : Int) == (1 : Int)) = true := beq_iff_eq.mpr (by omega)
    have m2 : (k.length == 1) = true := by simpa using hk
    have HE0 := Lib.hid (show fieldsF ⟨10, nm, [], f, t, k⟩ v = (momOk f && momOk t) by simp [fieldsF, HN.out, hk])
    clear hk
    have HM1 := Lib.hid (momOk_is f)
    have HM2 := Lib.hid (momOk_is t)
    obtain ⟨b1, hb1⟩ : ∃ b, momOk f = b := ⟨_, rfl⟩
    obtain ⟨b2, hb2⟩ : ∃ b, momOk t = b := ⟨_, rfl⟩
    rw [hb1] at HE0 HM1
    rw [hb2] at HE0 HM2
    clear hb1 hb2
    cases b1 with
    | true =>
     have HE := Lib.hid (show fieldsF ⟨10, nm, [], f, t, k⟩ v = b2 from HE0.out)
     go_enter Tryz.func110, Tryz.ntmps110
     go_wp2_with fail
     refine (formula_binds.calls 10 _ _ (binds_f 10)).mono ?_
     rintro e w3 ⟨rfl, hd⟩
     have HBX := Lib.hid (drawn_blk hd HBX.out)
     have HB := Lib.hid (below_then HB.out HB.out.size hd.below)
     clear hd
     obtain ⟨k0, k1, k2, k3, k4, k5⟩ := cells_of HBX.out
     go_wp2_with fail
     refine (formula_moment.calls f true _ HM1.out).mono ?_
     clear k0 k1 k2 k3 k4 k5
     rintro e w4 ⟨rfl, hd⟩
     have HBX := Lib.hid (drawn_blk hd HBX.out)
     have HB := Lib.hid (below_then HB.out HB.out.size hd.below)
     clear hd
     obtain ⟨k0, k1, k2, k3, k4, k5⟩ := cells_of HBX.out
     go_wp2_with fail
     refine (formula_moment.calls t b2 _ HM2.out).mono ?_
     clear k0 k1 k2 k3 k4 k5
     rintro e w5 ⟨rfl, hd⟩
     have HBX := Lib.hid (drawn_blk hd HBX.out)
     have HB := Lib.hid (below_then HB.out HB.out.size hd.below)
     clear hd
     obtain ⟨k0, k1, k2, k3, k4, k5⟩ := cells_of HBX.out
     go_wp2
     go_ret
     exact ⟨by rw [HE.out]; rfl, HB.out⟩
    | false =>
     have HE := Lib.hid (show fieldsF ⟨10, nm, [], f, t, k⟩ v = false from HE0.out)
     go_enter Tryz.func110, Tryz.ntmps110
     go_wp2_with fail
     refine (formula_binds.calls 10 _ _ (binds_f 10)).mono ?_
     rintro e w3 ⟨rfl, hd⟩
     have HBX := Lib.hid (drawn_blk hd HBX.out)
     have HB := Lib.hid (below_then HB.out HB.out.size hd.below)
     clear hd
     obtain ⟨k0, k1, k2, k3, k4, k5⟩ := cells_of HBX.out
     go_wp2_with fail
     refine (formula_moment.calls f false _ HM1.out).mono ?_
     clear k0 k1 k2 k3 k4 k5
     rintro e w4 ⟨rfl, hd⟩
     have HBX := Lib.hid (drawn_blk hd HBX.out)
     have HB := Lib.hid (below_then HB.out HB.out.size hd.below)
     clear hd
     obtain ⟨k0, k1, k2, k3, k4, k5⟩ := cells_of HBX.out
     go_wp2
     go_ret
     exact ⟨by rw [HE.out]; rfl, HB.out⟩
   ·have HE := Lib.hid (show fieldsF ⟨10, nm, [], f, t, k⟩ v = false by simp only [fieldsF, HN.out]; simp [hk])
    have m1 : ((k.length : Int) == (1 : Int)) = false := beq_eq_false_iff_ne.mpr (by omega)
    have m2 : (k.length == 1) = false := by simpa using hk
    clear hk
    go_enter Tryz.func110, Tryz.ntmps110
    go_wp2_with fail
    refine (formula_binds.calls 10 _ _ (binds_f 10)).mono ?_
    rintro e w3 ⟨rfl, hd⟩
    have HBX := Lib.hid (drawn_blk hd HBX.out)
    have HB := Lib.hid (below_then HB.out HB.out.size hd.below)
    clear hd
    obtain ⟨k0, k1, k2, k3, k4, k5⟩ := cells_of HBX.out
    go_wp2
    go_ret
    exact ⟨by rw [HE.out]; rfl, HB.out⟩
  ·have HE := Lib.hid (show fieldsF ⟨10, nm, [], f, t, k⟩ v = false by simp [fieldsF, hn])
   have n1 : (nm.toList == ([] : List UInt8)) = false := beq_eq_false_iff_ne.mpr hn
   have n2 : (nm.toList != ([] : List UInt8)) = true := bne_iff_ne.mpr hn
   clear hn
   go_enter Tryz.func110, Tryz.ntmps110
   go_wp2_with fail
   refine (formula_binds.calls 10 _ _ (binds_f 10)).mono ?_
   rintro e w3 ⟨rfl, hd⟩
   have HBX := Lib.hid (drawn_blk hd HBX.out)
   have HB := Lib.hid (below_then HB.out HB.out.size hd.below)
   clear hd
   obtain ⟨k0, k1, k2, k3, k4, k5⟩ := cells_of HBX.out
   go_wp2
   go_ret
   exact ⟨by rw [HE.out]; rfl, HB.out⟩
 ·have h0 : 0 < a.length := by omega
  have HE := Lib.hid (show fieldsF ⟨10, nm, a, f, t, k⟩ v = false by simp [fieldsF, h0])
  have g1 : decide ((0 : Int) < (a.length : Int)) = true := decide_eq_true (by omega)
  have g2 : decide (0 < a.length) = true := decide_eq_true h0
  clear ha h0
  go_enter Tryz.func110, Tryz.ntmps110
  go_wp2
  go_ret
  exact ⟨by rw [HE.out]; rfl, HB.out⟩
set_option maxRecDepth 1000000 in
set_option maxHeartbeats 4000000 in
theorem fdx {o : Int} (ho : ¬ (1 ≤ o ∧ o ≤ 12)) {nm : ByteArray} {a : List S84} {f t : Int} {k : List S32} {w : World} {A2 A5 : Option Addr} {c2 c5 : Nat} (v : Int) (hk5 : k.length ≤ 9223372036854775807) (ha5 : a.length ≤ 9223372036854775807) (hnm : nm.size ≤ 100) :
  Calls Tryz.prog 110 #[.agg #[.int .i64 o, .string nm, .slice A2 a.length c2, .int .i64 f, .int .i64 t, .slice A5 k.length c5], .int .i64 v] w fun e w' => e = .returned (.bool (fieldsF ⟨o, nm, a, f, t, k⟩ v)) ∧ Below w.heap.size w w' := by
 have HBX := Lib.hid (one_blk w #[.int .i64 o, .string nm, .slice A2 a.length c2, .int .i64 f, .int .i64 t, .slice A5 k.length c5]).1
 have HB := Lib.hid (one_blk w #[.int .i64 o, .string nm, .slice A2 a.length c2, .int .i64 f, .int .i64 t, .slice A5 k.length c5]).2
 have HS := Lib.hid (symB_is hnm)
 clear hnm
 have h1 : o ≠ 1 := by omega
 have e1 : (o == (1 : Int)) = false := beq_eq_false_iff_ne.mpr h1
 have d1 : (o != (1 : Int)) = true := bne_iff_ne.mpr h1
 have h2 : o ≠ 2 := by omega
 have e2 : (o == (2 : Int)) = false := beq_eq_false_iff_ne.mpr h2
 have d2 : (o != (2 : Int)) = true := bne_iff_ne.mpr h2
 have h3 : o ≠ 3 := by omega
 have e3 : (o == (3 : Int)) = false := beq_eq_false_iff_ne.mpr h3
 have d3 : (o != (3 : Int)) = true := bne_iff_ne.mpr h3
 have h4 : o ≠ 4 := by omega
 have e4 : (o == (4 : Int)) = false := beq_eq_false_iff_ne.mpr h4
 have d4 : (o != (4 : Int)) = true := bne_iff_ne.mpr h4
 have h5 : o ≠ 5 := by omega
 have e5 : (o == (5 : Int)) = false := beq_eq_false_iff_ne.mpr h5
 have d5 : (o != (5 : Int)) = true := bne_iff_ne.mpr h5
 have h6 : o ≠ 6 := by omega
 have e6 : (o == (6 : Int)) = false := beq_eq_false_iff_ne.mpr h6
 have d6 : (o != (6 : Int)) = true := bne_iff_ne.mpr h6
 have h7 : o ≠ 7 := by omega
 have e7 : (o == (7 : Int)) = false := beq_eq_false_iff_ne.mpr h7
 have d7 : (o != (7 : Int)) = true := bne_iff_ne.mpr h7
 have h8 : o ≠ 8 := by omega
 have e8 : (o == (8 : Int)) = false := beq_eq_false_iff_ne.mpr h8
 have d8 : (o != (8 : Int)) = true := bne_iff_ne.mpr h8
 have h9 : o ≠ 9 := by omega
 have e9 : (o == (9 : Int)) = false := beq_eq_false_iff_ne.mpr h9
 have d9 : (o != (9 : Int)) = true := bne_iff_ne.mpr h9
 have h10 : o ≠ 10 := by omega
 have e10 : (o == (10 : Int)) = false := beq_eq_false_iff_ne.mpr h10
 have d10 : (o != (10 : Int)) = true := bne_iff_ne.mpr h10
 have h11 : o ≠ 11 := by omega
 have e11 : (o == (11 : Int)) = false := beq_eq_false_iff_ne.mpr h11
 have d11 : (o != (11 : Int)) = true := bne_iff_ne.mpr h11
 have h12 : o ≠ 12 := by omega
 have e12 : (o == (12 : Int)) = false := beq_eq_false_iff_ne.mpr h12
 have d12 : (o != (12 : Int)) = true := bne_iff_ne.mpr h12
 have HBF := Lib.hid (show formula_binds.f o = some false by rw [binds_f]; simp [h8, h9])
 clear ho
 by_cases hf : f = 0
 ·subst hf
  by_cases ht : t = 0
  ·subst ht
   by_cases ha : a.length = 0
   ·obtain rfl := List.eq_nil_of_length_eq_zero ha
    clear ha
    by_cases hn : nm.toList = []
    ·have n1 : (nm.toList == ([] : List UInt8)) = true := beq_iff_eq.mpr hn
     have n2 : (nm.toList != ([] : List UInt8)) = false := bne_eq_false_iff_eq.mpr hn
     have HN := Lib.hid hn
     clear hn
     have HE := Lib.hid (show fieldsF ⟨o, nm, [], 0, 0, k⟩ v = false by simp [fieldsF, HN.out, h1, h2, h3, h4, h5, h6, h7, h8, h9, h10, h11, h12])
     clear h1 h2 h3 h4 h5 h6 h7 h8 h9 h10 h11 h12
     go_enter Tryz.func110, Tryz.ntmps110
     go_wp2_with fail
     refine (formula_binds.calls o false _ HBF.out).mono ?_
     rintro e w3 ⟨rfl, hd⟩
     have HBX := Lib.hid (drawn_blk hd HBX.out)
     have HB := Lib.hid (below_then HB.out HB.out.size hd.below)
     clear hd
     obtain ⟨k0, k1, k2, k3, k4, k5⟩ := cells_of HBX.out
     go_wp2
     go_ret
     exact ⟨by rw [HE.out]; rfl, HB.out⟩
    ·have HE := Lib.hid (show fieldsF ⟨o, nm, [], 0, 0, k⟩ v = false by simp [fieldsF, h10, h3, h8, h9, hn])
     have n1 : (nm.toList == ([] : List UInt8)) = false := beq_eq_false_iff_ne.mpr hn
     have n2 : (nm.toList != ([] : List UInt8)) = true := bne_iff_ne.mpr hn
     clear hn
     clear h1 h2 h3 h4 h5 h6 h7 h8 h9 h10 h11 h12
     go_enter Tryz.func110, Tryz.ntmps110
     go_wp2_with fail
     refine (formula_binds.calls o false _ HBF.out).mono ?_
     rintro e w3 ⟨rfl, hd⟩
     have HBX := Lib.hid (drawn_blk hd HBX.out)
     have HB := Lib.hid (below_then HB.out HB.out.size hd.below)
     clear hd
     obtain ⟨k0, k1, k2, k3, k4, k5⟩ := cells_of HBX.out
     go_wp2
     go_ret
     exact ⟨by rw [HE.out]; rfl, HB.out⟩
   ·have h0 : 0 < a.length := by omega
    have HE := Lib.hid (show fieldsF ⟨o, nm, a, 0, 0, k⟩ v = false by simp [fieldsF, h10, h3, h0])
    have g1 : decide ((0 : Int) < (a.length : Int)) = true := decide_eq_true (by omega)
    have g2 : decide (0 < a.length) = true := decide_eq_true h0
    clear ha h0
    clear h1 h2 h3 h4 h5 h6 h7 h8 h9 h10 h11 h12
    go_enter Tryz.func110, Tryz.ntmps110
    go_wp2
    go_ret
    exact ⟨by rw [HE.out]; rfl, HB.out⟩
  ·have HE := Lib.hid (show fieldsF ⟨o, nm, a, 0, t, k⟩ v = false by simp [fieldsF, h10, h3, ht])
   have g1 : (t != (0 : Int)) = true := by simpa using ht
   clear ht
   clear h1 h2 h3 h4 h5 h6 h7 h8 h9 h10 h11 h12
   go_enter Tryz.func110, Tryz.ntmps110
   go_wp2
   go_ret
   exact ⟨by rw [HE.out]; rfl, HB.out⟩
 ·have HE := Lib.hid (show fieldsF ⟨o, nm, a, f, t, k⟩ v = false by simp [fieldsF, h10, h3, hf])
  have g1 : (f != (0 : Int)) = true := by simpa using hf
  clear hf
  clear h1 h2 h3 h4 h5 h6 h7 h8 h9 h10 h11 h12
  go_enter Tryz.func110, Tryz.ntmps110
  go_wp2
  go_ret
  exact ⟨by rw [HE.out]; rfl, HB.out⟩
def FdRel (v : Int) (a : List S84) (w : World) (X : Array Value) (v57 : Value) (wr : World) : Prop :=
 ∃ j : Nat, v57 = .int .i64 j ∧ j ≤ a.length ∧ (∀ i (hi : i < a.length), i < j → refOk v a[i] = true) ∧ wr.heap[w.heap.size]? = some (.cells X 32 (0, 0)) ∧ Below w.heap.size w wr
theorem f3_is (nm : ByteArray) (a : List S84) (k : List S32) (v : Int) : fieldsF ⟨3, nm, a, 0, 0, k⟩ v = (a.all (refOk v) && (k.length == 0 && decide (1 ≤ a.length) && decide (a.length ≤ 3) && symB nm)) := by simp [fieldsF]
set_option maxRecDepth 1000000 in
set_option maxHeartbeats 4000000 in
theorem fd3 {nm : ByteArray} {a : List S84} {f t : Int} {k : List S32} {w : World} {A2 A5 : Option Addr} {c2 c5 : Nat} (v : Int) (hk5 : k.length ≤ 9223372036854775807) (ha5 : a.length ≤ 9223372036854775807) (hnm : nm.size ≤ 100) (hA : Kd.C k84 w A2 a.length a) (hrs : ∀ r ∈ a, r.f2.size ≤ 100) :
  Calls Tryz.prog 110 #[.agg #[.int .i64 3, .string nm, .slice A2 a.length c2, .int .i64 f, .int .i64 t, .slice A5 k.length c5], .int .i64 v] w fun e w' => e = .returned (.bool (fieldsF ⟨3, nm, a, f, t, k⟩ v)) ∧ Below w.heap.size w w' := by
 have HBX0 := Lib.hid (one_blk w #[.int .i64 3, .string nm, .slice A2 a.length c2, .int .i64 f, .int .i64 t, .slice A5 k.length c5]).1
 have HB0 := Lib.hid (one_blk w #[.int .i64 3, .string nm, .slice A2 a.length c2, .int .i64 f, .int .i64 t, .slice A5 k.length c5]).2
 have HS := Lib.hid (symB_is hnm)
 have HA := Lib.hid hA
 have HRS := Lib.hid hrs
 clear hnm hA hrs
 by_cases hf : f = 0
 ·subst hf
  by_cases ht : t = 0
  ·subst ht
   have HE0 := Lib.hid (f3_is nm a k v)
   go_enter Tryz.func110, Tryz.ntmps110
   go_wp2
   go_loopw [57] (fun v57 wr => FdRel v a w #[.int .i64 3, .string nm, .slice A2 a.length c2, .int .i64 0, .int .i64 0, .slice A5 k.length c5] v57 wr) (fun v57 _ => a.length - (intOf v57).toNat)
   case atStart => exact ⟨0, rfl, Nat.zero_le _, fun i _ h => absurd h (Nat.not_lt_zero _), HBX0.out, HB0.out⟩
   case round =>
    obtain ⟨j, rfl, hj, hall, hbx, hb⟩ := hrel
    have HALL := Lib.hid hall
    have HBX := Lib.hid hbx
    have HB := Lib.hid hb
    clear hall hbx hb
    by_cases hlt : j < a.length
    ·have hj0 : 0 ≤ (j : Int) := by omega
     have hj1 : (j : Int) < (a.length : Int) := by omega
     obtain ⟨ad, e1, q0, q1, q2⟩ := ref_at (Kd.C_below HA.out HB.out) j hlt
     subst e1
     have HR := Lib.hid (refOk_is (r := a[j]) v (HRS.out _ (List.getElem_mem hlt)))
     obtain ⟨b, hb⟩ : ∃ b, refOk v a[j] = b := ⟨_, rfl⟩
     have HRB := Lib.hid hb
     rw [hb] at HR
     obtain ⟨r, hr⟩ : ∃ r, a[j] = r := ⟨_, rfl⟩
     have HRR := Lib.hid hr
     rw [hr] at q0 q1 q2 HR
     have HAL := Lib.hid ((Below.refl wr.heap.size wr).alloc (Nat.le_refl _) (.cells #[.int .i64 r.f0, .int .i64 r.f1, .string r.f2] 84))
     clear hb hr
     go_wp2_with fail
     refine (formula_reference.calls 102 r.f0 r.f1 r.f2 v b _ HR.out).mono ?_
     rintro e w3 ⟨rfl, hb3⟩
     have HB3 := Lib.hid (below_then HAL.out HAL.out.size hb3)
     have HBW3 := Lib.hid (below_then HB.out HB.out.size HB3.out)
     clear hb3 q0 q1 q2
     cases b with
     | true =>
      go_wp2
      go_roundw
      case rel => exact ⟨j + 1, by go_num, hlt, fun i hi hij => by
       by_cases e : i < j
       ·exact HALL.out i hi e
       ·have : i = j := by omega
        subst this
        exact HRB.out, (HB3.out.block _ (blk_lt HBX.out)).trans HBX.out, HBW3.out⟩
      case measure => simp [intOf]; omega
     | false =>
      have HE := Lib.hid (show fieldsF ⟨3, nm, a, 0, 0, k⟩ v = false by
       rw [HE0.out]
       have : a.all (refOk v) = false := by
        rw [List.all_eq_false]
        exact ⟨a[j], List.getElem_mem hlt, by rw [HRB.out]; decide⟩
       rw [this]
       rfl)
      go_wp2
      go_ret
      exact ⟨by rw [HE.out]; rfl, HBW3.out⟩
    ·have hjl : j = a.length := by omega
     subst hjl
     clear hlt hj
     have HAL := Lib.hid (show a.all (refOk v) = true by
      rw [List.all_eq_true]
      intro x hx
      obtain ⟨i, hi, rfl⟩ := List.mem_iff_getElem.1 hx
      exact HALL.out i hi hi)
     have HE1 := Lib.hid (show fieldsF ⟨3, nm, a, 0, 0, k⟩ v = (k.length == 0 && decide (1 ≤ a.length) && decide (a.length ≤ 3) && symB nm) by rw [HE0.out, HAL.out]; rfl)
     obtain ⟨k0, k1, k2, k3, k4, k5⟩ := cells_of HBX.out
     by_cases hk : k.length = 0
     ·have m1 : ((k.length : Int) == (0 : Int)) = true := beq_iff_eq.mpr (by omega)
      have m2 : (k.length == 0) = true := by simpa using hk
      have HK0 := Lib.hid hk
      clear hk
      by_cases ha1 : 1 ≤ a.length
      ·have g1 : decide ((1 : Int) ≤ (a.length : Int)) = true := decide_eq_true (by omega)
       have g1n : decide (1 ≤ a.length) = true := decide_eq_true ha1
       by_cases ha3 : a.length ≤ 3
       ·have g3 : decide ((a.length : Int) ≤ (3 : Int)) = true := decide_eq_true (by omega)
        have g3n : decide (a.length ≤ 3) = true := decide_eq_true ha3
        obtain ⟨b, hb⟩ : ∃ b, symB nm = b := ⟨_, rfl⟩
        have HE := Lib.hid (show fieldsF ⟨3, nm, a, 0, 0, k⟩ v = b by rw [HE1.out, m2, g1n, g3n, hb]; rfl)
        rw [hb] at HS
        clear hb ha1 ha3
        go_wp2_with fail
        refine (formula_symbol.calls 102 nm b _ HS.out).mono ?_
        clear k0 k1 k2 k3 k4 k5
        rintro e w4 ⟨rfl, hd⟩
        have HB4 := Lib.hid (below_then HB.out HB.out.size hd.below)
        clear hd
        go_wp2
        go_ret
        exact ⟨by rw [HE.out]; rfl, HB4.out⟩
       ·have g3 : decide ((a.length : Int) ≤ (3 : Int)) = false := decide_eq_false (by omega)
        have g3n : decide (a.length ≤ 3) = false := decide_eq_false ha3
        have HE := Lib.hid (show fieldsF ⟨3, nm, a, 0, 0, k⟩ v = false by rw [HE1.out, m2, g1n, g3n]; rfl)
        clear ha1 ha3
        go_wp2
        go_ret
        exact ⟨by rw [HE.out]; rfl, HB.out⟩
      ·have g1 : decide ((1 : Int) ≤ (a.length : Int)) = false := decide_eq_false (by omega)
       have g1n : decide (1 ≤ a.length) = false := decide_eq_false ha1
       have HE := Lib.hid (show fieldsF ⟨3, nm, a, 0, 0, k⟩ v = false by rw [HE1.out, m2, g1n]; rfl)
       clear ha1
       go_wp2
       go_ret
       exact ⟨by rw [HE.out]; rfl, HB.out⟩
     ·have m1 : ((k.length : Int) == (0 : Int)) = false := beq_eq_false_iff_ne.mpr (by omega)
      have m2 : (k.length == 0) = false := by simpa using hk
      have HE := Lib.hid (show fieldsF ⟨3, nm, a, 0, 0, k⟩ v = false by rw [HE1.out, m2]; rfl)
      clear hk
      go_wp2
      go_ret
      exact ⟨by rw [HE.out]; rfl, HB.out⟩
  ·have HE := Lib.hid (show fieldsF ⟨3, nm, a, 0, t, k⟩ v = false by simp [fieldsF, ht])
   have g1 : (t != (0 : Int)) = true := by simpa using ht
   clear ht
   go_enter Tryz.func110, Tryz.ntmps110
   go_wp2
   go_ret
   exact ⟨by rw [HE.out]; rfl, HB0.out⟩
 ·have HE := Lib.hid (show fieldsF ⟨3, nm, a, f, t, k⟩ v = false by simp [fieldsF, hf])
  have g1 : (f != (0 : Int)) = true := by simpa using hf
  clear hf
  go_enter Tryz.func110, Tryz.ntmps110
  go_wp2
  go_ret
  exact ⟨by rw [HE.out]; rfl, HB0.out⟩
theorem fields_any {x : S32} {w : World} {cs : List Value} (v : Int) (hK : k32.K w x cs) (hn : Nm x) :
  Calls Tryz.prog 110 #[.agg cs.toArray, .int .i64 v] w fun e w' => e = .returned (.bool (fieldsF x v)) ∧ Below w.heap.size w w' := by
 obtain ⟨A2, c2, A5, c5, rfl, l2, g2, l5, g5⟩ := k32_open hK
 obtain ⟨o, nm, a, f, t, k⟩ := x
 have hk5 : k.length ≤ 9223372036854775807 := g5.2.1
 have ha5 : a.length ≤ 9223372036854775807 := g2.2.1
 have hnm : nm.size ≤ 100 := hn.name
 by_cases h : 1 ≤ o ∧ o ≤ 12
 ·have ho : o = 1 ∨ o = 2 ∨ o = 3 ∨ o = 4 ∨ o = 5 ∨ o = 6 ∨ o = 7 ∨ o = 8 ∨ o = 9 ∨ o = 10 ∨ o = 11 ∨ o = 12 := by omega
  rcases ho with rfl | rfl | rfl | rfl | rfl | rfl | rfl | rfl | rfl | rfl | rfl | rfl
  ·exact fd1 v hk5 ha5 hnm
  ·exact fd2 v hk5 ha5 hnm
  ·exact fd3 v hk5 ha5 hnm g2 (fun r hr => (hn.ref r hr).1)
  ·exact fd4 v hk5 ha5 hnm
  ·exact fd5 v hk5 ha5 hnm
  ·exact fd6 v hk5 ha5 hnm
  ·exact fd7 v hk5 ha5 hnm
  ·exact fd8 v hk5 ha5 hnm
  ·exact fd9 v hk5 ha5 hnm
  ·exact fd10 v hk5 ha5 hnm
  ·exact fd11 v hk5 ha5 hnm
  ·exact fd12 v hk5 ha5 hnm
 ·exact fdx h v hk5 ha5 hnm
theorem size_any {x : S32} {w : World} {cs : List Value} (hK : k32.K w x cs) (hs : size x < 1000000) : Calls Tryz.prog 69 #[.agg cs.toArray] w fun e w' => e = .returned (.int .i64 (size x : Int)) ∧ Below w.heap.size w w' := by
 obtain ⟨A2, c2, A5, c5, rfl, l2, g2, l5, g5⟩ := k32_open hK
 exact formula_Size.calls (2 * size x) x.f0 x.f1 A2 c2 x.f2 x.f3 x.f4 A5 c5 x.f5 _ w g2 l2 g5 l5 (szF_is (size x) x (Nat.le_refl _) hs _ (Nat.le_refl _))
theorem depth_any {x : S32} {w : World} {cs : List Value} (hK : k32.K w x cs) (hs : size x < 1000000) : Calls Tryz.prog 70 #[.agg cs.toArray] w fun e w' => e = .returned (.int .i64 (depth x : Int)) ∧ Below w.heap.size w w' := by
 obtain ⟨A2, c2, A5, c5, rfl, l2, g2, l5, g5⟩ := k32_open hK
 exact formula_Depth.calls (2 * size x) x.f0 x.f1 A2 c2 x.f2 x.f3 x.f4 A5 c5 x.f5 _ w g2 l2 g5 l5 (dpF_is (size x) x (Nat.le_refl _) hs _ (Nat.le_refl _))
def limF (x : S32) : Bool := decide (size x ≤ 200) && decide (depth x ≤ 32)
theorem limits_any {x : S32} {w : World} {cs : List Value} (hK : k32.K w x cs) (hs : size x < 1000000) : Calls Tryz.prog 98 #[.agg cs.toArray] w fun e w' => e = .returned (.bool (limF x)) ∧ Below w.heap.size w w' := by
 obtain ⟨A2, c2, A5, c5, rfl, l2, g2, l5, g5⟩ := k32_open hK
 refine formula_limits.calls (2 * size x) x.f0 x.f1 A2 c2 x.f2 x.f3 x.f4 A5 c5 x.f5 _ w g2 l2 g5 l5 ?_
 unfold formula_limits.f
 rw [show formula_Size.f (2 * size x) x.f0 x.f1 x.f2 x.f3 x.f4 x.f5 = some (size x : Int) from szF_is (size x) x (Nat.le_refl _) hs _ (Nat.le_refl _), show formula_Depth.f (2 * size x) x.f0 x.f1 x.f2 x.f3 x.f4 x.f5 = some (depth x : Int) from dpF_is (size x) x (Nat.le_refl _) hs _ (Nat.le_refl _)]
 simp only [Option.bind_some]
 unfold limF
 by_cases h : size x ≤ 200
 ·rw [if_pos (by omega)]
  simp [h]
  omega
 ·rw [if_neg (by omega)]
  simp [h]
def FmRel (u : Int) (k : List S32) (w : World) (v19 : Value) (wr : World) : Prop :=
 ∃ j : Nat, v19 = .int .i64 j ∧ j ≤ k.length ∧ (∀ i (hi : i < k.length), i < j → formedF k[i] u = true) ∧ Below w.heap.size w wr
theorem al_nm {x : S32} (h : Al x) : Nm x := ((al_is x).1 h).1
set_option maxRecDepth 1000000 in
set_option maxHeartbeats 4000000 in
theorem formed_any : ∀ (n : Nat) (x : S32), size x < n → ∀ (w : World) (cs : List Value) (v : Int), k32.K w x cs → Al x → 0 ≤ v → v + size x < 4000000000000 → Calls Tryz.prog 99 #[.agg cs.toArray, .int .i64 v] w fun e w' => e = .returned (.bool (formedF x v)) ∧ Below w.heap.size w w'
 | 0, x, hx, _, _, _, _, _, _, _ => absurd hx (Nat.not_lt_zero _)
 | n + 1, ⟨o, nm, a, f, t, k⟩, hx, w, cs, v, hK, hal, hv0, hv1 => by
  have hrec := formed_any n
  have HREC := Lib.hid hrec
  have HK := Lib.hid hK
  obtain ⟨A2, c2, A5, c5, rfl, l2, g2, l5, g5⟩ := k32_open hK
  have HG5 := Lib.hid g5
  have hk5 : k.length ≤ 9223372036854775807 := g5.2.1
  have HAL := Lib.hid hal
  have HSZ := Lib.hid hx
  have HV := Lib.hid hv1
  have HV0 := Lib.hid hv0
  have HBX := Lib.hid (one_blk w #[.int .i64 o, .string nm, .slice A2 a.length c2, .int .i64 f, .int .i64 t, .slice A5 k.length c5]).1
  have HB := Lib.hid (one_blk w #[.int .i64 o, .string nm, .slice A2 a.length c2, .int .i64 f, .int .i64 t, .slice A5 k.length c5]).2
  have HFD := Lib.hid (fields_any v (k32.K_below HB.out HK.out) (al_nm hal))
  have HE0 := Lib.hid (formed_is ⟨o, nm, a, f, t, k⟩ v)
  clear hrec hK hx hal hv0 hv1 g2 g5 l2 l5
  dsimp only at *
  obtain ⟨b, hb⟩ : ∃ b, fieldsF ⟨o, nm, a, f, t, k⟩ v = b := ⟨_, rfl⟩
  rw [hb] at HFD HE0
  clear hb
  cases b with
  | false =>
   have HE := Lib.hid (show formedF ⟨o, nm, a, f, t, k⟩ v = false by rw [HE0.out]; rfl)
   go_enter Tryz.func99, Tryz.ntmps99
   go_wp2_with fail
   refine HFD.out.mono ?_
   rintro e w3 ⟨rfl, hb3⟩
   have HB3 := Lib.hid (below_then HB.out HB.out.size hb3)
   clear hb3
   go_wp2
   go_ret
   exact ⟨by rw [HE.out]; rfl, HB3.out⟩
  | true =>
   have HE1 := Lib.hid (show formedF ⟨o, nm, a, f, t, k⟩ v = k.all (fun y => formedF y (vin o v)) by rw [HE0.out, formedFs_all]; rfl)
   clear HE0
   by_cases hbd : o = 8 ∨ o = 9
   ·have HU := Lib.hid (show vin o v = v + 1 by unfold vin; rw [if_pos hbd])
    have HBF := Lib.hid (show formula_binds.f o = some true by rw [binds_f]; rcases hbd with h | h <;> simp [h])
    have HWR := Lib.hid (show wrap64 (v + 1) = v + 1 from wrap_small (by have := HV0.out; omega) (by have := HV.out; omega))
    rw [HU.out] at HE1
    clear hbd
    go_enter Tryz.func99, Tryz.ntmps99
    go_wp2_with fail
    refine HFD.out.mono ?_
    rintro e w3 ⟨rfl, hb3⟩
    have HB3 := Lib.hid (below_then HB.out HB.out.size hb3)
    have HBX3 := Lib.hid ((hb3.block _ (blk_lt HBX.out)).trans HBX.out)
    clear hb3
    obtain ⟨k0, k1, k2, k3, k4, k5⟩ := cells_of HBX3.out
    go_wp2_with fail
    refine (formula_binds.calls o true _ HBF.out).mono ?_
    rintro e w4 ⟨rfl, hd4⟩
    have HB4 := Lib.hid (below_then HB3.out HB3.out.size hd4.below)
    have HBX4 := Lib.hid (drawn_blk hd4 HBX3.out)
    clear hd4 k0 k1 k2 k3 k4 k5
    obtain ⟨k0, k1, k2, k3, k4, k5⟩ := cells_of HBX4.out
    go_wp2
    rw [HWR.out]
    go_loopw [19] (fun v19 wr => FmRel (v + 1) k w v19 wr) (fun v19 _ => k.length - (intOf v19).toNat)
    case atStart => exact ⟨0, rfl, Nat.zero_le _, fun i _ h => absurd h (Nat.not_lt_zero _), HB4.out⟩
    case round =>
     obtain ⟨j, rfl, hj, hall, hbr⟩ := hrel
     have HALL := Lib.hid hall
     have HBR := Lib.hid hbr
     clear hall hbr k0 k1 k2 k3 k4 k5
     by_cases hlt : j < k.length
     ·have hj0 : 0 ≤ (j : Int) := by omega
      have hj1 : (j : Int) < (k.length : Int) := by omega
      obtain ⟨ad, A3, c3, A6, c6, e4, q0, q1, q2, q3, q4, q5, qK⟩ := form_at (Kd.C_below HG5.out HBR.out) j hlt
      subst e4
      have hmem : k[j] ∈ k := List.getElem_mem hlt
      obtain ⟨b, hb⟩ : ∃ b, formedF k[j] (v + 1) = b := ⟨_, rfl⟩
      have HRB := Lib.hid hb
      have HMEM := Lib.hid hmem
      obtain ⟨y, hy⟩ : ∃ y, k[j] = y := ⟨_, rfl⟩
      have HYY := Lib.hid hy
      rw [hy] at q0 q1 q2 q3 q4 q5 qK hmem hb
      have HAL2 := Lib.hid ((Below.refl wr.heap.size wr).alloc (Nat.le_refl _) (.cells #[.int .i64 y.f0, .string y.f1, .slice A3 y.f2.length c3, .int .i64 y.f3, .int .i64 y.f4, .slice A6 y.f5.length c6] 32))
      have hih := HREC.out y (by have := kid_lt (x := ⟨o, nm, a, f, t, k⟩) hmem; have := HSZ.out; omega) _ _ (v + 1) (k32.K_below HAL2.out qK) (((al_is _).1 HAL.out).2 y hmem) (by have := HV0.out; omega) (by have := kid_lt (x := ⟨o, nm, a, f, t, k⟩) hmem; have := HV.out; omega)
      rw [hb] at hih
      have HIH := Lib.hid hih
      clear qK hmem hy hb hih
      go_wp2_with fail
      refine HIH.out.mono ?_
      rintro e w5 ⟨rfl, hb5⟩
      have HB5 := Lib.hid (below_then HBR.out HBR.out.size (below_then HAL2.out HAL2.out.size hb5))
      clear hb5 q0 q1 q2 q3 q4 q5
      cases b with
      | true =>
       go_wp2
       go_roundw
       case rel => exact ⟨j + 1, by go_num, hlt, fun i hi hij => by
        by_cases e : i < j
        ·exact HALL.out i hi e
        ·have : i = j := by omega
         subst this
         exact HRB.out, HB5.out⟩
       case measure => simp [intOf]; omega
      | false =>
       have HE := Lib.hid (show formedF ⟨o, nm, a, f, t, k⟩ v = false by
        rw [HE1.out, List.all_eq_false]
        exact ⟨k[j], HMEM.out, by rw [HRB.out]; decide⟩)
       go_wp2
       go_ret
       exact ⟨by rw [HE.out]; rfl, HB5.out⟩
     ·have hjl : j = k.length := by omega
      subst hjl
      clear hlt hj
      have HE := Lib.hid (show formedF ⟨o, nm, a, f, t, k⟩ v = true by
       rw [HE1.out, List.all_eq_true]
       intro x hx
       obtain ⟨i, hi, rfl⟩ := List.mem_iff_getElem.1 hx
       exact HALL.out i hi hi)
      go_wp2
      go_ret
      exact ⟨by rw [HE.out]; rfl, HBR.out⟩
   ·have HU := Lib.hid (show vin o v = v by unfold vin; rw [if_neg hbd])
    have HBF := Lib.hid (show formula_binds.f o = some false by rw [binds_f]; simp; omega)
    rw [HU.out] at HE1
    clear hbd
    go_enter Tryz.func99, Tryz.ntmps99
    go_wp2_with fail
    refine HFD.out.mono ?_
    rintro e w3 ⟨rfl, hb3⟩
    have HB3 := Lib.hid (below_then HB.out HB.out.size hb3)
    have HBX3 := Lib.hid ((hb3.block _ (blk_lt HBX.out)).trans HBX.out)
    clear hb3
    obtain ⟨k0, k1, k2, k3, k4, k5⟩ := cells_of HBX3.out
    go_wp2_with fail
    refine (formula_binds.calls o false _ HBF.out).mono ?_
    rintro e w4 ⟨rfl, hd4⟩
    have HB4 := Lib.hid (below_then HB3.out HB3.out.size hd4.below)
    have HBX4 := Lib.hid (drawn_blk hd4 HBX3.out)
    clear hd4 k0 k1 k2 k3 k4 k5
    obtain ⟨k0, k1, k2, k3, k4, k5⟩ := cells_of HBX4.out
    go_wp2
    skip
    go_loopw [19] (fun v19 wr => FmRel (v) k w v19 wr) (fun v19 _ => k.length - (intOf v19).toNat)
    case atStart => exact ⟨0, rfl, Nat.zero_le _, fun i _ h => absurd h (Nat.not_lt_zero _), HB4.out⟩
    case round =>
     obtain ⟨j, rfl, hj, hall, hbr⟩ := hrel
     have HALL := Lib.hid hall
     have HBR := Lib.hid hbr
     clear hall hbr k0 k1 k2 k3 k4 k5
     by_cases hlt : j < k.length
     ·have hj0 : 0 ≤ (j : Int) := by omega
      have hj1 : (j : Int) < (k.length : Int) := by omega
      obtain ⟨ad, A3, c3, A6, c6, e4, q0, q1, q2, q3, q4, q5, qK⟩ := form_at (Kd.C_below HG5.out HBR.out) j hlt
      subst e4
      have hmem : k[j] ∈ k := List.getElem_mem hlt
      obtain ⟨b, hb⟩ : ∃ b, formedF k[j] (v) = b := ⟨_, rfl⟩
      have HRB := Lib.hid hb
      have HMEM := Lib.hid hmem
      obtain ⟨y, hy⟩ : ∃ y, k[j] = y := ⟨_, rfl⟩
      have HYY := Lib.hid hy
      rw [hy] at q0 q1 q2 q3 q4 q5 qK hmem hb
      have HAL2 := Lib.hid ((Below.refl wr.heap.size wr).alloc (Nat.le_refl _) (.cells #[.int .i64 y.f0, .string y.f1, .slice A3 y.f2.length c3, .int .i64 y.f3, .int .i64 y.f4, .slice A6 y.f5.length c6] 32))
      have hih := HREC.out y (by have := kid_lt (x := ⟨o, nm, a, f, t, k⟩) hmem; have := HSZ.out; omega) _ _ (v) (k32.K_below HAL2.out qK) (((al_is _).1 HAL.out).2 y hmem) (by have := HV0.out; omega) (by have := kid_lt (x := ⟨o, nm, a, f, t, k⟩) hmem; have := HV.out; omega)
      rw [hb] at hih
      have HIH := Lib.hid hih
      clear qK hmem hy hb hih
      go_wp2_with fail
      refine HIH.out.mono ?_
      rintro e w5 ⟨rfl, hb5⟩
      have HB5 := Lib.hid (below_then HBR.out HBR.out.size (below_then HAL2.out HAL2.out.size hb5))
      clear hb5 q0 q1 q2 q3 q4 q5
      cases b with
      | true =>
       go_wp2
       go_roundw
       case rel => exact ⟨j + 1, by go_num, hlt, fun i hi hij => by
        by_cases e : i < j
        ·exact HALL.out i hi e
        ·have : i = j := by omega
         subst this
         exact HRB.out, HB5.out⟩
       case measure => simp [intOf]; omega
      | false =>
       have HE := Lib.hid (show formedF ⟨o, nm, a, f, t, k⟩ v = false by
        rw [HE1.out, List.all_eq_false]
        exact ⟨k[j], HMEM.out, by rw [HRB.out]; decide⟩)
       go_wp2
       go_ret
       exact ⟨by rw [HE.out]; rfl, HB5.out⟩
     ·have hjl : j = k.length := by omega
      subst hjl
      clear hlt hj
      have HE := Lib.hid (show formedF ⟨o, nm, a, f, t, k⟩ v = true by
       rw [HE1.out, List.all_eq_true]
       intro x hx
       obtain ⟨i, hi, rfl⟩ := List.mem_iff_getElem.1 hx
       exact HALL.out i hi hi)
      go_wp2
      go_ret
      exact ⟨by rw [HE.out]; rfl, HBR.out⟩
theorem valid_is (x : S32) : validF x = (limF x && formedF x 1099511627776) := rfl
set_option maxRecDepth 1000000 in
set_option maxHeartbeats 4000000 in
theorem Valid_any {x : S32} {w : World} {cs : List Value} (hK : k32.K w x cs) (hal : Al x) (hs : size x < 1000000) : Calls Tryz.prog 77 #[.agg cs.toArray, .int .i64 1099511627776] w fun e w' => e = .returned (.bool (validF x)) ∧ Below w.heap.size w w' := by
 have HK := Lib.hid hK
 obtain ⟨A2, c2, A5, c5, rfl, -⟩ := k32_open hK
 have HB := Lib.hid (one_blk w #[.int .i64 x.f0, .string x.f1, .slice A2 x.f2.length c2, .int .i64 x.f3, .int .i64 x.f4, .slice A5 x.f5.length c5]).2
 have HBX := Lib.hid (one_blk w #[.int .i64 x.f0, .string x.f1, .slice A2 x.f2.length c2, .int .i64 x.f3, .int .i64 x.f4, .slice A5 x.f5.length c5]).1
 have HLM := Lib.hid (limits_any (k32.K_below HB.out HK.out) hs)
 have HFM := Lib.hid (show ∀ W, Below w.heap.size w W → Calls Tryz.prog 99 #[.agg #[.int .i64 x.f0, .string x.f1, .slice A2 x.f2.length c2, .int .i64 x.f3, .int .i64 x.f4, .slice A5 x.f5.length c5], .int .i64 1099511627776] W fun e w' => e = .returned (.bool (formedF x 1099511627776)) ∧ Below W.heap.size W w' from fun W hW => formed_any (size x + 1) x (by omega) W _ _ (k32.K_below hW HK.out) hal (by decide) (by omega))
 have HE0 := Lib.hid (valid_is x)
 clear hK hal hs
 obtain ⟨b, hb⟩ : ∃ b, limF x = b := ⟨_, rfl⟩
 rw [hb] at HLM HE0
 clear hb
 cases b with
 | false =>
  have HE := Lib.hid (show validF x = false by rw [HE0.out]; rfl)
  go_enter Tryz.func77, Tryz.ntmps77
  go_wp2_with fail
  refine HLM.out.mono ?_
  rintro e w3 ⟨rfl, hb3⟩
  have HB3 := Lib.hid (below_then HB.out HB.out.size hb3)
  clear hb3
  go_wp2
  go_ret
  exact ⟨by rw [HE.out]; rfl, HB3.out⟩
 | true =>
  obtain ⟨d, hd⟩ : ∃ d, formedF x 1099511627776 = d := ⟨_, rfl⟩
  rw [hd] at HFM HE0
  clear hd
  have HE := Lib.hid (show validF x = d by rw [HE0.out]; rfl)
  go_enter Tryz.func77, Tryz.ntmps77
  go_wp2_with fail
  refine HLM.out.mono ?_
  rintro e w3 ⟨rfl, hb3⟩
  have HB3 := Lib.hid (below_then HB.out HB.out.size hb3)
  have HBX3 := Lib.hid ((hb3.block _ (blk_lt HBX.out)).trans HBX.out)
  clear hb3
  obtain ⟨k0, k1, k2, k3, k4, k5⟩ := cells_of HBX3.out
  go_wp2_with fail
  refine (HFM.out w3 HB3.out).mono ?_
  rintro e w4 ⟨rfl, hb4⟩
  have HB4 := Lib.hid (below_then HB3.out HB3.out.size hb4)
  clear hb4 k0 k1 k2 k3 k4 k5
  go_wp2
  go_ret
  exact ⟨by rw [HE.out]; rfl, HB4.out⟩
set_option maxRecDepth 1000000 in
set_option maxHeartbeats 4000000 in
theorem valid_any {x : S32} {w : World} {cs : List Value} (hK : k32.K w x cs) (hal : Al x) (hs : size x < 1000000) : Calls Tryz.prog 51 #[.agg cs.toArray] w fun e w' => e = .returned (.bool (validF x)) ∧ Below w.heap.size w w' := by
 have HK := Lib.hid hK
 obtain ⟨A2, c2, A5, c5, rfl, -⟩ := k32_open hK
 have HB := Lib.hid (one_blk w #[.int .i64 x.f0, .string x.f1, .slice A2 x.f2.length c2, .int .i64 x.f3, .int .i64 x.f4, .slice A5 x.f5.length c5]).2
 have HV := Lib.hid (Valid_any (k32.K_below HB.out HK.out) hal hs)
 clear hK hal hs
 go_enter Tryz.func51, Tryz.ntmps51
 go_wp2_with fail
 refine HV.out.mono ?_
 rintro e w3 ⟨rfl, hb3⟩
 have HB3 := Lib.hid (below_then HB.out HB.out.size hb3)
 clear hb3
 go_wp2
 go_ret
 exact ⟨rfl, HB3.out⟩
/-- fits: the formula, and the error. -/
def fitF (x : S32) : S32 × Int := if limF x then (x, 0) else (z32, 2)
def FrE (w w' : World) (ok : Nat → Prop) (p : S32 × Int) (e : Ending) : Prop := ∃ cs, e = .returned (.tuple #[.agg cs.toArray, .int .i64 p.2]) ∧ Kd.FK k32 w' (OkN ok w.heap.size) p.1 cs ∧ Below w.heap.size w w'
theorem res_slot2 {fn : Func} {p u : Tmp} (h : fn.results = #[.cell p 32, .tmp u]) (tmps : Array Value) (w : World) (s : Nat) (c0 c1 c2 c3 c4 c5 : Value) (hp : tmps.getD p undef = .pointer (some ⟨s, 0, none⟩)) (hg : w.heap[s]? = some (.cells #[c0, c1, c2, c3, c4, c5] 32 (0, 0))) :
  (results fn tmps).run Tryz.prog w = .ok (.tuple #[.agg [c0, c1, c2, c3, c4, c5].toArray, tmps.getD u undef]) w :=
 results_ct h _ _ s 32 #[c0, c1, c2, c3, c4, c5] (0, 0) _ hp hg Tryz.underlying32 rfl (by kernel_rfl)
theorem slotE_done {w W : World} {s : Nat} {ok ok' : Nat → Prop} {x : S32} {m : Int} {c0 c1 c2 c3 c4 c5 : Value} (hF : Kd.FK k32 W ok' x [c0, c1, c2, c3, c4, c5]) (hB : Below w.heap.size w W) (hs : w.heap.size ≤ s) (hne : ∀ k, ok' k → k ≠ s) (hm : ∀ k, ok' k → OkN ok w.heap.size k) :
  FrE w (six W s c0 c1 c2 c3 c4 c5) ok (x, m) (.returned (.tuple #[.agg [c0, c1, c2, c3, c4, c5].toArray, .int .i64 m])) :=
 ⟨_, rfl, Kd.FK_mono (Kd.FK_step hF (fun k hk _ => six_far _ _ _ _ _ _ k (hne k hk))) hm, six_below _ _ _ _ _ _ hB hs⟩
theorem slotE_zero {w W : World} {s : Nat} {ok : Nat → Prop} (m : Int) (hB : Below w.heap.size w W) (hs : w.heap.size ≤ s) :
  FrE w (six W s (.int .i64 0) (.string ⟨#[]⟩) (.slice none 0 0) (.int .i64 0) (.int .i64 0) (.slice none 0 0)) ok (z32, m) (.returned (.tuple #[.agg [.int .i64 0, .string ⟨#[]⟩, .slice none 0 0, .int .i64 0, .int .i64 0, .slice none 0 0].toArray, .int .i64 m])) :=
 ⟨_, rfl, k32_mkF _ _ z32 (Nat.le_refl _) (Kd.F_nil k84 _ _) (Nat.le_refl _) (Kd.F_nil k32 _ _), six_below _ _ _ _ _ _ hB hs⟩
set_option maxRecDepth 1000000 in
set_option maxHeartbeats 4000000 in
theorem fits_any {x : S32} {w : World} {cs : List Value} {ok : Nat → Prop} (hF : Kd.FK k32 w ok x cs) (hok : ∀ k, ok k → k < w.heap.size) (hs : size x < 1000000) : Calls Tryz.prog 47 #[.agg cs.toArray] w fun e w' => FrE w w' ok (fitF x) e := by
 have HF := Lib.hid hF
 have HOK := Lib.hid hok
 obtain ⟨A2, c2, A5, c5, rfl, -⟩ := k32_openF hF
 have HW := Lib.hid (box_slot w #[.int .i64 x.f0, .string x.f1, .slice A2 x.f2.length c2, .int .i64 x.f3, .int .i64 x.f4, .slice A5 x.f5.length c5])
 have HSZ := Lib.hid (size_any (k32.K_below HW.out.2.2.2 (Kd.FK_now hF)) hs)
 have HDP := Lib.hid (show ∀ W, Below w.heap.size w W → Calls Tryz.prog 70 #[.agg #[.int .i64 x.f0, .string x.f1, .slice A2 x.f2.length c2, .int .i64 x.f3, .int .i64 x.f4, .slice A5 x.f5.length c5]] W fun e w' => e = .returned (.int .i64 (depth x : Int)) ∧ Below W.heap.size W w' from fun W hW => depth_any (k32.K_below hW (Kd.FK_now HF.out)) hs)
 clear hF hok hs
 by_cases h1 : size x ≤ 200
 ·have g1 : decide ((200 : Int) < (size x : Int)) = false := decide_eq_false (by omega)
  by_cases h2 : depth x ≤ 32
  ·have g2 : decide ((32 : Int) < (depth x : Int)) = false := decide_eq_false (by omega)
   have HE := Lib.hid (show fitF x = (x, 0) by unfold fitF limF; simp [h1, h2])
   obtain ⟨s, hs⟩ : ∃ s : Int, (size x : Int) = s := ⟨_, rfl⟩
   obtain ⟨d, hd⟩ : ∃ d : Int, (depth x : Int) = d := ⟨_, rfl⟩
   rw [hs] at g1 HSZ
   rw [hd] at g2 HDP
   clear hs hd h1 h2
   go_enter Tryz.func47, Tryz.ntmps47
   go_wp2_with fail
   refine HSZ.out.mono ?_
   rintro e w3 ⟨rfl, hb3⟩
   have HB3 := Lib.hid (below_then HW.out.2.2.2 HW.out.2.2.2.size hb3)
   have HBX3 := Lib.hid ((hb3.block _ (blk_lt HW.out.2.1)).trans HW.out.2.1)
   have HSB3 := Lib.hid ((hb3.block _ (blk_lt HW.out.2.2.1)).trans HW.out.2.2.1)
   clear hb3
   obtain ⟨k0, k1, k2, k3, k4, k5⟩ := cells_of HBX3.out
   go_wp2_with fail
   refine (HDP.out w3 HB3.out).mono ?_
   rintro e w4 ⟨rfl, hb4⟩
   have HB4 := Lib.hid (below_then HB3.out HB3.out.size hb4)
   have HBX4 := Lib.hid ((hb4.block _ (blk_lt HBX3.out)).trans HBX3.out)
   have HSB4 := Lib.hid ((hb4.block _ (blk_lt HSB3.out)).trans HSB3.out)
   clear hb4 k0 k1 k2 k3 k4 k5
   obtain ⟨y0, y1, y2, y3, y4, y5, f0, f1, f2, f3, f4, f5⟩ := slot_cells HSB4.out
   obtain ⟨k0, k1, k2, k3, k4, k5⟩ := cells_of HBX4.out
   go_wp2
   refine bodyPost_ret (res_slot2 rfl _ _ _ _ _ _ _ _ _ rfl (six_blk HSB4.out _ _ _ _ _ _)) rfl ?_
   rw [HE.out]
   exact slotE_done (Kd.FK_step HF.out (fun k _ hk => HB4.out.block k hk)) HB4.out (by omega) (fun k hk => by have := HOK.out k hk; omega) (fun k hk => Or.inl hk)
  ·have g2 : decide ((32 : Int) < (depth x : Int)) = true := decide_eq_true (by omega)
   have HE := Lib.hid (show fitF x = (z32, 2) by unfold fitF limF; simp [h2])
   obtain ⟨s, hs⟩ : ∃ s : Int, (size x : Int) = s := ⟨_, rfl⟩
   obtain ⟨d, hd⟩ : ∃ d : Int, (depth x : Int) = d := ⟨_, rfl⟩
   rw [hs] at g1 HSZ
   rw [hd] at g2 HDP
   clear hs hd h1 h2
   go_enter Tryz.func47, Tryz.ntmps47
   go_wp2_with fail
   refine HSZ.out.mono ?_
   rintro e w3 ⟨rfl, hb3⟩
   have HB3 := Lib.hid (below_then HW.out.2.2.2 HW.out.2.2.2.size hb3)
   have HBX3 := Lib.hid ((hb3.block _ (blk_lt HW.out.2.1)).trans HW.out.2.1)
   have HSB3 := Lib.hid ((hb3.block _ (blk_lt HW.out.2.2.1)).trans HW.out.2.2.1)
   clear hb3
   obtain ⟨k0, k1, k2, k3, k4, k5⟩ := cells_of HBX3.out
   go_wp2_with fail
   refine (HDP.out w3 HB3.out).mono ?_
   rintro e w4 ⟨rfl, hb4⟩
   have HB4 := Lib.hid (below_then HB3.out HB3.out.size hb4)
   have HBX4 := Lib.hid ((hb4.block _ (blk_lt HBX3.out)).trans HBX3.out)
   have HSB4 := Lib.hid ((hb4.block _ (blk_lt HSB3.out)).trans HSB3.out)
   clear hb4 k0 k1 k2 k3 k4 k5
   obtain ⟨y0, y1, y2, y3, y4, y5, f0, f1, f2, f3, f4, f5⟩ := slot_cells HSB4.out
   go_wp2
   refine bodyPost_ret (res_slot2 rfl _ _ _ _ _ _ _ _ _ rfl (six_blk HSB4.out _ _ _ _ _ _)) rfl ?_
   rw [HE.out]
   exact slotE_zero 2 HB4.out (by omega)
 ·have g1 : decide ((200 : Int) < (size x : Int)) = true := decide_eq_true (by omega)
  have HE := Lib.hid (show fitF x = (z32, 2) by unfold fitF limF; simp [h1])
  obtain ⟨s, hs⟩ : ∃ s : Int, (size x : Int) = s := ⟨_, rfl⟩
  rw [hs] at g1 HSZ
  clear hs h1 HDP
  go_enter Tryz.func47, Tryz.ntmps47
  go_wp2_with fail
  refine HSZ.out.mono ?_
  rintro e w3 ⟨rfl, hb3⟩
  have HB3 := Lib.hid (below_then HW.out.2.2.2 HW.out.2.2.2.size hb3)
  have HBX3 := Lib.hid ((hb3.block _ (blk_lt HW.out.2.1)).trans HW.out.2.1)
  have HSB3 := Lib.hid ((hb3.block _ (blk_lt HW.out.2.2.1)).trans HW.out.2.2.1)
  clear hb3
  obtain ⟨y0, y1, y2, y3, y4, y5, f0, f1, f2, f3, f4, f5⟩ := slot_cells HSB3.out
  go_wp2
  refine bodyPost_ret (res_slot2 rfl _ _ _ _ _ _ _ _ _ rfl (six_blk HSB3.out _ _ _ _ _ _)) rfl ?_
  rw [HE.out]
  exact slotE_zero 2 HB3.out (by omega)
/-- normalform.Of -/
def ofF (x : S32) : S32 × Int := if validF x then fitF (nf x false) else (z32, 1)
set_option maxRecDepth 1000000 in
set_option maxHeartbeats 4000000 in
theorem of_any {x : S32} {w : World} {cs : List Value} {ok : Nat → Prop} (hF : Kd.FK k32 w ok x cs) (hok : ∀ k, ok k → k < w.heap.size) (hal : Al x) (hs : size x < 1000000) : Calls Tryz.prog 38 #[.agg cs.toArray] w fun e w' => FrE w w' ok (ofF x) e := by
 have HF := Lib.hid hF
 have HOK := Lib.hid hok
 obtain ⟨A2, c2, A5, c5, rfl, -⟩ := k32_openF hF
 have HW := Lib.hid (box_slot w #[.int .i64 x.f0, .string x.f1, .slice A2 x.f2.length c2, .int .i64 x.f3, .int .i64 x.f4, .slice A5 x.f5.length c5])
 have HV := Lib.hid (valid_any (k32.K_below HW.out.2.2.2 (Kd.FK_now hF)) hal hs)
 clear hF hok hal hs
 obtain ⟨b, hb⟩ : ∃ b, validF x = b := ⟨_, rfl⟩
 rw [hb] at HV
 cases b with
 | false =>
  have HE := Lib.hid (show ofF x = (z32, 1) by unfold ofF; rw [hb]; rfl)
  clear hb
  go_enter Tryz.func38, Tryz.ntmps38
  go_wp2_with fail
  refine HV.out.mono ?_
  rintro e w3 ⟨rfl, hb3⟩
  have HB3 := Lib.hid (below_then HW.out.2.2.2 HW.out.2.2.2.size hb3)
  have HBX3 := Lib.hid ((hb3.block _ (blk_lt HW.out.2.1)).trans HW.out.2.1)
  have HSB3 := Lib.hid ((hb3.block _ (blk_lt HW.out.2.2.1)).trans HW.out.2.2.1)
  clear hb3
  obtain ⟨y0, y1, y2, y3, y4, y5, f0, f1, f2, f3, f4, f5⟩ := slot_cells HSB3.out
  go_wp2
  refine bodyPost_ret (res_slot2 rfl _ _ _ _ _ _ _ _ _ rfl (six_blk HSB3.out _ _ _ _ _ _)) rfl ?_
  rw [HE.out]
  exact slotE_zero 1 HB3.out (by omega)
 | true =>
  have HE := Lib.hid (show ofF x = fitF (nf x false) by unfold ofF; rw [hb]; rfl)
  have HVW := Lib.hid (valid_wf hb)
  clear hb
  go_enter Tryz.func38, Tryz.ntmps38
  go_wp2_with fail
  refine HV.out.mono ?_
  rintro e w3 ⟨rfl, hb3⟩
  have HB3 := Lib.hid (below_then HW.out.2.2.2 HW.out.2.2.2.size hb3)
  have HBX3 := Lib.hid ((hb3.block _ (blk_lt HW.out.2.1)).trans HW.out.2.1)
  have HSB3 := Lib.hid ((hb3.block _ (blk_lt HW.out.2.2.1)).trans HW.out.2.2.1)
  clear hb3
  obtain ⟨k0, k1, k2, k3, k4, k5⟩ := cells_of HBX3.out
  go_wp2_with fail
  refine (nr_any false (Kd.FK_step HF.out (fun k _ hk => HB3.out.block k hk)) (fun k hk => Nat.lt_of_lt_of_le (HOK.out k hk) HB3.out.size) HVW.out.1 HVW.out.2.1).mono ?_
  rintro e w4 ⟨ds, rfl, hF4, hB4⟩
  have HB4 := Lib.hid (below_then HB3.out HB3.out.size hB4)
  have HSB4 := Lib.hid ((hB4.block _ (blk_lt HSB3.out)).trans HSB3.out)
  have HS34 := Lib.hid (show w.heap.size + 2 ≤ w3.heap.size by have := blk_lt HSB3.out; omega)
  have HNSZ := Lib.hid (show size (nf x false) < 1000000 by
   have h1 := size_le (nf x false)
   have h2 := nf_sz false HVW.out.2.1
   have h3 := Nat.mul_le_mul (Nat.le_refl (leaves (nf x false))) (show depth (nf x false) ≤ 2 + depth (nf x false) by omega)
   omega)
  have hfit := fits_any (Kd.FK_bound hF4) (fun k hk => hk.2) HNSZ.out
  obtain ⟨B2, d2, B5, d5, rfl, -⟩ := k32_openF hF4
  have HFIT := Lib.hid hfit
  clear hF4 hB4 hfit k0 k1 k2 k3 k4 k5
  go_wp2_with fail
  refine HFIT.out.mono ?_
  rintro e w5 ⟨es, rfl, hF5, hB5⟩
  have HB5 := Lib.hid (below_then HB4.out HB4.out.size hB5)
  have HS45 := Lib.hid HB4.out.size
  have HSB5 := Lib.hid ((hB5.block _ (blk_lt HSB4.out)).trans HSB4.out)
  have HL4 := Lib.hid (show w.heap.size + 2 ≤ w4.heap.size by have := blk_lt HSB4.out; omega)
  obtain ⟨z, hz⟩ : ∃ z, fitF (nf x false) = z := ⟨_, rfl⟩
  rw [hz] at hF5 HE ⊢
  obtain ⟨zx, ze⟩ := z
  dsimp only at hF5 ⊢
  have HF5 := Lib.hid hF5
  obtain ⟨G2, i2, G5, i5, rfl, -⟩ := k32_openF hF5
  obtain ⟨y0, y1, y2, y3, y4, y5, f0, f1, f2, f3, f4, f5⟩ := slot_cells HSB5.out
  clear hF5 hB5 hz HFIT
  go_wp2
  refine bodyPost_ret (res_slot2 rfl _ _ _ _ _ _ _ _ _ rfl (six_blk HSB5.out _ _ _ _ _ _)) rfl ?_
  rw [HE.out]
  exact slotE_done HF5.out HB5.out (by omega) (fun k hk => by
   have h1 := HS34.out
   have h2 := HL4.out
   rcases hk with ⟨hk | hk, _⟩ | hk
   ·have := HOK.out k hk; omega
   ·omega
   ·omega) (fun k hk => by
   have h1 := HS34.out
   have h2 := HL4.out
   rcases hk with ⟨hk | hk, _⟩ | hk
   ·exact Or.inl hk
   ·exact Or.inr (by omega)
   ·exact Or.inr (by omega))
set_option maxRecDepth 1000000 in
set_option maxHeartbeats 4000000 in
theorem inval_any {x : S32} {w : World} {cs : List Value} (hK : k32.K w x cs) (hal : Al x) (hs : size x < 1000000) : Calls Tryz.prog 68 #[.agg cs.toArray] w fun e w' => e = .returned (.bool (!validF x)) ∧ Below w.heap.size w w' := by
 have HK := Lib.hid hK
 obtain ⟨A2, c2, A5, c5, rfl, -⟩ := k32_open hK
 have HB := Lib.hid (one_blk w #[.int .i64 x.f0, .string x.f1, .slice A2 x.f2.length c2, .int .i64 x.f3, .int .i64 x.f4, .slice A5 x.f5.length c5])
 have HV := Lib.hid (valid_any (k32.K_below HB.out.2 HK.out) hal hs)
 clear hK hal hs
 go_enter Tryz.func68, Tryz.ntmps68
 go_wp2_with fail
 refine HV.out.mono ?_
 rintro e w3 ⟨rfl, hb3⟩
 have HB3 := Lib.hid (below_then HB.out.2 HB.out.2.size hb3)
 clear hb3
 go_wp2
 go_ret
 exact ⟨rfl, HB3.out⟩
def invF (l : List S32) : Option Nat := l.findIdx? (fun x => !validF x)
def idxF (l : List S32) : Int := match invF l with
 | some i => (i : Int)
 | none => -1
set_option maxRecDepth 1000000 in
set_option maxHeartbeats 4000000 in
theorem index_any {l : List S32} {w : World} {A : Option Addr} {c : Nat} (hC : k32.C w A l.length l) (hal : ∀ x ∈ l, Al x ∧ size x < 1000000) (hl : l.length < 1000000) : Calls Tryz.prog 95 #[.slice A l.length c, .func (.func 68) #[] #[]] w fun e w' => e = .returned (.int .i64 (idxF l)) ∧ Below w.heap.size w w' := by
 have HC := Lib.hid hC
 have HAL := Lib.hid hal
 clear hC hal
 go_enter Tryz.func95, Tryz.ntmps95
 go_wp2
 go_loopw [8] (fun v8 wr => ∃ i : Nat, v8 = .int .i64 i ∧ i ≤ l.length ∧ (∀ j (h : j < l.length), j < i → (!validF l[j]) = false) ∧ Below w.heap.size w wr) (fun v8 _ => l.length - (intOf v8).toNat)
 case atStart => exact ⟨0, rfl, Nat.zero_le _, fun j _ h => absurd h (Nat.not_lt_zero _), Below.refl _ _⟩
 case round =>
  obtain ⟨i, rfl, hi, hn, hB⟩ := hrel
  have HN := Lib.hid hn
  have HB := Lib.hid hB
  clear hn hB
  by_cases hlt : i < l.length
  ·have hi0 : 0 ≤ (i : Int) := by omega
   have hi1 : (i : Int) < (l.length : Int) := by omega
   obtain ⟨ad, A3, c3, A6, c6, e4, q0, q1, q2, q3, q4, q5, qK⟩ := form_up HC.out HB.out i hlt
   subst e4
   have HIV := Lib.hid (inval_any (k32.K_below HB.out qK) (HAL.out _ (List.getElem_mem hlt)).1 (HAL.out _ (List.getElem_mem hlt)).2)
   obtain ⟨b, hb⟩ : ∃ b, (!validF l[i]) = b := ⟨_, rfl⟩
   have HBV := Lib.hid hb
   rw [hb] at HIV
   clear hb
   obtain ⟨y, hy⟩ : ∃ y, l[i] = y := ⟨_, rfl⟩
   have HY := Lib.hid hy
   rw [hy] at q0 q1 q2 q3 q4 q5 HIV
   clear qK hy
   go_wp2_with fail
   refine HIV.out.mono ?_
   rintro e w3 ⟨rfl, hb3⟩
   have HB3 := Lib.hid (below_then HB.out HB.out.size hb3)
   clear hb3 q0 q1 q2 q3 q4 q5
   cases b with
   | true =>
    have HE := Lib.hid (show idxF l = (i : Int) by
     unfold idxF
     rw [show invF l = some i from List.findIdx?_eq_some_iff_getElem.2 ⟨hlt, HBV.out, fun j hj => by rw [HN.out j (by omega) hj]; decide⟩])
    go_wp2
    go_ret
    exact ⟨by rw [HE.out]; rfl, HB3.out⟩
   | false =>
    go_wp2
    go_roundw
    case rel => exact ⟨i + 1, by go_num, hlt, fun j hj hji => by
     by_cases e : j < i
     ·exact HN.out j hj e
     ·have : j = i := by omega
      subst this
      exact HBV.out, HB3.out⟩
    case measure => simp [intOf]; omega
  ·have hil : i = l.length := by omega
   subst hil
   have HE := Lib.hid (show idxF l = -1 by
    unfold idxF
    rw [show invF l = none from List.findIdx?_eq_none_iff.2 (fun x hx => by
    obtain ⟨j, hj, rfl⟩ := List.mem_iff_getElem.1 hx
    exact HN.out j hj hj)])
   clear hlt hi
   go_wp2
   go_ret
   exact ⟨by rw [HE.out]; rfl, HB.out⟩
set_option maxRecDepth 1000000 in
set_option maxHeartbeats 4000000 in
theorem contains_any {l : List S32} {w : World} {A : Option Addr} {c : Nat} (hC : k32.C w A l.length l) (hal : ∀ x ∈ l, Al x ∧ size x < 1000000) (hl : l.length < 1000000) : Calls Tryz.prog 67 #[.slice A l.length c, .func (.func 68) #[] #[]] w fun e w' => e = .returned (.bool (l.any (fun x => !validF x))) ∧ Below w.heap.size w w' := by
 have HI := Lib.hid (index_any (c := c) hC hal hl)
 have HE := Lib.hid (show l.any (fun x => !validF x) = (invF l).isSome by
  unfold invF
  rw [List.findIdx?_isSome])
 clear hC hal
 cases hq : invF l with
 | none =>
  rw [show idxF l = -1 by unfold idxF; rw [hq]] at HI
  rw [hq] at HE
  go_enter Tryz.func67, Tryz.ntmps67
  go_wp2_with fail
  refine HI.out.mono ?_
  rintro e w3 ⟨rfl, hb3⟩
  have HB3 := Lib.hid hb3
  clear hb3
  go_wp2
  go_ret
  exact ⟨by rw [HE.out]; rfl, HB3.out⟩
 | some i =>
  rw [show idxF l = (i : Int) by unfold idxF; rw [hq]] at HI
  rw [hq] at HE
  have g1 : decide (0 ≤ (i : Int)) = true := decide_eq_true (by omega)
  have g0 : 0 ≤ (i : Int) := by omega
  go_enter Tryz.func67, Tryz.ntmps67
  go_wp2_with fail
  refine HI.out.mono ?_
  rintro e w3 ⟨rfl, hb3⟩
  have HB3 := Lib.hid hb3
  clear hb3
  go_wp2
  go_ret
  exact ⟨by rw [HE.out]; rfl, HB3.out⟩
abbrev nf0 (x : S32) : S32 := nf x false
set_option maxRecDepth 1000000 in
set_option maxHeartbeats 4000000 in
theorem all_any {k : List S32} {w : World} {A : Option Addr} {c : Nat} {ok : Nat → Prop} (hF : Kd.F k32 w ok A k.length k) (hok : ∀ j, ok j → j < w.heap.size) (hal : ∀ x ∈ k, Al x ∧ size x < 1000000) (hl : k.length < 1000) :
  Calls Tryz.prog 46 #[.slice A k.length c] w fun e w' => Below w.heap.size w w' ∧ ((k.any (fun x => !validF x) = true ∧ e = .returned (.tuple #[.slice none 0 0, .int .i64 1])) ∨
   (k.any (fun x => !validF x) = false ∧ ∃ g cap, e = .returned (.tuple #[.slice (some ⟨g, 0, none⟩) k.length cap, .int .i64 0]) ∧ Kd.N k32 32 w' w.heap.size (OkN ok w.heap.size) (.slice (some ⟨g, 0, none⟩) k.length cap) (k.map nf0))) := by
 have HK0 := Lib.hid hF
 have HOK0 := Lib.hid hok
 have HCT := Lib.hid (contains_any (c := c) (Kd.F_now hF) hal (by omega))
 have HLL := Lib.hid hl
 clear hF hok hal
 cases hb : k.any (fun x => !validF x) with
 | true =>
  rw [hb] at HCT
  clear hb
  go_enter Tryz.func46, Tryz.ntmps46
  go_wp2_with fail
  refine HCT.out.mono ?_
  rintro e w3 ⟨rfl, hb3⟩
  have HB3 := Lib.hid hb3
  clear hb3
  go_wp2
  go_ret2
  exact ⟨HB3.out, Or.inl ⟨by first | exact trivial | rfl, rfl⟩⟩
 | false =>
  rw [hb] at HCT
  have HV := Lib.hid (show ∀ x ∈ k, validF x = true from fun x hx => by
   have := List.any_eq_false.1 hb x hx
   simpa using this)
  clear hb
  go_enter Tryz.func46, Tryz.ntmps46
  go_wp2_with fail
  refine HCT.out.mono ?_
  rintro e W1 ⟨rfl, hb3⟩
  have HB3 := Lib.hid hb3
  have HK := Lib.hid (Kd.F_below HK0.out hb3)
  have HOK := Lib.hid (show ∀ j, ok j → j < W1.heap.size from fun j hj => Nat.lt_of_lt_of_le (HOK0.out j hj) hb3.size)
  clear hb3
  go_wp2
  go_loopw [4, 12] (fun v4 v12 wr => MapRel nf0 k W1 ok v4 v12 wr) (fun v4 v12 _ => k.length - (intOf v12).toNat)
  case atStart => exact mp_start nf0 k W1 ok
  case round =>
   obtain ⟨i, g, cap, rfl, rfl, hi, hN, hBl⟩ := hrel
   have HN := Lib.hid hN
   have HBL := Lib.hid hBl
   clear hN hBl
   by_cases hlt : i < k.length
   ·have hi0 : 0 ≤ (i : Int) := by omega
    have hi1 : (i : Int) < (k.length : Int) := by omega
    obtain ⟨ad, A3, c3, A6, c6, e4, q0, q1, q2, q3, q4, q5, qF⟩ := form_F HK.out HBL.out i hlt
    subst e4
    have HTM := Lib.hid (take_map nf0 hlt)
    have HVY := Lib.hid (HV.out k[i] (List.getElem_mem hlt))
    obtain ⟨y, hy⟩ : ∃ y, k[i] = y := ⟨_, rfl⟩
    rw [hy] at q0 q1 q2 q3 q4 q5 qF HTM HVY
    have HAL := Lib.hid ((Below.refl wr.heap.size wr).alloc (Nat.le_refl _) (.cells #[.int .i64 y.f0, .string y.f1, .slice A3 y.f2.length c3, .int .i64 y.f3, .int .i64 y.f4, .slice A6 y.f5.length c6] 32))
    have HAS := Lib.hid (show (wr.alloc (.cells #[.int .i64 y.f0, .string y.f1, .slice A3 y.f2.length c3, .int .i64 y.f3, .int .i64 y.f4, .slice A6 y.f5.length c6] 32)).heap.size = wr.heap.size + 1 by show (wr.heap.push _).size = _; simp)
    have HB2 := Lib.hid (below_then HBL.out HBL.out.size HAL.out)
    have HIH := Lib.hid (nr_any false (Kd.FK_below qF HB2.out) (fun j hj => Nat.lt_of_lt_of_le (HOK.out j hj) HB2.out.size) (valid_wf HVY.out).1 (valid_wf HVY.out).2.1)
    clear qF hy
    go_wp2_with fail
    refine HIH.out.mono ?_
    rintro e w4 ⟨ds, rfl, hF4, hB4⟩
    obtain ⟨z, hz⟩ : ∃ z, nf y false = z := ⟨_, rfl⟩
    have HTM2 := Lib.hid (show (k.take (i + 1)).map nf0 = (k.take i).map nf0 ++ [z] by rw [← hz]; exact HTM.out)
    rw [hz] at hF4
    have HF4 := Lib.hid hF4
    have HN4 := Lib.hid (Kd.N_below (Kd.N_below HN.out HAL.out) hB4)
    have HNL := Lib.hid (Kd.N_lt HN.out g rfl)
    have HB4 := Lib.hid (below_then HB2.out HB2.out.size hB4)
    obtain ⟨B2, d2, B5, d5, rfl, -⟩ := k32_openF hF4
    clear hF4 hB4 hz HIH HTM q0 q1 q2 q3 q4 q5
    go_wp2_with (first | (at_builtin; go_loud (refine Kd.N_append k32 (w0 := W1) (W := w4) W1.heap.size rfl (.tmp 16) (.tmp 19) 30 32 _ 88 rfl Tryz.underlying30 info32 rfl (by decide) (by decide) (.slice (some ⟨g, 0, none⟩) i cap) ((k.take i).map nf0) z [.int .i64 z.f0, .string z.f1, .slice B2 z.f2.length d2, .int .i64 z.f3, .int .i64 z.f4, .slice B5 z.f5.length d5] (OkN ok W1.heap.size) _ rfl rfl HF4.out (fun j hj => ⟨by
     rcases hj with hj | hj
     ·exact Or.inl hj
     ·exact Or.inr (by have := HAS.out; have := HBL.out.size; omega), fun e => by
     have h1 := Kd.N_base HN.out j e.symm
     rcases hj with hj | hj
     ·have := HOK.out j hj; omega
     ·have := HAS.out; have := HNL.out; have e2 : j = g := Option.some.inj e; omega⟩) (fun j hj => Or.inr (by have := HB4.out.size; omega)) HN4.out HB4.out HB4.out.size (by rw [List.length_map, List.length_take]; have := HLL.out; omega) ?_); intro v9 w9 hr9 hb9 hg9 hat9; rw [← HTM2.out] at hr9; have HNX := Lib.hid (mp_next hlt rfl hr9 hb9 hat9); clear hr9 hb9 hg9 hat9) | fail)
    go_roundw
    case rel => exact HNX.out
    case measure => have := HLL.out; simp [intOf]; omega
   ·have hil : i = k.length := by omega
    subst hil
    clear hlt hi
    have hN2 := HN.out
    rw [List.take_length] at hN2
    have HN2 := Lib.hid (Kd.N_lower (Kd.N_mono hN2 (fun j hj => show OkN ok w.heap.size j from hj.imp id (fun h => Nat.le_trans HB3.out.size h))) HB3.out.size)
    have HBB := Lib.hid (below_then HB3.out HB3.out.size HBL.out)
    clear hN2
    go_wp2
    go_ret2
    exact ⟨HBB.out, Or.inr ⟨by first | exact trivial | rfl, g, cap, rfl, HN2.out⟩⟩
set_option maxRecDepth 1000000 in
set_option maxHeartbeats 4000000 in
/-- The group that begins with 0: is its first formula x as y? -/
theorem grp_any {w : World} {p q : Nat} {A : Option Addr} {c n cap : Nat} {x y : S32} {r : List S32} {cs : List Value} {a : Addr} (hp : w.heap[p]? = some (.cells #[.slice A (x :: r).length c] 30 (0, 0))) (hq : w.heap[q]? = some (.cells cs.toArray 32 (0, 0)))
  (hC : k32.C w A (x :: r).length (x :: r)) (hy : k32.K w y cs) (ha : w.cell? a = some (.int .i64 0)) (hn : 0 < n) :
  Calls Tryz.prog 49 #[.slice (some a) n cap, .pointer (some ⟨p, 0, none⟩), .pointer (some ⟨q, 0, none⟩)] w fun e w' => e = .returned (.bool (cF x y == 0)) ∧ Below w.heap.size w w' := by
 obtain ⟨B2, d2, B5, d5, rfl, -⟩ := k32_open hy
 obtain ⟨ad, A3, c3, A6, c6, e4, q0, q1, q2, q3, q4, q5, qK⟩ := form_up hC (Below.refl _ _) 0 (by simp)
 have HY := Lib.hid hy
 have HX := Lib.hid qK
 have z0 : ad.add (0 * 6) = ad := by simp [Addr.add]
 rw [z0] at q0 q1 q2 q3 q4 q5
 obtain ⟨r0, r1, r2, r3, r4, r5⟩ := cells_of hq
 have p0 := blk_cell hp 0
 simp only [List.getElem_cons_zero] at q0 q1 q2 q3 q4 q5 HX
 have HCK := Lib.hid (show ∀ w', Below w.heap.size w w' → (w'.cell? ⟨p, 0, none⟩ = some (.slice (some ad) (x :: r).length c) ∧ w'.cell? a = some (.int .i64 0)) ∧ (w'.cell? ad = some (.int .i64 x.f0) ∧ w'.cell? ⟨ad.block, ad.off + 1, none⟩ = some (.string x.f1) ∧ w'.cell? ⟨ad.block, ad.off + 2, none⟩ = some (.slice A3 x.f2.length c3) ∧ w'.cell? ⟨ad.block, ad.off + 3, none⟩ = some (.int .i64 x.f3) ∧ w'.cell? ⟨ad.block, ad.off + 4, none⟩ = some (.int .i64 x.f4) ∧ w'.cell? ⟨ad.block, ad.off + 5, none⟩ = some (.slice A6 x.f5.length c6)) ∧
   (w'.cell? ⟨q, 0, none⟩ = some (.int .i64 y.f0) ∧ w'.cell? ⟨q, 1, none⟩ = some (.string y.f1) ∧ w'.cell? ⟨q, 2, none⟩ = some (.slice B2 y.f2.length d2) ∧ w'.cell? ⟨q, 3, none⟩ = some (.int .i64 y.f3) ∧ w'.cell? ⟨q, 4, none⟩ = some (.int .i64 y.f4) ∧ w'.cell? ⟨q, 5, none⟩ = some (.slice B5 y.f5.length d5)) from
  fun w' hb => ⟨⟨by rw [← e4]; exact cell_up hb p0, cell_up hb ha⟩, ⟨cell_up hb q0, cell_up hb q1, cell_up hb q2, cell_up hb q3, cell_up hb q4, cell_up hb q5⟩, cell_up hb r0, cell_up hb r1, cell_up hb r2, cell_up hb r3, cell_up hb r4, cell_up hb r5⟩)
 have hn1 : (0 : Int) < (n : Int) := by omega
 have hl0 : 0 < (x :: r).length := by simp
 have hl1 : (0 : Int) < ((x :: r).length : Int) := by simp
 obtain ⟨m, hm⟩ : ∃ m, (x :: r).length = m := ⟨_, rfl⟩
 rw [hm] at HCK hl0 hl1
 clear hp hq hC hy ha q0 q1 q2 q3 q4 q5 qK r0 r1 r2 r3 r4 r5 p0 e4 z0 hm
 go_enter Tryz.func49, Tryz.ntmps49
 go_wp2
 refine start_ (n := 10) (S := fun w' => Below w.heap.size w w') (ds := []) #[false, false, false, false, false, false, false, false, false, false] (by kernel_rfl) rfl rfl (Below.drew (Below.refl _ _)) (fun hHeld => ?_)
 refine take_ (i := 0) (N := (some 5)) (v := ?_) (a' := ?_) #[true, false, false, false, false, false, false, false, false, false] rfl rfl (by kernel_rfl) (fun _ _ _ h => h) (Or.inl ⟨by rfl, ?_⟩) hHeld ?_ ?_
 rotate_left
 ·rintro w' s0
  obtain ⟨⟨k0, k1⟩, k2, k3⟩ := HCK.out _ s0
  go_simp
  with_reducible rfl
 rotate_left
 ·simp only [Act.put, List.setIfInBounds_toArray, List.set_cons_zero, List.set_cons_succ]
  rfl
 refine pure_ (i := 1) (N := (some 6)) (v := ?_) (a' := ?_) #[true, true, false, false, false, false, false, false, false, false] rfl rfl (by kernel_rfl) (fun _ _ _ h => h) (Or.inl ⟨by rfl, ?_⟩) ?_ ?_
 rotate_left
 ·intro w'
  go_simp
  with_reducible rfl
 rotate_left
 ·simp only [Act.put, List.setIfInBounds_toArray, List.set_cons_zero, List.set_cons_succ]
  rfl
 refine pure_ (i := 2) (N := (some 7)) (v := ?_) (a' := ?_) #[true, true, true, false, false, false, false, false, false, false] rfl rfl (by kernel_rfl) (fun _ _ _ h => h) (Or.inl ⟨by rfl, ?_⟩) ?_ ?_
 rotate_left
 ·intro w'
  go_simp
  with_reducible rfl
 rotate_left
 ·simp only [Act.put, List.setIfInBounds_toArray, List.set_cons_zero, List.set_cons_succ]
  rfl
 refine take_ (i := 3) (N := (some 8)) (v := ?_) (a' := ?_) #[true, true, true, true, false, false, false, false, false, false] rfl rfl (by kernel_rfl) (fun _ _ _ h => h) (Or.inl ⟨by rfl, ?_⟩) hHeld ?_ ?_
 rotate_left
 ·rintro w' s0
  obtain ⟨⟨k0, k1⟩, k2, k3⟩ := HCK.out _ s0
  go_simp
  with_reducible rfl
 rotate_left
 ·simp only [Act.put, List.setIfInBounds_toArray, List.set_cons_zero, List.set_cons_succ]
  rfl
 refine pure_ (i := 4) (N := (some 9)) (v := ?_) (a' := ?_) #[true, true, true, true, true, false, false, false, false, false] rfl rfl (by kernel_rfl) (fun _ _ _ h => h) (Or.inl ⟨by rfl, ?_⟩) ?_ ?_
 rotate_left
 ·intro w'
  go_simp
  with_reducible rfl
 rotate_left
 ·simp only [Act.put, List.setIfInBounds_toArray, List.set_cons_zero, List.set_cons_succ]
  rfl
 refine take_ (i := 5) (N := (some 10)) (v := ?_) (a' := ?_) #[true, true, true, true, true, true, false, false, false, false] rfl rfl (by kernel_rfl) (fun _ _ _ h => h) (Or.inl ⟨by rfl, ?_⟩) hHeld ?_ ?_
 rotate_left
 ·rintro w' s0
  obtain ⟨⟨k0, k1⟩, ⟨j0, j1, j2, j3, j4, j5⟩, k3⟩ := HCK.out _ s0
  go_simp
  with_reducible rfl
 rotate_left
 ·simp only [Act.put, List.setIfInBounds_toArray, List.set_cons_zero, List.set_cons_succ]
  rfl
 refine take_ (i := 6) (N := (some 11)) (v := ?_) (a' := ?_) #[true, true, true, true, true, true, true, false, false, false] rfl rfl (by kernel_rfl) (fun _ _ _ h => h) (Or.inl ⟨by rfl, ?_⟩) hHeld ?_ ?_
 rotate_left
 ·rintro w' s0
  obtain ⟨⟨k0, k1⟩, k2, ⟨j0, j1, j2, j3, j4, j5⟩⟩ := HCK.out _ s0
  go_simp
  with_reducible rfl
 rotate_left
 ·simp only [Act.put, List.setIfInBounds_toArray, List.set_cons_zero, List.set_cons_succ]
  rfl
 refine one_ (i := 7) (N := (some 12)) #[true, true, true, true, true, true, true, true, false, false] rfl rfl (by kernel_rfl) (by decide) (fun K hK => ?_)
 go_simp
 refine (cmp_any (k32.K_below hHeld HX.out) (k32.K_below hHeld HY.out)).mono ?_
 rintro e w4 ⟨rfl, hb4⟩
 refine hK.out _ _ (below_then hHeld hHeld.size hb4.1) (fun hHeld => ?_)
 clear hK K
 (try simp only [Act.put, List.setIfInBounds_toArray, List.set_cons_zero, List.set_cons_succ])
 refine pure_ (i := 8) (N := (some 13)) (v := ?_) (a' := ?_) #[true, true, true, true, true, true, true, true, true, false] rfl rfl (by kernel_rfl) (fun _ _ _ h => h) (Or.inl ⟨by rfl, ?_⟩) ?_ ?_
 rotate_left
 ·intro w'
  go_simp
  with_reducible rfl
 rotate_left
 ·simp only [Act.put, List.setIfInBounds_toArray, List.set_cons_zero, List.set_cons_succ]
  rfl
 refine pure_ (i := 9) (N := (some 4)) (v := ?_) (a' := ?_) #[true, true, true, true, true, true, true, true, true, true] rfl rfl (by kernel_rfl) (fun _ _ _ h => h) (Or.inl ⟨by rfl, ?_⟩) ?_ ?_
 rotate_left
 ·intro w'
  go_simp
  with_reducible rfl
 rotate_left
 ·simp only [Act.put, List.setIfInBounds_toArray, List.set_cons_zero, List.set_cons_succ]
  rfl
 refine done_ (by kernel_rfl) ?_
 go_wp2
 go_ret
 exact ⟨rfl, hHeld⟩
set_option maxRecDepth 1000000 in
set_option maxHeartbeats 4000000 in
/-- IndexFunc over no group. -/
theorem idx_none {w : World} {A : Option Addr} {c : Nat} (F : Value) : Calls Tryz.prog 48 #[.slice A 0 c, F] w fun e w' => e = .returned (.int .i64 (-1)) ∧ w' = w := by
 go_enter Tryz.func48, Tryz.ntmps48
 go_wp2
 go_loopw [8] (fun v8 wr => v8 = .int .i64 0 ∧ wr = w) (fun v8 _ => 0)
 case atStart => exact ⟨rfl, rfl⟩
 case round =>
  obtain ⟨rfl, rfl⟩ := hrel
  go_wp2
  go_ret
  exact ⟨rfl, rfl⟩
set_option maxRecDepth 1000000 in
set_option maxHeartbeats 4000000 in
/-- IndexFunc over one group. -/
theorem idx_one {w : World} {a : Nat} {c : Nat} {p q : Nat} {B : Option Addr} {m d : Nat} {b : Bool} (hv : w.cell? ⟨a, 0, none⟩ = some (.slice B m d)) (hf : Calls Tryz.prog 49 #[.slice B m d, .pointer (some ⟨p, 0, none⟩), .pointer (some ⟨q, 0, none⟩)] w fun e w' => e = .returned (.bool b) ∧ Below w.heap.size w w') :
  Calls Tryz.prog 48 #[.slice (some ⟨a, 0, none⟩) 1 c, .func (.func 49) #[] #[.pointer (some ⟨p, 0, none⟩), .pointer (some ⟨q, 0, none⟩)]] w fun e w' => e = .returned (.int .i64 (if b then 0 else -1)) ∧ Below w.heap.size w w' := by
 have HF := Lib.hid hf
 clear hf
 go_enter Tryz.func48, Tryz.ntmps48
 go_wp2
 go_loopw [8] (fun v8 wr => (v8 = .int .i64 0 ∧ wr = w) ∨ (v8 = .int .i64 1 ∧ b = false ∧ Below w.heap.size w wr)) (fun v8 _ => 1 - (intOf v8).toNat)
 case atStart => exact Or.inl ⟨rfl, rfl⟩
 case round =>
  rcases hrel with ⟨rfl, rfl⟩ | ⟨rfl, rfl, hB⟩
  ·go_wp2_with fail
   refine HF.out.mono ?_
   rintro e w3 ⟨rfl, hb3⟩
   have HB3 := Lib.hid hb3
   clear hb3
   cases b with
   | true =>
    go_wp2
    go_ret
    exact ⟨rfl, HB3.out⟩
   | false =>
    go_wp2
    go_roundw
    case rel => exact Or.inr ⟨by first | exact trivial | rfl, by first | exact trivial | rfl, HB3.out⟩
    case measure => simp [intOf]
  ·have HB := Lib.hid hB
   clear hB
   go_wp2
   go_ret
   exact ⟨rfl, HB.out⟩
end Go.Proofs.YtbahnpdgaoedmaaGreatDoor.Mm
