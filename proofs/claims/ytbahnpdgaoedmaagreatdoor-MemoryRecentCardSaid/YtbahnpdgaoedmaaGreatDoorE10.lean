/- Memory, common part 10: Mfe, Mff, Mvd, Mof, Mss, Mbw, PMemoryExactx23, Mwa. -/
import Derived.Test.YtbahnpdgaoedmaaGreatDoorE9
import Derived.Shelf.Strings.Builder1
import Derived.Shelf.Strings.BuilderF
import Derived.Shelf.Strings.BuilderK
import Derived.Shelf.Strconv.Itoa3
import Derived.Test.YtbahnpdgaoedmaaGreatDoorProg
import Derived.Lib.FrozenHead2
import Derived.Lib.OthersKept
import Derived.Test.YtbahnpdgaoedmaaGreatDoorE3
namespace Go.Proofs.YtbahnpdgaoedmaaGreatDoor.Mm
open Go.RowKit Go.Proofs.YtbahnpdgaoedmaaGreatDoorW.PrintWords Go.Proofs.YtbahnpdgaoedmaaGreatDoorW.PrintLast Go.Proofs.YtbahnpdgaoedmaaGreatDoorW.PrintMore Go.Proofs.YtbahnpdgaoedmaaGreatDoor.PMemoryExact
set_option linter.unusedSimpArgs false
set_option linter.unusedVariables false
set_option maxRecDepth 1000000 in
set_option maxHeartbeats 4000000 in
theorem fd8 {nm : ByteArray} {a : List S84} {f t : Int} {k : List S32} {w : World} {A2 A5 : Option Addr} {c2 c5 : Nat} (v : Int) (hk5 : k.length ≤ 9223372036854775807) (ha5 : a.length ≤ 9223372036854775807) (hnm : nm.size ≤ 100) :
    Calls Tryz.prog 110 #[.agg #[.int .i64 8, .string nm, .slice A2 a.length c2, .int .i64 f, .int .i64 t, .slice A5 k.length c5], .int .i64 v] w fun e w' => e = .returned (.bool (fieldsF ⟨8, nm, a, f, t, k⟩ v)) ∧ Below w.heap.size w w' := by
  have HBX := Lib.hid (one_blk w #[.int .i64 8, .string nm, .slice A2 a.length c2, .int .i64 f, .int .i64 t, .slice A5 k.length c5]).1
  have HB := Lib.hid (one_blk w #[.int .i64 8, .string nm, .slice A2 a.length c2, .int .i64 f, .int .i64 t, .slice A5 k.length c5]).2
  have HS := Lib.hid (symB_is hnm)
  clear hnm
  by_cases hf : f = 0
  · subst hf
    by_cases ht : t = 0
    · subst ht
      by_cases ha : a.length = 0
      · obtain rfl := List.eq_nil_of_length_eq_zero ha
        clear ha
        by_cases hk : k.length = 1
        · have HE := Lib.hid (show fieldsF ⟨8, nm, [], 0, 0, k⟩ v = symB nm by simp [fieldsF, hk])
          have m1 : ((k.length : Int) == (1 : Int)) = true := beq_iff_eq.mpr (by omega)
          have m2 : (k.length == 1) = true := by simpa using hk
          clear hk
          obtain ⟨b, hb⟩ : ∃ b, symB nm = b := ⟨_, rfl⟩
          rw [hb] at HE HS
          clear hb
          go_enter Tryz.func110, Tryz.ntmps110
          go_wp2_with fail
          refine (formula_binds.calls 8 _ _ (binds_f 8)).mono ?_
          rintro e w3 ⟨rfl, hd⟩
          have HBX := Lib.hid (drawn_blk hd HBX.out)
          have HB := Lib.hid (below_then HB.out HB.out.size hd.below)
          clear hd
          obtain ⟨k0, k1, k2, k3, k4, k5⟩ := cells_of HBX.out
          go_wp2_with fail
          refine (formula_symbol.calls 102 nm b _ HS.out).mono ?_
          clear k0 k1 k2 k3 k4 k5
          rintro e w4 ⟨rfl, hd⟩
          have HBX := Lib.hid (drawn_blk hd HBX.out)
          have HB := Lib.hid (below_then HB.out HB.out.size hd.below)
          clear hd
          obtain ⟨k0, k1, k2, k3, k4, k5⟩ := cells_of HBX.out
          go_wp2
          go_ret
          exact ⟨by rw [HE.out]; rfl, HB.out⟩
        · have HE := Lib.hid (show fieldsF ⟨8, nm, [], 0, 0, k⟩ v = false by simp only [fieldsF]; simp [hk])
          have m1 : ((k.length : Int) == (1 : Int)) = false := beq_eq_false_iff_ne.mpr (by omega)
          have m2 : (k.length == 1) = false := by simpa using hk
          clear hk
          go_enter Tryz.func110, Tryz.ntmps110
          go_wp2_with fail
          refine (formula_binds.calls 8 _ _ (binds_f 8)).mono ?_
          rintro e w3 ⟨rfl, hd⟩
          have HBX := Lib.hid (drawn_blk hd HBX.out)
          have HB := Lib.hid (below_then HB.out HB.out.size hd.below)
          clear hd
          obtain ⟨k0, k1, k2, k3, k4, k5⟩ := cells_of HBX.out
          go_wp2
          go_ret
          exact ⟨by rw [HE.out]; rfl, HB.out⟩
      · have h0 : 0 < a.length := by omega
        have HE := Lib.hid (show fieldsF ⟨8, nm, a, 0, 0, k⟩ v = false by simp [fieldsF, h0])
        have g1 : decide ((0 : Int) < (a.length : Int)) = true := decide_eq_true (by omega)
        have g2 : decide (0 < a.length) = true := decide_eq_true h0
        clear ha h0
        go_enter Tryz.func110, Tryz.ntmps110
        go_wp2
        go_ret
        exact ⟨by rw [HE.out]; rfl, HB.out⟩
    · have HE := Lib.hid (show fieldsF ⟨8, nm, a, 0, t, k⟩ v = false by simp [fieldsF, ht])
      have g1 : (t != (0 : Int)) = true := by simpa using ht
      clear ht
      go_enter Tryz.func110, Tryz.ntmps110
      go_wp2
      go_ret
      exact ⟨by rw [HE.out]; rfl, HB.out⟩
  · have HE := Lib.hid (show fieldsF ⟨8, nm, a, f, t, k⟩ v = false by simp [fieldsF, hf])
    have g1 : (f != (0 : Int)) = true := by simpa using hf
    clear hf
    go_enter Tryz.func110, Tryz.ntmps110
    go_wp2
    go_ret
    exact ⟨by rw [HE.out]; rfl, HB.out⟩
set_option maxRecDepth 1000000 in
set_option maxHeartbeats 4000000 in
theorem fd9 {nm : ByteArray} {a : List S84} {f t : Int} {k : List S32} {w : World} {A2 A5 : Option Addr} {c2 c5 : Nat} (v : Int) (hk5 : k.length ≤ 9223372036854775807) (ha5 : a.length ≤ 9223372036854775807) (hnm : nm.size ≤ 100) :
    Calls Tryz.prog 110 #[.agg #[.int .i64 9, .string nm, .slice A2 a.length c2, .int .i64 f, .int .i64 t, .slice A5 k.length c5], .int .i64 v] w fun e w' => e = .returned (.bool (fieldsF ⟨9, nm, a, f, t, k⟩ v)) ∧ Below w.heap.size w w' := by
  have HBX := Lib.hid (one_blk w #[.int .i64 9, .string nm, .slice A2 a.length c2, .int .i64 f, .int .i64 t, .slice A5 k.length c5]).1
  have HB := Lib.hid (one_blk w #[.int .i64 9, .string nm, .slice A2 a.length c2, .int .i64 f, .int .i64 t, .slice A5 k.length c5]).2
  have HS := Lib.hid (symB_is hnm)
  clear hnm
  by_cases hf : f = 0
  · subst hf
    by_cases ht : t = 0
    · subst ht
      by_cases ha : a.length = 0
      · obtain rfl := List.eq_nil_of_length_eq_zero ha
        clear ha
        by_cases hk : k.length = 1
        · have HE := Lib.hid (show fieldsF ⟨9, nm, [], 0, 0, k⟩ v = symB nm by simp [fieldsF, hk])
          have m1 : ((k.length : Int) == (1 : Int)) = true := beq_iff_eq.mpr (by omega)
          have m2 : (k.length == 1) = true := by simpa using hk
          clear hk
          obtain ⟨b, hb⟩ : ∃ b, symB nm = b := ⟨_, rfl⟩
          rw [hb] at HE HS
          clear hb
          go_enter Tryz.func110, Tryz.ntmps110
          go_wp2_with fail
          refine (formula_binds.calls 9 _ _ (binds_f 9)).mono ?_
          rintro e w3 ⟨rfl, hd⟩
          have HBX := Lib.hid (drawn_blk hd HBX.out)
          have HB := Lib.hid (below_then HB.out HB.out.size hd.below)
          clear hd
          obtain ⟨k0, k1, k2, k3, k4, k5⟩ := cells_of HBX.out
          go_wp2_with fail
          refine (formula_symbol.calls 102 nm b _ HS.out).mono ?_
          clear k0 k1 k2 k3 k4 k5
          rintro e w4 ⟨rfl, hd⟩
          have HBX := Lib.hid (drawn_blk hd HBX.out)
          have HB := Lib.hid (below_then HB.out HB.out.size hd.below)
          clear hd
          obtain ⟨k0, k1, k2, k3, k4, k5⟩ := cells_of HBX.out
          go_wp2
          go_ret
          exact ⟨by rw [HE.out]; rfl, HB.out⟩
        · have HE := Lib.hid (show fieldsF ⟨9, nm, [], 0, 0, k⟩ v = false by simp only [fieldsF]; simp [hk])
          have m1 : ((k.length : Int) == (1 : Int)) = false := beq_eq_false_iff_ne.mpr (by omega)
          have m2 : (k.length == 1) = false := by simpa using hk
          clear hk
          go_enter Tryz.func110, Tryz.ntmps110
          go_wp2_with fail
          refine (formula_binds.calls 9 _ _ (binds_f 9)).mono ?_
          rintro e w3 ⟨rfl, hd⟩
          have HBX := Lib.hid (drawn_blk hd HBX.out)
          have HB := Lib.hid (below_then HB.out HB.out.size hd.below)
          clear hd
          obtain ⟨k0, k1, k2, k3, k4, k5⟩ := cells_of HBX.out
          go_wp2
          go_ret
          exact ⟨by rw [HE.out]; rfl, HB.out⟩
      · have h0 : 0 < a.length := by omega
        have HE := Lib.hid (show fieldsF ⟨9, nm, a, 0, 0, k⟩ v = false by simp [fieldsF, h0])
        have g1 : decide ((0 : Int) < (a.length : Int)) = true := decide_eq_true (by omega)
        have g2 : decide (0 < a.length) = true := decide_eq_true h0
        clear ha h0
        go_enter Tryz.func110, Tryz.ntmps110
        go_wp2
        go_ret
        exact ⟨by rw [HE.out]; rfl, HB.out⟩
    · have HE := Lib.hid (show fieldsF ⟨9, nm, a, 0, t, k⟩ v = false by simp [fieldsF, ht])
      have g1 : (t != (0 : Int)) = true := by simpa using ht
      clear ht
      go_enter Tryz.func110, Tryz.ntmps110
      go_wp2
      go_ret
      exact ⟨by rw [HE.out]; rfl, HB.out⟩
  · have HE := Lib.hid (show fieldsF ⟨9, nm, a, f, t, k⟩ v = false by simp [fieldsF, hf])
    have g1 : (f != (0 : Int)) = true := by simpa using hf
    clear hf
    go_enter Tryz.func110, Tryz.ntmps110
    go_wp2
    go_ret
    exact ⟨by rw [HE.out]; rfl, HB.out⟩
set_option maxRecDepth 1000000 in
set_option maxHeartbeats 4000000 in
theorem fd10 {nm : ByteArray} {a : List S84} {f t : Int} {k : List S32} {w : World} {A2 A5 : Option Addr} {c2 c5 : Nat} (v : Int) (hk5 : k.length ≤ 9223372036854775807) (ha5 : a.length ≤ 9223372036854775807) (hnm : nm.size ≤ 100) :
    Calls Tryz.prog 110 #[.agg #[.int .i64 10, .string nm, .slice A2 a.length c2, .int .i64 f, .int .i64 t, .slice A5 k.length c5], .int .i64 v] w fun e w' => e = .returned (.bool (fieldsF ⟨10, nm, a, f, t, k⟩ v)) ∧ Below w.heap.size w w' := by
  have HBX := Lib.hid (one_blk w #[.int .i64 10, .string nm, .slice A2 a.length c2, .int .i64 f, .int .i64 t, .slice A5 k.length c5]).1
  have HB := Lib.hid (one_blk w #[.int .i64 10, .string nm, .slice A2 a.length c2, .int .i64 f, .int .i64 t, .slice A5 k.length c5]).2
  have HS := Lib.hid (symB_is hnm)
  clear hnm
  by_cases ha : a.length = 0
  · obtain rfl := List.eq_nil_of_length_eq_zero ha
    clear ha
    by_cases hn : nm.toList = []
    · have n1 : (nm.toList == ([] : List UInt8)) = true := beq_iff_eq.mpr hn
      have n2 : (nm.toList != ([] : List UInt8)) = false := bne_eq_false_iff_eq.mpr hn
      have HN := Lib.hid hn
      clear hn
      by_cases hk : k.length = 1
      · have m1 : ((k.length : Int) == (1 : Int)) = true := beq_iff_eq.mpr (by omega)
        have m2 : (k.length == 1) = true := by simpa using hk
        have HE0 := Lib.hid (show fieldsF ⟨10, nm, [], f, t, k⟩ v = (momOk f && momOk t) by simp [fieldsF, HN.out, hk])
        clear hk
        have HM1 := Lib.hid (momOk_is f)
        have HM2 := Lib.hid (momOk_is t)
        obtain ⟨b1, hb1⟩ : ∃ b, momOk f = b := ⟨_, rfl⟩
        obtain ⟨b2, hb2⟩ : ∃ b, momOk t = b := ⟨_, rfl⟩
        rw [hb1] at HE0 HM1
        rw [hb2] at HE0 HM2
        clear hb1 hb2
        cases b1 with
        | true =>
          have HE := Lib.hid (show fieldsF ⟨10, nm, [], f, t, k⟩ v = b2 from HE0.out)
          go_enter Tryz.func110, Tryz.ntmps110
          go_wp2_with fail
          refine (formula_binds.calls 10 _ _ (binds_f 10)).mono ?_
          rintro e w3 ⟨rfl, hd⟩
          have HBX := Lib.hid (drawn_blk hd HBX.out)
          have HB := Lib.hid (below_then HB.out HB.out.size hd.below)
          clear hd
          obtain ⟨k0, k1, k2, k3, k4, k5⟩ := cells_of HBX.out
          go_wp2_with fail
          refine (formula_moment.calls f true _ HM1.out).mono ?_
          clear k0 k1 k2 k3 k4 k5
          rintro e w4 ⟨rfl, hd⟩
          have HBX := Lib.hid (drawn_blk hd HBX.out)
          have HB := Lib.hid (below_then HB.out HB.out.size hd.below)
          clear hd
          obtain ⟨k0, k1, k2, k3, k4, k5⟩ := cells_of HBX.out
          go_wp2_with fail
          refine (formula_moment.calls t b2 _ HM2.out).mono ?_
          clear k0 k1 k2 k3 k4 k5
          rintro e w5 ⟨rfl, hd⟩
          have HBX := Lib.hid (drawn_blk hd HBX.out)
          have HB := Lib.hid (below_then HB.out HB.out.size hd.below)
          clear hd
          obtain ⟨k0, k1, k2, k3, k4, k5⟩ := cells_of HBX.out
          go_wp2
          go_ret
          exact ⟨by rw [HE.out]; rfl, HB.out⟩
        | false =>
          have HE := Lib.hid (show fieldsF ⟨10, nm, [], f, t, k⟩ v = false from HE0.out)
          go_enter Tryz.func110, Tryz.ntmps110
          go_wp2_with fail
          refine (formula_binds.calls 10 _ _ (binds_f 10)).mono ?_
          rintro e w3 ⟨rfl, hd⟩
          have HBX := Lib.hid (drawn_blk hd HBX.out)
          have HB := Lib.hid (below_then HB.out HB.out.size hd.below)
          clear hd
          obtain ⟨k0, k1, k2, k3, k4, k5⟩ := cells_of HBX.out
          go_wp2_with fail
          refine (formula_moment.calls f false _ HM1.out).mono ?_
          clear k0 k1 k2 k3 k4 k5
          rintro e w4 ⟨rfl, hd⟩
          have HBX := Lib.hid (drawn_blk hd HBX.out)
          have HB := Lib.hid (below_then HB.out HB.out.size hd.below)
          clear hd
          obtain ⟨k0, k1, k2, k3, k4, k5⟩ := cells_of HBX.out
          go_wp2
          go_ret
          exact ⟨by rw [HE.out]; rfl, HB.out⟩
      · have HE := Lib.hid (show fieldsF ⟨10, nm, [], f, t, k⟩ v = false by simp only [fieldsF, HN.out]; simp [hk])
        have m1 : ((k.length : Int) == (1 : Int)) = false := beq_eq_false_iff_ne.mpr (by omega)
        have m2 : (k.length == 1) = false := by simpa using hk
        clear hk
        go_enter Tryz.func110, Tryz.ntmps110
        go_wp2_with fail
        refine (formula_binds.calls 10 _ _ (binds_f 10)).mono ?_
        rintro e w3 ⟨rfl, hd⟩
        have HBX := Lib.hid (drawn_blk hd HBX.out)
        have HB := Lib.hid (below_then HB.out HB.out.size hd.below)
        clear hd
        obtain ⟨k0, k1, k2, k3, k4, k5⟩ := cells_of HBX.out
        go_wp2
        go_ret
        exact ⟨by rw [HE.out]; rfl, HB.out⟩
    · have HE := Lib.hid (show fieldsF ⟨10, nm, [], f, t, k⟩ v = false by simp [fieldsF, hn])
      have n1 : (nm.toList == ([] : List UInt8)) = false := beq_eq_false_iff_ne.mpr hn
      have n2 : (nm.toList != ([] : List UInt8)) = true := bne_iff_ne.mpr hn
      clear hn
      go_enter Tryz.func110, Tryz.ntmps110
      go_wp2_with fail
      refine (formula_binds.calls 10 _ _ (binds_f 10)).mono ?_
      rintro e w3 ⟨rfl, hd⟩
      have HBX := Lib.hid (drawn_blk hd HBX.out)
      have HB := Lib.hid (below_then HB.out HB.out.size hd.below)
      clear hd
      obtain ⟨k0, k1, k2, k3, k4, k5⟩ := cells_of HBX.out
      go_wp2
      go_ret
      exact ⟨by rw [HE.out]; rfl, HB.out⟩
  · have h0 : 0 < a.length := by omega
    have HE := Lib.hid (show fieldsF ⟨10, nm, a, f, t, k⟩ v = false by simp [fieldsF, h0])
    have g1 : decide ((0 : Int) < (a.length : Int)) = true := decide_eq_true (by omega)
    have g2 : decide (0 < a.length) = true := decide_eq_true h0
    clear ha h0
    go_enter Tryz.func110, Tryz.ntmps110
    go_wp2
    go_ret
    exact ⟨by rw [HE.out]; rfl, HB.out⟩
set_option maxRecDepth 1000000 in
set_option maxHeartbeats 4000000 in
theorem fdx {o : Int} (ho : ¬ (1 ≤ o ∧ o ≤ 12)) {nm : ByteArray} {a : List S84} {f t : Int} {k : List S32} {w : World} {A2 A5 : Option Addr} {c2 c5 : Nat} (v : Int) (hk5 : k.length ≤ 9223372036854775807) (ha5 : a.length ≤ 9223372036854775807) (hnm : nm.size ≤ 100) :
    Calls Tryz.prog 110 #[.agg #[.int .i64 o, .string nm, .slice A2 a.length c2, .int .i64 f, .int .i64 t, .slice A5 k.length c5], .int .i64 v] w fun e w' => e = .returned (.bool (fieldsF ⟨o, nm, a, f, t, k⟩ v)) ∧ Below w.heap.size w w' := by
  have HBX := Lib.hid (one_blk w #[.int .i64 o, .string nm, .slice A2 a.length c2, .int .i64 f, .int .i64 t, .slice A5 k.length c5]).1
  have HB := Lib.hid (one_blk w #[.int .i64 o, .string nm, .slice A2 a.length c2, .int .i64 f, .int .i64 t, .slice A5 k.length c5]).2
  have HS := Lib.hid (symB_is hnm)
  clear hnm
  have h1 : o ≠ 1 := by omega
  have e1 : (o == (1 : Int)) = false := beq_eq_false_iff_ne.mpr h1
  have d1 : (o != (1 : Int)) = true := bne_iff_ne.mpr h1
  have h2 : o ≠ 2 := by omega
  have e2 : (o == (2 : Int)) = false := beq_eq_false_iff_ne.mpr h2
  have d2 : (o != (2 : Int)) = true := bne_iff_ne.mpr h2
  have h3 : o ≠ 3 := by omega
  have e3 : (o == (3 : Int)) = false := beq_eq_false_iff_ne.mpr h3
  have d3 : (o != (3 : Int)) = true := bne_iff_ne.mpr h3
  have h4 : o ≠ 4 := by omega
  have e4 : (o == (4 : Int)) = false := beq_eq_false_iff_ne.mpr h4
  have d4 : (o != (4 : Int)) = true := bne_iff_ne.mpr h4
  have h5 : o ≠ 5 := by omega
  have e5 : (o == (5 : Int)) = false := beq_eq_false_iff_ne.mpr h5
  have d5 : (o != (5 : Int)) = true := bne_iff_ne.mpr h5
  have h6 : o ≠ 6 := by omega
  have e6 : (o == (6 : Int)) = false := beq_eq_false_iff_ne.mpr h6
  have d6 : (o != (6 : Int)) = true := bne_iff_ne.mpr h6
  have h7 : o ≠ 7 := by omega
  have e7 : (o == (7 : Int)) = false := beq_eq_false_iff_ne.mpr h7
  have d7 : (o != (7 : Int)) = true := bne_iff_ne.mpr h7
  have h8 : o ≠ 8 := by omega
  have e8 : (o == (8 : Int)) = false := beq_eq_false_iff_ne.mpr h8
  have d8 : (o != (8 : Int)) = true := bne_iff_ne.mpr h8
  have h9 : o ≠ 9 := by omega
  have e9 : (o == (9 : Int)) = false := beq_eq_false_iff_ne.mpr h9
  have d9 : (o != (9 : Int)) = true := bne_iff_ne.mpr h9
  have h10 : o ≠ 10 := by omega
  have e10 : (o == (10 : Int)) = false := beq_eq_false_iff_ne.mpr h10
  have d10 : (o != (10 : Int)) = true := bne_iff_ne.mpr h10
  have h11 : o ≠ 11 := by omega
  have e11 : (o == (11 : Int)) = false := beq_eq_false_iff_ne.mpr h11
  have d11 : (o != (11 : Int)) = true := bne_iff_ne.mpr h11
  have h12 : o ≠ 12 := by omega
  have e12 : (o == (12 : Int)) = false := beq_eq_false_iff_ne.mpr h12
  have d12 : (o != (12 : Int)) = true := bne_iff_ne.mpr h12
  have HBF := Lib.hid (show formula_binds.f o = some false by rw [binds_f]; simp [h8, h9])
  clear ho
  by_cases hf : f = 0
  · subst hf
    by_cases ht : t = 0
    · subst ht
      by_cases ha : a.length = 0
      · obtain rfl := List.eq_nil_of_length_eq_zero ha
        clear ha
        by_cases hn : nm.toList = []
        · have n1 : (nm.toList == ([] : List UInt8)) = true := beq_iff_eq.mpr hn
          have n2 : (nm.toList != ([] : List UInt8)) = false := bne_eq_false_iff_eq.mpr hn
          have HN := Lib.hid hn
          clear hn
          have HE := Lib.hid (show fieldsF ⟨o, nm, [], 0, 0, k⟩ v = false by simp [fieldsF, HN.out, h1, h2, h3, h4, h5, h6, h7, h8, h9, h10, h11, h12])
          clear h1 h2 h3 h4 h5 h6 h7 h8 h9 h10 h11 h12
          go_enter Tryz.func110, Tryz.ntmps110
          go_wp2_with fail
          refine (formula_binds.calls o false _ HBF.out).mono ?_
          rintro e w3 ⟨rfl, hd⟩
          have HBX := Lib.hid (drawn_blk hd HBX.out)
          have HB := Lib.hid (below_then HB.out HB.out.size hd.below)
          clear hd
          obtain ⟨k0, k1, k2, k3, k4, k5⟩ := cells_of HBX.out
          go_wp2
          go_ret
          exact ⟨by rw [HE.out]; rfl, HB.out⟩
        · have HE := Lib.hid (show fieldsF ⟨o, nm, [], 0, 0, k⟩ v = false by simp [fieldsF, h10, h3, h8, h9, hn])
          have n1 : (nm.toList == ([] : List UInt8)) = false := beq_eq_false_iff_ne.mpr hn
          have n2 : (nm.toList != ([] : List UInt8)) = true := bne_iff_ne.mpr hn
          clear hn
          clear h1 h2 h3 h4 h5 h6 h7 h8 h9 h10 h11 h12
          go_enter Tryz.func110, Tryz.ntmps110
          go_wp2_with fail
          refine (formula_binds.calls o false _ HBF.out).mono ?_
          rintro e w3 ⟨rfl, hd⟩
          have HBX := Lib.hid (drawn_blk hd HBX.out)
          have HB := Lib.hid (below_then HB.out HB.out.size hd.below)
          clear hd
          obtain ⟨k0, k1, k2, k3, k4, k5⟩ := cells_of HBX.out
          go_wp2
          go_ret
          exact ⟨by rw [HE.out]; rfl, HB.out⟩
      · have h0 : 0 < a.length := by omega
        have HE := Lib.hid (show fieldsF ⟨o, nm, a, 0, 0, k⟩ v = false by simp [fieldsF, h10, h3, h0])
        have g1 : decide ((0 : Int) < (a.length : Int)) = true := decide_eq_true (by omega)
        have g2 : decide (0 < a.length) = true := decide_eq_true h0
        clear ha h0
        clear h1 h2 h3 h4 h5 h6 h7 h8 h9 h10 h11 h12
        go_enter Tryz.func110, Tryz.ntmps110
        go_wp2
        go_ret
        exact ⟨by rw [HE.out]; rfl, HB.out⟩
    · have HE := Lib.hid (show fieldsF ⟨o, nm, a, 0, t, k⟩ v = false by simp [fieldsF, h10, h3, ht])
      have g1 : (t != (0 : Int)) = true := by simpa using ht
      clear ht
      clear h1 h2 h3 h4 h5 h6 h7 h8 h9 h10 h11 h12
      go_enter Tryz.func110, Tryz.ntmps110
      go_wp2
      go_ret
      exact ⟨by rw [HE.out]; rfl, HB.out⟩
  · have HE := Lib.hid (show fieldsF ⟨o, nm, a, f, t, k⟩ v = false by simp [fieldsF, h10, h3, hf])
    have g1 : (f != (0 : Int)) = true := by simpa using hf
    clear hf
    clear h1 h2 h3 h4 h5 h6 h7 h8 h9 h10 h11 h12
    go_enter Tryz.func110, Tryz.ntmps110
    go_wp2
    go_ret
    exact ⟨by rw [HE.out]; rfl, HB.out⟩
def FdRel (v : Int) (a : List S84) (w : World) (X : Array Value) (v57 : Value) (wr : World) : Prop :=
  ∃ j : Nat, v57 = .int .i64 j ∧ j ≤ a.length ∧ (∀ i (hi : i < a.length), i < j → refOk v a[i] = true) ∧ wr.heap[w.heap.size]? = some (.cells X 32 (0, 0)) ∧ Below w.heap.size w wr
theorem f3_is (nm : ByteArray) (a : List S84) (k : List S32) (v : Int) : fieldsF ⟨3, nm, a, 0, 0, k⟩ v = (a.all (refOk v) && (k.length == 0 && decide (1 ≤ a.length) && decide (a.length ≤ 3) && symB nm)) := by simp [fieldsF]
set_option maxRecDepth 1000000 in
set_option maxHeartbeats 4000000 in
theorem fd3 {nm : ByteArray} {a : List S84} {f t : Int} {k : List S32} {w : World} {A2 A5 : Option Addr} {c2 c5 : Nat} (v : Int) (hk5 : k.length ≤ 9223372036854775807) (ha5 : a.length ≤ 9223372036854775807) (hnm : nm.size ≤ 100) (hA : Kd.C k84 w A2 a.length a) (hrs : ∀ r ∈ a, r.f2.size ≤ 100) :
    Calls Tryz.prog 110 #[.agg #[.int .i64 3, .string nm, .slice A2 a.length c2, .int .i64 f, .int .i64 t, .slice A5 k.length c5], .int .i64 v] w fun e w' => e = .returned (.bool (fieldsF ⟨3, nm, a, f, t, k⟩ v)) ∧ Below w.heap.size w w' := by
  have HBX0 := Lib.hid (one_blk w #[.int .i64 3, .string nm, .slice A2 a.length c2, .int .i64 f, .int .i64 t, .slice A5 k.length c5]).1
  have HB0 := Lib.hid (one_blk w #[.int .i64 3, .string nm, .slice A2 a.length c2, .int .i64 f, .int .i64 t, .slice A5 k.length c5]).2
  have HS := Lib.hid (symB_is hnm)
  have HA := Lib.hid hA
  have HRS := Lib.hid hrs
  clear hnm hA hrs
  by_cases hf : f = 0
  · subst hf
    by_cases ht : t = 0
    · subst ht
      have HE0 := Lib.hid (f3_is nm a k v)
      go_enter Tryz.func110, Tryz.ntmps110
      go_wp2
      go_loopw [57] (fun v57 wr => FdRel v a w #[.int .i64 3, .string nm, .slice A2 a.length c2, .int .i64 0, .int .i64 0, .slice A5 k.length c5] v57 wr) (fun v57 _ => a.length - (intOf v57).toNat)
      case atStart => exact ⟨0, rfl, Nat.zero_le _, fun i _ h => absurd h (Nat.not_lt_zero _), HBX0.out, HB0.out⟩
      case round =>
        obtain ⟨j, rfl, hj, hall, hbx, hb⟩ := hrel
        have HALL := Lib.hid hall
        have HBX := Lib.hid hbx
        have HB := Lib.hid hb
        clear hall hbx hb
        by_cases hlt : j < a.length
        · have hj0 : 0 ≤ (j : Int) := by omega
          have hj1 : (j : Int) < (a.length : Int) := by omega
          obtain ⟨ad, e1, q0, q1, q2⟩ := ref_at (Kd.C_below HA.out HB.out) j hlt
          subst e1
          have HR := Lib.hid (refOk_is (r := a[j]) v (HRS.out _ (List.getElem_mem hlt)))
          obtain ⟨b, hb⟩ : ∃ b, refOk v a[j] = b := ⟨_, rfl⟩
          have HRB := Lib.hid hb
          rw [hb] at HR
          obtain ⟨r, hr⟩ : ∃ r, a[j] = r := ⟨_, rfl⟩
          have HRR := Lib.hid hr
          rw [hr] at q0 q1 q2 HR
          have HAL := Lib.hid ((Below.refl wr.heap.size wr).alloc (Nat.le_refl _) (.cells #[.int .i64 r.f0, .int .i64 r.f1, .string r.f2] 84))
          clear hb hr
          go_wp2_with fail
          refine (formula_reference.calls 102 r.f0 r.f1 r.f2 v b _ HR.out).mono ?_
          rintro e w3 ⟨rfl, hb3⟩
          have HB3 := Lib.hid (below_then HAL.out HAL.out.size hb3)
          have HBW3 := Lib.hid (below_then HB.out HB.out.size HB3.out)
          clear hb3 q0 q1 q2
          cases b with
          | true =>
            go_wp2
            go_roundw
            case rel => exact ⟨j + 1, by go_num, hlt, fun i hi hij => by
              by_cases e : i < j
              · exact HALL.out i hi e
              · have : i = j := by omega
                subst this
                exact HRB.out, (HB3.out.block _ (blk_lt HBX.out)).trans HBX.out, HBW3.out⟩
            case measure => simp [intOf]; omega
          | false =>
            have HE := Lib.hid (show fieldsF ⟨3, nm, a, 0, 0, k⟩ v = false by
              rw [HE0.out]
              have : a.all (refOk v) = false := by
                rw [List.all_eq_false]
                exact ⟨a[j], List.getElem_mem hlt, by rw [HRB.out]; decide⟩
              rw [this]
              rfl)
            go_wp2
            go_ret
            exact ⟨by rw [HE.out]; rfl, HBW3.out⟩
        · have hjl : j = a.length := by omega
          subst hjl
          clear hlt hj
          have HAL := Lib.hid (show a.all (refOk v) = true by
            rw [List.all_eq_true]
            intro x hx
            obtain ⟨i, hi, rfl⟩ := List.mem_iff_getElem.1 hx
            exact HALL.out i hi hi)
          have HE1 := Lib.hid (show fieldsF ⟨3, nm, a, 0, 0, k⟩ v = (k.length == 0 && decide (1 ≤ a.length) && decide (a.length ≤ 3) && symB nm) by rw [HE0.out, HAL.out]; rfl)
          obtain ⟨k0, k1, k2, k3, k4, k5⟩ := cells_of HBX.out
          by_cases hk : k.length = 0
          · have m1 : ((k.length : Int) == (0 : Int)) = true := beq_iff_eq.mpr (by omega)
            have m2 : (k.length == 0) = true := by simpa using hk
            have HK0 := Lib.hid hk
            clear hk
            by_cases ha1 : 1 ≤ a.length
            · have g1 : decide ((1 : Int) ≤ (a.length : Int)) = true := decide_eq_true (by omega)
              have g1n : decide (1 ≤ a.length) = true := decide_eq_true ha1
              by_cases ha3 : a.length ≤ 3
              · have g3 : decide ((a.length : Int) ≤ (3 : Int)) = true := decide_eq_true (by omega)
                have g3n : decide (a.length ≤ 3) = true := decide_eq_true ha3
                obtain ⟨b, hb⟩ : ∃ b, symB nm = b := ⟨_, rfl⟩
                have HE := Lib.hid (show fieldsF ⟨3, nm, a, 0, 0, k⟩ v = b by rw [HE1.out, m2, g1n, g3n, hb]; rfl)
                rw [hb] at HS
                clear hb ha1 ha3
                go_wp2_with fail
                refine (formula_symbol.calls 102 nm b _ HS.out).mono ?_
                clear k0 k1 k2 k3 k4 k5
                rintro e w4 ⟨rfl, hd⟩
                have HB4 := Lib.hid (below_then HB.out HB.out.size hd.below)
                clear hd
                go_wp2
                go_ret
                exact ⟨by rw [HE.out]; rfl, HB4.out⟩
              · have g3 : decide ((a.length : Int) ≤ (3 : Int)) = false := decide_eq_false (by omega)
                have g3n : decide (a.length ≤ 3) = false := decide_eq_false ha3
                have HE := Lib.hid (show fieldsF ⟨3, nm, a, 0, 0, k⟩ v = false by rw [HE1.out, m2, g1n, g3n]; rfl)
                clear ha1 ha3
                go_wp2
                go_ret
                exact ⟨by rw [HE.out]; rfl, HB.out⟩
            · have g1 : decide ((1 : Int) ≤ (a.length : Int)) = false := decide_eq_false (by omega)
              have g1n : decide (1 ≤ a.length) = false := decide_eq_false ha1
              have HE := Lib.hid (show fieldsF ⟨3, nm, a, 0, 0, k⟩ v = false by rw [HE1.out, m2, g1n]; rfl)
              clear ha1
              go_wp2
              go_ret
              exact ⟨by rw [HE.out]; rfl, HB.out⟩
          · have m1 : ((k.length : Int) == (0 : Int)) = false := beq_eq_false_iff_ne.mpr (by omega)
            have m2 : (k.length == 0) = false := by simpa using hk
            have HE := Lib.hid (show fieldsF ⟨3, nm, a, 0, 0, k⟩ v = false by rw [HE1.out, m2]; rfl)
            clear hk
            go_wp2
            go_ret
            exact ⟨by rw [HE.out]; rfl, HB.out⟩
    · have HE := Lib.hid (show fieldsF ⟨3, nm, a, 0, t, k⟩ v = false by simp [fieldsF, ht])
      have g1 : (t != (0 : Int)) = true := by simpa using ht
      clear ht
      go_enter Tryz.func110, Tryz.ntmps110
      go_wp2
      go_ret
      exact ⟨by rw [HE.out]; rfl, HB0.out⟩
  · have HE := Lib.hid (show fieldsF ⟨3, nm, a, f, t, k⟩ v = false by simp [fieldsF, hf])
    have g1 : (f != (0 : Int)) = true := by simpa using hf
    clear hf
    go_enter Tryz.func110, Tryz.ntmps110
    go_wp2
    go_ret
    exact ⟨by rw [HE.out]; rfl, HB0.out⟩
theorem fields_any {x : S32} {w : World} {cs : List Value} (v : Int) (hK : k32.K w x cs) (hn : Nm x) :
    Calls Tryz.prog 110 #[.agg cs.toArray, .int .i64 v] w fun e w' => e = .returned (.bool (fieldsF x v)) ∧ Below w.heap.size w w' := by
  obtain ⟨A2, c2, A5, c5, rfl, l2, g2, l5, g5⟩ := k32_open hK
  obtain ⟨o, nm, a, f, t, k⟩ := x
  have hk5 : k.length ≤ 9223372036854775807 := g5.2.1
  have ha5 : a.length ≤ 9223372036854775807 := g2.2.1
  have hnm : nm.size ≤ 100 := hn.name
  by_cases h : 1 ≤ o ∧ o ≤ 12
  · have ho : o = 1 ∨ o = 2 ∨ o = 3 ∨ o = 4 ∨ o = 5 ∨ o = 6 ∨ o = 7 ∨ o = 8 ∨ o = 9 ∨ o = 10 ∨ o = 11 ∨ o = 12 := by omega
    rcases ho with rfl | rfl | rfl | rfl | rfl | rfl | rfl | rfl | rfl | rfl | rfl | rfl
    · exact fd1 v hk5 ha5 hnm
    · exact fd2 v hk5 ha5 hnm
    · exact fd3 v hk5 ha5 hnm g2 (fun r hr => (hn.ref r hr).1)
    · exact fd4 v hk5 ha5 hnm
    · exact fd5 v hk5 ha5 hnm
    · exact fd6 v hk5 ha5 hnm
    · exact fd7 v hk5 ha5 hnm
    · exact fd8 v hk5 ha5 hnm
    · exact fd9 v hk5 ha5 hnm
    · exact fd10 v hk5 ha5 hnm
    · exact fd11 v hk5 ha5 hnm
    · exact fd12 v hk5 ha5 hnm
  · exact fdx h v hk5 ha5 hnm
theorem size_any {x : S32} {w : World} {cs : List Value} (hK : k32.K w x cs) (hs : size x < 1000000) : Calls Tryz.prog 69 #[.agg cs.toArray] w fun e w' => e = .returned (.int .i64 (size x : Int)) ∧ Below w.heap.size w w' := by
  obtain ⟨A2, c2, A5, c5, rfl, l2, g2, l5, g5⟩ := k32_open hK
  exact formula_Size.calls (2 * size x) x.f0 x.f1 A2 c2 x.f2 x.f3 x.f4 A5 c5 x.f5 _ w g2 l2 g5 l5 (szF_is (size x) x (Nat.le_refl _) hs _ (Nat.le_refl _))
theorem depth_any {x : S32} {w : World} {cs : List Value} (hK : k32.K w x cs) (hs : size x < 1000000) : Calls Tryz.prog 70 #[.agg cs.toArray] w fun e w' => e = .returned (.int .i64 (depth x : Int)) ∧ Below w.heap.size w w' := by
  obtain ⟨A2, c2, A5, c5, rfl, l2, g2, l5, g5⟩ := k32_open hK
  exact formula_Depth.calls (2 * size x) x.f0 x.f1 A2 c2 x.f2 x.f3 x.f4 A5 c5 x.f5 _ w g2 l2 g5 l5 (dpF_is (size x) x (Nat.le_refl _) hs _ (Nat.le_refl _))
def limF (x : S32) : Bool := decide (size x ≤ 200) && decide (depth x ≤ 32)
theorem limits_any {x : S32} {w : World} {cs : List Value} (hK : k32.K w x cs) (hs : size x < 1000000) : Calls Tryz.prog 98 #[.agg cs.toArray] w fun e w' => e = .returned (.bool (limF x)) ∧ Below w.heap.size w w' := by
  obtain ⟨A2, c2, A5, c5, rfl, l2, g2, l5, g5⟩ := k32_open hK
  refine formula_limits.calls (2 * size x) x.f0 x.f1 A2 c2 x.f2 x.f3 x.f4 A5 c5 x.f5 _ w g2 l2 g5 l5 ?_
  unfold formula_limits.f
  rw [show formula_Size.f (2 * size x) x.f0 x.f1 x.f2 x.f3 x.f4 x.f5 = some (size x : Int) from szF_is (size x) x (Nat.le_refl _) hs _ (Nat.le_refl _), show formula_Depth.f (2 * size x) x.f0 x.f1 x.f2 x.f3 x.f4 x.f5 = some (depth x : Int) from dpF_is (size x) x (Nat.le_refl _) hs _ (Nat.le_refl _)]
  simp only [Option.bind_some]
  unfold limF
  by_cases h : size x ≤ 200
  · rw [if_pos (by omega)]
    simp [h]
    omega
  · rw [if_neg (by omega)]
    simp [h]
def FmRel (u : Int) (k : List S32) (w : World) (v19 : Value) (wr : World) : Prop :=
  ∃ j : Nat, v19 = .int .i64 j ∧ j ≤ k.length ∧ (∀ i (hi : i < k.length), i < j → formedF k[i] u = true) ∧ Below w.heap.size w wr
theorem al_nm {x : S32} (h : Al x) : Nm x := ((al_is x).1 h).1
set_option maxRecDepth 1000000 in
set_option maxHeartbeats 4000000 in
theorem formed_any : ∀ (n : Nat) (x : S32), size x < n → ∀ (w : World) (cs : List Value) (v : Int), k32.K w x cs → Al x → 0 ≤ v → v + size x < 4000000000000 → Calls Tryz.prog 99 #[.agg cs.toArray, .int .i64 v] w fun e w' => e = .returned (.bool (formedF x v)) ∧ Below w.heap.size w w'
  | 0, x, hx, _, _, _, _, _, _, _ => absurd hx (Nat.not_lt_zero _)
  | n + 1, ⟨o, nm, a, f, t, k⟩, hx, w, cs, v, hK, hal, hv0, hv1 => by
    have hrec := formed_any n
    have HREC := Lib.hid hrec
    have HK := Lib.hid hK
    obtain ⟨A2, c2, A5, c5, rfl, l2, g2, l5, g5⟩ := k32_open hK
    have HG5 := Lib.hid g5
    have hk5 : k.length ≤ 9223372036854775807 := g5.2.1
    have HAL := Lib.hid hal
    have HSZ := Lib.hid hx
    have HV := Lib.hid hv1
    have HV0 := Lib.hid hv0
    have HBX := Lib.hid (one_blk w #[.int .i64 o, .string nm, .slice A2 a.length c2, .int .i64 f, .int .i64 t, .slice A5 k.length c5]).1
    have HB := Lib.hid (one_blk w #[.int .i64 o, .string nm, .slice A2 a.length c2, .int .i64 f, .int .i64 t, .slice A5 k.length c5]).2
    have HFD := Lib.hid (fields_any v (k32.K_below HB.out HK.out) (al_nm hal))
    have HE0 := Lib.hid (formed_is ⟨o, nm, a, f, t, k⟩ v)
    clear hrec hK hx hal hv0 hv1 g2 g5 l2 l5
    dsimp only at *
    obtain ⟨b, hb⟩ : ∃ b, fieldsF ⟨o, nm, a, f, t, k⟩ v = b := ⟨_, rfl⟩
    rw [hb] at HFD HE0
    clear hb
    cases b with
    | false =>
      have HE := Lib.hid (show formedF ⟨o, nm, a, f, t, k⟩ v = false by rw [HE0.out]; rfl)
      go_enter Tryz.func99, Tryz.ntmps99
      go_wp2_with fail
      refine HFD.out.mono ?_
      rintro e w3 ⟨rfl, hb3⟩
      have HB3 := Lib.hid (below_then HB.out HB.out.size hb3)
      clear hb3
      go_wp2
      go_ret
      exact ⟨by rw [HE.out]; rfl, HB3.out⟩
    | true =>
      have HE1 := Lib.hid (show formedF ⟨o, nm, a, f, t, k⟩ v = k.all (fun y => formedF y (vin o v)) by rw [HE0.out, formedFs_all]; rfl)
      clear HE0
      by_cases hbd : o = 8 ∨ o = 9
      · have HU := Lib.hid (show vin o v = v + 1 by unfold vin; rw [if_pos hbd])
        have HBF := Lib.hid (show formula_binds.f o = some true by rw [binds_f]; rcases hbd with h | h <;> simp [h])
        have HWR := Lib.hid (show wrap64 (v + 1) = v + 1 from wrap_small (by have := HV0.out; omega) (by have := HV.out; omega))
        rw [HU.out] at HE1
        clear hbd
        go_enter Tryz.func99, Tryz.ntmps99
        go_wp2_with fail
        refine HFD.out.mono ?_
        rintro e w3 ⟨rfl, hb3⟩
        have HB3 := Lib.hid (below_then HB.out HB.out.size hb3)
        have HBX3 := Lib.hid ((hb3.block _ (blk_lt HBX.out)).trans HBX.out)
        clear hb3
        obtain ⟨k0, k1, k2, k3, k4, k5⟩ := cells_of HBX3.out
        go_wp2_with fail
        refine (formula_binds.calls o true _ HBF.out).mono ?_
        rintro e w4 ⟨rfl, hd4⟩
        have HB4 := Lib.hid (below_then HB3.out HB3.out.size hd4.below)
        have HBX4 := Lib.hid (drawn_blk hd4 HBX3.out)
        clear hd4 k0 k1 k2 k3 k4 k5
        obtain ⟨k0, k1, k2, k3, k4, k5⟩ := cells_of HBX4.out
        go_wp2
        rw [HWR.out]
        go_loopw [19] (fun v19 wr => FmRel (v + 1) k w v19 wr) (fun v19 _ => k.length - (intOf v19).toNat)
        case atStart => exact ⟨0, rfl, Nat.zero_le _, fun i _ h => absurd h (Nat.not_lt_zero _), HB4.out⟩
        case round =>
          obtain ⟨j, rfl, hj, hall, hbr⟩ := hrel
          have HALL := Lib.hid hall
          have HBR := Lib.hid hbr
          clear hall hbr k0 k1 k2 k3 k4 k5
          by_cases hlt : j < k.length
          · have hj0 : 0 ≤ (j : Int) := by omega
            have hj1 : (j : Int) < (k.length : Int) := by omega
            obtain ⟨ad, A3, c3, A6, c6, e4, q0, q1, q2, q3, q4, q5, qK⟩ := form_at (Kd.C_below HG5.out HBR.out) j hlt
            subst e4
            have hmem : k[j] ∈ k := List.getElem_mem hlt
            obtain ⟨b, hb⟩ : ∃ b, formedF k[j] (v + 1) = b := ⟨_, rfl⟩
            have HRB := Lib.hid hb
            have HMEM := Lib.hid hmem
            obtain ⟨y, hy⟩ : ∃ y, k[j] = y := ⟨_, rfl⟩
            have HYY := Lib.hid hy
            rw [hy] at q0 q1 q2 q3 q4 q5 qK hmem hb
            have HAL2 := Lib.hid ((Below.refl wr.heap.size wr).alloc (Nat.le_refl _) (.cells #[.int .i64 y.f0, .string y.f1, .slice A3 y.f2.length c3, .int .i64 y.f3, .int .i64 y.f4, .slice A6 y.f5.length c6] 32))
            have hih := HREC.out y (by have := kid_lt (x := ⟨o, nm, a, f, t, k⟩) hmem; have := HSZ.out; omega) _ _ (v + 1) (k32.K_below HAL2.out qK) (((al_is _).1 HAL.out).2 y hmem) (by have := HV0.out; omega) (by have := kid_lt (x := ⟨o, nm, a, f, t, k⟩) hmem; have := HV.out; omega)
            rw [hb] at hih
            have HIH := Lib.hid hih
            clear qK hmem hy hb hih
            go_wp2_with fail
            refine HIH.out.mono ?_
            rintro e w5 ⟨rfl, hb5⟩
            have HB5 := Lib.hid (below_then HBR.out HBR.out.size (below_then HAL2.out HAL2.out.size hb5))
            clear hb5 q0 q1 q2 q3 q4 q5
            cases b with
            | true =>
              go_wp2
              go_roundw
              case rel => exact ⟨j + 1, by go_num, hlt, fun i hi hij => by
                by_cases e : i < j
                · exact HALL.out i hi e
                · have : i = j := by omega
                  subst this
                  exact HRB.out, HB5.out⟩
              case measure => simp [intOf]; omega
            | false =>
              have HE := Lib.hid (show formedF ⟨o, nm, a, f, t, k⟩ v = false by
                rw [HE1.out, List.all_eq_false]
                exact ⟨k[j], HMEM.out, by rw [HRB.out]; decide⟩)
              go_wp2
              go_ret
              exact ⟨by rw [HE.out]; rfl, HB5.out⟩
          · have hjl : j = k.length := by omega
            subst hjl
            clear hlt hj
            have HE := Lib.hid (show formedF ⟨o, nm, a, f, t, k⟩ v = true by
              rw [HE1.out, List.all_eq_true]
              intro x hx
              obtain ⟨i, hi, rfl⟩ := List.mem_iff_getElem.1 hx
              exact HALL.out i hi hi)
            go_wp2
            go_ret
            exact ⟨by rw [HE.out]; rfl, HBR.out⟩
      · have HU := Lib.hid (show vin o v = v by unfold vin; rw [if_neg hbd])
        have HBF := Lib.hid (show formula_binds.f o = some false by rw [binds_f]; simp; omega)
        rw [HU.out] at HE1
        clear hbd
        go_enter Tryz.func99, Tryz.ntmps99
        go_wp2_with fail
        refine HFD.out.mono ?_
        rintro e w3 ⟨rfl, hb3⟩
        have HB3 := Lib.hid (below_then HB.out HB.out.size hb3)
        have HBX3 := Lib.hid ((hb3.block _ (blk_lt HBX.out)).trans HBX.out)
        clear hb3
        obtain ⟨k0, k1, k2, k3, k4, k5⟩ := cells_of HBX3.out
        go_wp2_with fail
        refine (formula_binds.calls o false _ HBF.out).mono ?_
        rintro e w4 ⟨rfl, hd4⟩
        have HB4 := Lib.hid (below_then HB3.out HB3.out.size hd4.below)
        have HBX4 := Lib.hid (drawn_blk hd4 HBX3.out)
        clear hd4 k0 k1 k2 k3 k4 k5
        obtain ⟨k0, k1, k2, k3, k4, k5⟩ := cells_of HBX4.out
        go_wp2
        skip
        go_loopw [19] (fun v19 wr => FmRel (v) k w v19 wr) (fun v19 _ => k.length - (intOf v19).toNat)
        case atStart => exact ⟨0, rfl, Nat.zero_le _, fun i _ h => absurd h (Nat.not_lt_zero _), HB4.out⟩
        case round =>
          obtain ⟨j, rfl, hj, hall, hbr⟩ := hrel
          have HALL := Lib.hid hall
          have HBR := Lib.hid hbr
          clear hall hbr k0 k1 k2 k3 k4 k5
          by_cases hlt : j < k.length
          · have hj0 : 0 ≤ (j : Int) := by omega
            have hj1 : (j : Int) < (k.length : Int) := by omega
            obtain ⟨ad, A3, c3, A6, c6, e4, q0, q1, q2, q3, q4, q5, qK⟩ := form_at (Kd.C_below HG5.out HBR.out) j hlt
            subst e4
            have hmem : k[j] ∈ k := List.getElem_mem hlt
            obtain ⟨b, hb⟩ : ∃ b, formedF k[j] (v) = b := ⟨_, rfl⟩
            have HRB := Lib.hid hb
            have HMEM := Lib.hid hmem
            obtain ⟨y, hy⟩ : ∃ y, k[j] = y := ⟨_, rfl⟩
            have HYY := Lib.hid hy
            rw [hy] at q0 q1 q2 q3 q4 q5 qK hmem hb
            have HAL2 := Lib.hid ((Below.refl wr.heap.size wr).alloc (Nat.le_refl _) (.cells #[.int .i64 y.f0, .string y.f1, .slice A3 y.f2.length c3, .int .i64 y.f3, .int .i64 y.f4, .slice A6 y.f5.length c6] 32))
            have hih := HREC.out y (by have := kid_lt (x := ⟨o, nm, a, f, t, k⟩) hmem; have := HSZ.out; omega) _ _ (v) (k32.K_below HAL2.out qK) (((al_is _).1 HAL.out).2 y hmem) (by have := HV0.out; omega) (by have := kid_lt (x := ⟨o, nm, a, f, t, k⟩) hmem; have := HV.out; omega)
            rw [hb] at hih
            have HIH := Lib.hid hih
            clear qK hmem hy hb hih
            go_wp2_with fail
            refine HIH.out.mono ?_
            rintro e w5 ⟨rfl, hb5⟩
            have HB5 := Lib.hid (below_then HBR.out HBR.out.size (below_then HAL2.out HAL2.out.size hb5))
            clear hb5 q0 q1 q2 q3 q4 q5
            cases b with
            | true =>
              go_wp2
              go_roundw
              case rel => exact ⟨j + 1, by go_num, hlt, fun i hi hij => by
                by_cases e : i < j
                · exact HALL.out i hi e
                · have : i = j := by omega
                  subst this
                  exact HRB.out, HB5.out⟩
              case measure => simp [intOf]; omega
            | false =>
              have HE := Lib.hid (show formedF ⟨o, nm, a, f, t, k⟩ v = false by
                rw [HE1.out, List.all_eq_false]
                exact ⟨k[j], HMEM.out, by rw [HRB.out]; decide⟩)
              go_wp2
              go_ret
              exact ⟨by rw [HE.out]; rfl, HB5.out⟩
          · have hjl : j = k.length := by omega
            subst hjl
            clear hlt hj
            have HE := Lib.hid (show formedF ⟨o, nm, a, f, t, k⟩ v = true by
              rw [HE1.out, List.all_eq_true]
              intro x hx
              obtain ⟨i, hi, rfl⟩ := List.mem_iff_getElem.1 hx
              exact HALL.out i hi hi)
            go_wp2
            go_ret
            exact ⟨by rw [HE.out]; rfl, HBR.out⟩
theorem valid_is (x : S32) : validF x = (limF x && formedF x 1099511627776) := rfl
set_option maxRecDepth 1000000 in
set_option maxHeartbeats 4000000 in
theorem Valid_any {x : S32} {w : World} {cs : List Value} (hK : k32.K w x cs) (hal : Al x) (hs : size x < 1000000) : Calls Tryz.prog 77 #[.agg cs.toArray, .int .i64 1099511627776] w fun e w' => e = .returned (.bool (validF x)) ∧ Below w.heap.size w w' := by
  have HK := Lib.hid hK
  obtain ⟨A2, c2, A5, c5, rfl, -⟩ := k32_open hK
  have HB := Lib.hid (one_blk w #[.int .i64 x.f0, .string x.f1, .slice A2 x.f2.length c2, .int .i64 x.f3, .int .i64 x.f4, .slice A5 x.f5.length c5]).2
  have HBX := Lib.hid (one_blk w #[.int .i64 x.f0, .string x.f1, .slice A2 x.f2.length c2, .int .i64 x.f3, .int .i64 x.f4, .slice A5 x.f5.length c5]).1
  have HLM := Lib.hid (limits_any (k32.K_below HB.out HK.out) hs)
  have HFM := Lib.hid (show ∀ W, Below w.heap.size w W → Calls Tryz.prog 99 #[.agg #[.int .i64 x.f0, .string x.f1, .slice A2 x.f2.length c2, .int .i64 x.f3, .int .i64 x.f4, .slice A5 x.f5.length c5], .int .i64 1099511627776] W fun e w' => e = .returned (.bool (formedF x 1099511627776)) ∧ Below W.heap.size W w' from fun W hW => formed_any (size x + 1) x (by omega) W _ _ (k32.K_below hW HK.out) hal (by decide) (by omega))
  have HE0 := Lib.hid (valid_is x)
  clear hK hal hs
  obtain ⟨b, hb⟩ : ∃ b, limF x = b := ⟨_, rfl⟩
  rw [hb] at HLM HE0
  clear hb
  cases b with
  | false =>
    have HE := Lib.hid (show validF x = false by rw [HE0.out]; rfl)
    go_enter Tryz.func77, Tryz.ntmps77
    go_wp2_with fail
    refine HLM.out.mono ?_
    rintro e w3 ⟨rfl, hb3⟩
    have HB3 := Lib.hid (below_then HB.out HB.out.size hb3)
    clear hb3
    go_wp2
    go_ret
    exact ⟨by rw [HE.out]; rfl, HB3.out⟩
  | true =>
    obtain ⟨d, hd⟩ : ∃ d, formedF x 1099511627776 = d := ⟨_, rfl⟩
    rw [hd] at HFM HE0
    clear hd
    have HE := Lib.hid (show validF x = d by rw [HE0.out]; rfl)
    go_enter Tryz.func77, Tryz.ntmps77
    go_wp2_with fail
    refine HLM.out.mono ?_
    rintro e w3 ⟨rfl, hb3⟩
    have HB3 := Lib.hid (below_then HB.out HB.out.size hb3)
    have HBX3 := Lib.hid ((hb3.block _ (blk_lt HBX.out)).trans HBX.out)
    clear hb3
    obtain ⟨k0, k1, k2, k3, k4, k5⟩ := cells_of HBX3.out
    go_wp2_with fail
    refine (HFM.out w3 HB3.out).mono ?_
    rintro e w4 ⟨rfl, hb4⟩
    have HB4 := Lib.hid (below_then HB3.out HB3.out.size hb4)
    clear hb4 k0 k1 k2 k3 k4 k5
    go_wp2
    go_ret
    exact ⟨by rw [HE.out]; rfl, HB4.out⟩
set_option maxRecDepth 1000000 in
set_option maxHeartbeats 4000000 in
theorem valid_any {x : S32} {w : World} {cs : List Value} (hK : k32.K w x cs) (hal : Al x) (hs : size x < 1000000) : Calls Tryz.prog 51 #[.agg cs.toArray] w fun e w' => e = .returned (.bool (validF x)) ∧ Below w.heap.size w w' := by
  have HK := Lib.hid hK
  obtain ⟨A2, c2, A5, c5, rfl, -⟩ := k32_open hK
  have HB := Lib.hid (one_blk w #[.int .i64 x.f0, .string x.f1, .slice A2 x.f2.length c2, .int .i64 x.f3, .int .i64 x.f4, .slice A5 x.f5.length c5]).2
  have HV := Lib.hid (Valid_any (k32.K_below HB.out HK.out) hal hs)
  clear hK hal hs
  go_enter Tryz.func51, Tryz.ntmps51
  go_wp2_with fail
  refine HV.out.mono ?_
  rintro e w3 ⟨rfl, hb3⟩
  have HB3 := Lib.hid (below_then HB.out HB.out.size hb3)
  clear hb3
  go_wp2
  go_ret
  exact ⟨rfl, HB3.out⟩
/-- fits: the formula, and the error. -/
def fitF (x : S32) : S32 × Int := if limF x then (x, 0) else (z32, 2)
def FrE (w w' : World) (ok : Nat → Prop) (p : S32 × Int) (e : Ending) : Prop := ∃ cs, e = .returned (.tuple #[.agg cs.toArray, .int .i64 p.2]) ∧ Kd.FK k32 w' (OkN ok w.heap.size) p.1 cs ∧ Below w.heap.size w w'
theorem res_slot2 {fn : Func} {p u : Tmp} (h : fn.results = #[.cell p 32, .tmp u]) (tmps : Array Value) (w : World) (s : Nat) (c0 c1 c2 c3 c4 c5 : Value) (hp : tmps.getD p undef = .pointer (some ⟨s, 0, none⟩)) (hg : w.heap[s]? = some (.cells #[c0, c1, c2, c3, c4, c5] 32 (0, 0))) :
    (results fn tmps).run Tryz.prog w = .ok (.tuple #[.agg [c0, c1, c2, c3, c4, c5].toArray, tmps.getD u undef]) w :=
  results_ct h _ _ s 32 #[c0, c1, c2, c3, c4, c5] (0, 0) _ hp hg Tryz.underlying32 rfl (by kernel_rfl)
theorem slotE_done {w W : World} {s : Nat} {ok ok' : Nat → Prop} {x : S32} {m : Int} {c0 c1 c2 c3 c4 c5 : Value} (hF : Kd.FK k32 W ok' x [c0, c1, c2, c3, c4, c5]) (hB : Below w.heap.size w W) (hs : w.heap.size ≤ s) (hne : ∀ k, ok' k → k ≠ s) (hm : ∀ k, ok' k → OkN ok w.heap.size k) :
    FrE w (six W s c0 c1 c2 c3 c4 c5) ok (x, m) (.returned (.tuple #[.agg [c0, c1, c2, c3, c4, c5].toArray, .int .i64 m])) :=
  ⟨_, rfl, Kd.FK_mono (Kd.FK_step hF (fun k hk _ => six_far _ _ _ _ _ _ k (hne k hk))) hm, six_below _ _ _ _ _ _ hB hs⟩
theorem slotE_zero {w W : World} {s : Nat} {ok : Nat → Prop} (m : Int) (hB : Below w.heap.size w W) (hs : w.heap.size ≤ s) :
    FrE w (six W s (.int .i64 0) (.string ⟨#[]⟩) (.slice none 0 0) (.int .i64 0) (.int .i64 0) (.slice none 0 0)) ok (z32, m) (.returned (.tuple #[.agg [.int .i64 0, .string ⟨#[]⟩, .slice none 0 0, .int .i64 0, .int .i64 0, .slice none 0 0].toArray, .int .i64 m])) :=
  ⟨_, rfl, k32_mkF _ _ z32 (Nat.le_refl _) (Kd.F_nil k84 _ _) (Nat.le_refl _) (Kd.F_nil k32 _ _), six_below _ _ _ _ _ _ hB hs⟩
set_option maxRecDepth 1000000 in
set_option maxHeartbeats 4000000 in
theorem fits_any {x : S32} {w : World} {cs : List Value} {ok : Nat → Prop} (hF : Kd.FK k32 w ok x cs) (hok : ∀ k, ok k → k < w.heap.size) (hs : size x < 1000000) : Calls Tryz.prog 47 #[.agg cs.toArray] w fun e w' => FrE w w' ok (fitF x) e := by
  have HF := Lib.hid hF
  have HOK := Lib.hid hok
  obtain ⟨A2, c2, A5, c5, rfl, -⟩ := k32_openF hF
  have HW := Lib.hid (box_slot w #[.int .i64 x.f0, .string x.f1, .slice A2 x.f2.length c2, .int .i64 x.f3, .int .i64 x.f4, .slice A5 x.f5.length c5])
  have HSZ := Lib.hid (size_any (k32.K_below HW.out.2.2.2 (Kd.FK_now hF)) hs)
  have HDP := Lib.hid (show ∀ W, Below w.heap.size w W → Calls Tryz.prog 70 #[.agg #[.int .i64 x.f0, .string x.f1, .slice A2 x.f2.length c2, .int .i64 x.f3, .int .i64 x.f4, .slice A5 x.f5.length c5]] W fun e w' => e = .returned (.int .i64 (depth x : Int)) ∧ Below W.heap.size W w' from fun W hW => depth_any (k32.K_below hW (Kd.FK_now HF.out)) hs)
  clear hF hok hs
  by_cases h1 : size x ≤ 200
  · have g1 : decide ((200 : Int) < (size x : Int)) = false := decide_eq_false (by omega)
    by_cases h2 : depth x ≤ 32
    · have g2 : decide ((32 : Int) < (depth x : Int)) = false := decide_eq_false (by omega)
      have HE := Lib.hid (show fitF x = (x, 0) by unfold fitF limF; simp [h1, h2])
      obtain ⟨s, hs⟩ : ∃ s : Int, (size x : Int) = s := ⟨_, rfl⟩
      obtain ⟨d, hd⟩ : ∃ d : Int, (depth x : Int) = d := ⟨_, rfl⟩
      rw [hs] at g1 HSZ
      rw [hd] at g2 HDP
      clear hs hd h1 h2
      go_enter Tryz.func47, Tryz.ntmps47
      go_wp2_with fail
      refine HSZ.out.mono ?_
      rintro e w3 ⟨rfl, hb3⟩
      have HB3 := Lib.hid (below_then HW.out.2.2.2 HW.out.2.2.2.size hb3)
      have HBX3 := Lib.hid ((hb3.block _ (blk_lt HW.out.2.1)).trans HW.out.2.1)
      have HSB3 := Lib.hid ((hb3.block _ (blk_lt HW.out.2.2.1)).trans HW.out.2.2.1)
      clear hb3
      obtain ⟨k0, k1, k2, k3, k4, k5⟩ := cells_of HBX3.out
      go_wp2_with fail
      refine (HDP.out w3 HB3.out).mono ?_
      rintro e w4 ⟨rfl, hb4⟩
      have HB4 := Lib.hid (below_then HB3.out HB3.out.size hb4)
      have HBX4 := Lib.hid ((hb4.block _ (blk_lt HBX3.out)).trans HBX3.out)
      have HSB4 := Lib.hid ((hb4.block _ (blk_lt HSB3.out)).trans HSB3.out)
      clear hb4 k0 k1 k2 k3 k4 k5
      obtain ⟨y0, y1, y2, y3, y4, y5, f0, f1, f2, f3, f4, f5⟩ := slot_cells HSB4.out
      obtain ⟨k0, k1, k2, k3, k4, k5⟩ := cells_of HBX4.out
      go_wp2
      refine bodyPost_ret (res_slot2 rfl _ _ _ _ _ _ _ _ _ rfl (six_blk HSB4.out _ _ _ _ _ _)) rfl ?_
      rw [HE.out]
      exact slotE_done (Kd.FK_step HF.out (fun k _ hk => HB4.out.block k hk)) HB4.out (by omega) (fun k hk => by have := HOK.out k hk; omega) (fun k hk => Or.inl hk)
    · have g2 : decide ((32 : Int) < (depth x : Int)) = true := decide_eq_true (by omega)
      have HE := Lib.hid (show fitF x = (z32, 2) by unfold fitF limF; simp [h2])
      obtain ⟨s, hs⟩ : ∃ s : Int, (size x : Int) = s := ⟨_, rfl⟩
      obtain ⟨d, hd⟩ : ∃ d : Int, (depth x : Int) = d := ⟨_, rfl⟩
      rw [hs] at g1 HSZ
      rw [hd] at g2 HDP
      clear hs hd h1 h2
      go_enter Tryz.func47, Tryz.ntmps47
      go_wp2_with fail
      refine HSZ.out.mono ?_
      rintro e w3 ⟨rfl, hb3⟩
      have HB3 := Lib.hid (below_then HW.out.2.2.2 HW.out.2.2.2.size hb3)
      have HBX3 := Lib.hid ((hb3.block _ (blk_lt HW.out.2.1)).trans HW.out.2.1)
      have HSB3 := Lib.hid ((hb3.block _ (blk_lt HW.out.2.2.1)).trans HW.out.2.2.1)
      clear hb3
      obtain ⟨k0, k1, k2, k3, k4, k5⟩ := cells_of HBX3.out
      go_wp2_with fail
      refine (HDP.out w3 HB3.out).mono ?_
      rintro e w4 ⟨rfl, hb4⟩
      have HB4 := Lib.hid (below_then HB3.out HB3.out.size hb4)
      have HBX4 := Lib.hid ((hb4.block _ (blk_lt HBX3.out)).trans HBX3.out)
      have HSB4 := Lib.hid ((hb4.block _ (blk_lt HSB3.out)).trans HSB3.out)
      clear hb4 k0 k1 k2 k3 k4 k5
      obtain ⟨y0, y1, y2, y3, y4, y5, f0, f1, f2, f3, f4, f5⟩ := slot_cells HSB4.out
      go_wp2
      refine bodyPost_ret (res_slot2 rfl _ _ _ _ _ _ _ _ _ rfl (six_blk HSB4.out _ _ _ _ _ _)) rfl ?_
      rw [HE.out]
      exact slotE_zero 2 HB4.out (by omega)
  · have g1 : decide ((200 : Int) < (size x : Int)) = true := decide_eq_true (by omega)
    have HE := Lib.hid (show fitF x = (z32, 2) by unfold fitF limF; simp [h1])
    obtain ⟨s, hs⟩ : ∃ s : Int, (size x : Int) = s := ⟨_, rfl⟩
    rw [hs] at g1 HSZ
    clear hs h1 HDP
    go_enter Tryz.func47, Tryz.ntmps47
    go_wp2_with fail
    refine HSZ.out.mono ?_
    rintro e w3 ⟨rfl, hb3⟩
    have HB3 := Lib.hid (below_then HW.out.2.2.2 HW.out.2.2.2.size hb3)
    have HBX3 := Lib.hid ((hb3.block _ (blk_lt HW.out.2.1)).trans HW.out.2.1)
    have HSB3 := Lib.hid ((hb3.block _ (blk_lt HW.out.2.2.1)).trans HW.out.2.2.1)
    clear hb3
    obtain ⟨y0, y1, y2, y3, y4, y5, f0, f1, f2, f3, f4, f5⟩ := slot_cells HSB3.out
    go_wp2
    refine bodyPost_ret (res_slot2 rfl _ _ _ _ _ _ _ _ _ rfl (six_blk HSB3.out _ _ _ _ _ _)) rfl ?_
    rw [HE.out]
    exact slotE_zero 2 HB3.out (by omega)
/-- normalform.Of -/
def ofF (x : S32) : S32 × Int := if validF x then fitF (nf x false) else (z32, 1)
set_option maxRecDepth 1000000 in
set_option maxHeartbeats 4000000 in
theorem of_any {x : S32} {w : World} {cs : List Value} {ok : Nat → Prop} (hF : Kd.FK k32 w ok x cs) (hok : ∀ k, ok k → k < w.heap.size) (hal : Al x) (hs : size x < 1000000) : Calls Tryz.prog 38 #[.agg cs.toArray] w fun e w' => FrE w w' ok (ofF x) e := by
  have HF := Lib.hid hF
  have HOK := Lib.hid hok
  obtain ⟨A2, c2, A5, c5, rfl, -⟩ := k32_openF hF
  have HW := Lib.hid (box_slot w #[.int .i64 x.f0, .string x.f1, .slice A2 x.f2.length c2, .int .i64 x.f3, .int .i64 x.f4, .slice A5 x.f5.length c5])
  have HV := Lib.hid (valid_any (k32.K_below HW.out.2.2.2 (Kd.FK_now hF)) hal hs)
  clear hF hok hal hs
  obtain ⟨b, hb⟩ : ∃ b, validF x = b := ⟨_, rfl⟩
  rw [hb] at HV
  cases b with
  | false =>
    have HE := Lib.hid (show ofF x = (z32, 1) by unfold ofF; rw [hb]; rfl)
    clear hb
    go_enter Tryz.func38, Tryz.ntmps38
    go_wp2_with fail
    refine HV.out.mono ?_
    rintro e w3 ⟨rfl, hb3⟩
    have HB3 := Lib.hid (below_then HW.out.2.2.2 HW.out.2.2.2.size hb3)
    have HBX3 := Lib.hid ((hb3.block _ (blk_lt HW.out.2.1)).trans HW.out.2.1)
    have HSB3 := Lib.hid ((hb3.block _ (blk_lt HW.out.2.2.1)).trans HW.out.2.2.1)
    clear hb3
    obtain ⟨y0, y1, y2, y3, y4, y5, f0, f1, f2, f3, f4, f5⟩ := slot_cells HSB3.out
    go_wp2
    refine bodyPost_ret (res_slot2 rfl _ _ _ _ _ _ _ _ _ rfl (six_blk HSB3.out _ _ _ _ _ _)) rfl ?_
    rw [HE.out]
    exact slotE_zero 1 HB3.out (by omega)
  | true =>
    have HE := Lib.hid (show ofF x = fitF (nf x false) by unfold ofF; rw [hb]; rfl)
    have HVW := Lib.hid (valid_wf hb)
    clear hb
    go_enter Tryz.func38, Tryz.ntmps38
    go_wp2_with fail
    refine HV.out.mono ?_
    rintro e w3 ⟨rfl, hb3⟩
    have HB3 := Lib.hid (below_then HW.out.2.2.2 HW.out.2.2.2.size hb3)
    have HBX3 := Lib.hid ((hb3.block _ (blk_lt HW.out.2.1)).trans HW.out.2.1)
    have HSB3 := Lib.hid ((hb3.block _ (blk_lt HW.out.2.2.1)).trans HW.out.2.2.1)
    clear hb3
    obtain ⟨k0, k1, k2, k3, k4, k5⟩ := cells_of HBX3.out
    go_wp2_with fail
    refine (nr_any false (Kd.FK_step HF.out (fun k _ hk => HB3.out.block k hk)) (fun k hk => Nat.lt_of_lt_of_le (HOK.out k hk) HB3.out.size) HVW.out.1 HVW.out.2.1).mono ?_
    rintro e w4 ⟨ds, rfl, hF4, hB4⟩
    have HB4 := Lib.hid (below_then HB3.out HB3.out.size hB4)
    have HSB4 := Lib.hid ((hB4.block _ (blk_lt HSB3.out)).trans HSB3.out)
    have HS34 := Lib.hid (show w.heap.size + 2 ≤ w3.heap.size by have := blk_lt HSB3.out; omega)
    have HNSZ := Lib.hid (show size (nf x false) < 1000000 by
      have h1 := size_le (nf x false)
      have h2 := nf_sz false HVW.out.2.1
      have h3 := Nat.mul_le_mul (Nat.le_refl (leaves (nf x false))) (show depth (nf x false) ≤ 2 + depth (nf x false) by omega)
      omega)
    have hfit := fits_any (Kd.FK_bound hF4) (fun k hk => hk.2) HNSZ.out
    obtain ⟨B2, d2, B5, d5, rfl, -⟩ := k32_openF hF4
    have HFIT := Lib.hid hfit
    clear hF4 hB4 hfit k0 k1 k2 k3 k4 k5
    go_wp2_with fail
    refine HFIT.out.mono ?_
    rintro e w5 ⟨es, rfl, hF5, hB5⟩
    have HB5 := Lib.hid (below_then HB4.out HB4.out.size hB5)
    have HS45 := Lib.hid HB4.out.size
    have HSB5 := Lib.hid ((hB5.block _ (blk_lt HSB4.out)).trans HSB4.out)
    have HL4 := Lib.hid (show w.heap.size + 2 ≤ w4.heap.size by have := blk_lt HSB4.out; omega)
    obtain ⟨z, hz⟩ : ∃ z, fitF (nf x false) = z := ⟨_, rfl⟩
    rw [hz] at hF5 HE ⊢
    obtain ⟨zx, ze⟩ := z
    dsimp only at hF5 ⊢
    have HF5 := Lib.hid hF5
    obtain ⟨G2, i2, G5, i5, rfl, -⟩ := k32_openF hF5
    obtain ⟨y0, y1, y2, y3, y4, y5, f0, f1, f2, f3, f4, f5⟩ := slot_cells HSB5.out
    clear hF5 hB5 hz HFIT
    go_wp2
    refine bodyPost_ret (res_slot2 rfl _ _ _ _ _ _ _ _ _ rfl (six_blk HSB5.out _ _ _ _ _ _)) rfl ?_
    rw [HE.out]
    exact slotE_done HF5.out HB5.out (by omega) (fun k hk => by
      have h1 := HS34.out
      have h2 := HL4.out
      rcases hk with ⟨hk | hk, _⟩ | hk
      · have := HOK.out k hk; omega
      · omega
      · omega) (fun k hk => by
      have h1 := HS34.out
      have h2 := HL4.out
      rcases hk with ⟨hk | hk, _⟩ | hk
      · exact Or.inl hk
      · exact Or.inr (by omega)
      · exact Or.inr (by omega))
end Go.Proofs.YtbahnpdgaoedmaaGreatDoor.Mm
namespace Go.Proofs
open Go.Shelf
def Tryz.lays169_ren : Go.Shelf.Ren := ⟨fun | 169 => 54 | n => n, fun | 70 => 95 | 9 => 9 | 0 => 0 | 72 => 98 | 37 => 96 | 127 => 125 | 3 => 3 | 5 => 5 | n => n, fun | n => n⟩
theorem Tryz.lays169 : Go.Proofs.Lays.n169 Tryz.prog Tryz.lays169_ren := {
  mixed := by kernel_rfl
  f169 := Tryz.func54.trans (congrArg some (by kernel_rfl))
  t0 := Tryz.underlying0
  a0 := Tryz.isAgg0
  z0 := Tryz.sizeOf0
  v0 := Tryz.zeroValue0
  t3 := Tryz.underlying3
  a3 := Tryz.isAgg3
  z3 := Tryz.sizeOf3
  v3 := Tryz.zeroValue3
  t9 := Tryz.underlying9
  a9 := Tryz.isAgg9
  z9 := Tryz.sizeOf9
  v9 := Tryz.zeroValue9
  t37 := Tryz.underlying96
  a37 := Tryz.isAgg96
  z37 := Tryz.sizeOf96
  v37 := Tryz.zeroValue96
  t70 := Tryz.underlying95
  a70 := Tryz.isAgg95
  z70 := Tryz.sizeOf95
  v70 := Tryz.zeroValue95
  t72 := Tryz.underlying98
  a72 := Tryz.isAgg98
  z72 := Tryz.sizeOf98
  v72 := Tryz.zeroValue98
  t127 := Tryz.underlying125
  a127 := Tryz.isAgg125
  z127 := Tryz.sizeOf125
  v127 := Tryz.zeroValue125 }
theorem Tryz.Builder_Extra_169 : Builder.Extra Tryz.prog Tryz.lays169_ren := {
  sizeBuilder := by kernel_rfl
  liesBuilder := by kernel_rfl
  t5 := Tryz.underlying5
  a5 := Tryz.isAgg5
  z5 := Tryz.sizeOf5
  v5 := Tryz.zeroValue5
  infoByte := by kernel_rfl
  cellsByte := by kernel_rfl
  sizeByte := by kernel_rfl
  neB5 := by decide }
def Tryz.laysM171_ren : Go.Shelf.Ren := ⟨fun | 171 => 87 | 243 => 107 | 246 => 115 | 283 => 133 | 284 => 134 | 285 => 135 | 286 => 136 | 129 => 132 | 317 => 146 | 318 => 147 | 319 => 148 | 320 => 149 | 337 => 151 | 338 => 152 | n => n, fun | 3 => 3 | 9 => 9 | 2 => 2 | 4 => 4 | 171 => 154 | 0 => 0 | 53 => 153 | 37 => 96 | 5 => 5 | 173 => 156 | 212 => 166 | 51 => 151 | 20 => 20 | 213 => 167 | 46 => 137 | 232 => 171 | 233 => 172 | n => n, fun | 17 => 0 | 18 => 1 | 19 => 2 | n => n⟩
theorem Tryz.laysM171 : Go.Proofs.LaysM.n171 Tryz.prog Tryz.laysM171_ren := {
  mixed := by kernel_rfl
  f129 := Tryz.func132.trans (congrArg some (by kernel_rfl))
  f171 := Tryz.func87.trans (congrArg some (by kernel_rfl))
  f243 := Tryz.func107.trans (congrArg some (by kernel_rfl))
  f246 := Tryz.func115.trans (congrArg some (by kernel_rfl))
  f283 := Tryz.func133.trans (congrArg some (by kernel_rfl))
  f284 := Tryz.func134.trans (congrArg some (by kernel_rfl))
  f285 := Tryz.func135.trans (congrArg some (by kernel_rfl))
  f286 := Tryz.func136.trans (congrArg some (by kernel_rfl))
  f317 := Tryz.func146.trans (congrArg some (by kernel_rfl))
  f318 := Tryz.func147.trans (congrArg some (by kernel_rfl))
  f319 := Tryz.func148.trans (congrArg some (by kernel_rfl))
  f320 := Tryz.func149.trans (congrArg some (by kernel_rfl))
  f337 := Tryz.func151.trans (congrArg some (by kernel_rfl))
  f338 := Tryz.func152.trans (congrArg some (by kernel_rfl))
  t0 := Tryz.underlying0
  a0 := Tryz.isAgg0
  z0 := Tryz.sizeOf0
  v0 := Tryz.zeroValue0
  t2 := Tryz.underlying2
  a2 := Tryz.isAgg2
  z2 := Tryz.sizeOf2
  v2 := Tryz.zeroValue2
  t3 := Tryz.underlying3
  a3 := Tryz.isAgg3
  z3 := Tryz.sizeOf3
  v3 := Tryz.zeroValue3
  t4 := Tryz.underlying4
  a4 := Tryz.isAgg4
  z4 := Tryz.sizeOf4
  v4 := Tryz.zeroValue4
  t5 := Tryz.underlying5
  a5 := Tryz.isAgg5
  z5 := Tryz.sizeOf5
  v5 := Tryz.zeroValue5
  t9 := Tryz.underlying9
  a9 := Tryz.isAgg9
  z9 := Tryz.sizeOf9
  v9 := Tryz.zeroValue9
  t20 := Tryz.underlying20
  a20 := Tryz.isAgg20
  z20 := Tryz.sizeOf20
  v20 := Tryz.zeroValue20
  t37 := Tryz.underlying96
  a37 := Tryz.isAgg96
  z37 := Tryz.sizeOf96
  v37 := Tryz.zeroValue96
  t46 := Tryz.underlying137
  a46 := Tryz.isAgg137
  z46 := Tryz.sizeOf137
  v46 := Tryz.zeroValue137
  t51 := Tryz.underlying151
  a51 := Tryz.isAgg151
  z51 := Tryz.sizeOf151
  v51 := Tryz.zeroValue151
  t53 := Tryz.underlying153
  a53 := Tryz.isAgg153
  z53 := Tryz.sizeOf153
  v53 := Tryz.zeroValue153
  t171 := Tryz.underlying154
  a171 := Tryz.isAgg154
  z171 := Tryz.sizeOf154
  v171 := Tryz.zeroValue154
  t173 := Tryz.underlying156
  a173 := Tryz.isAgg156
  z173 := Tryz.sizeOf156
  v173 := Tryz.zeroValue156
  t212 := Tryz.underlying166
  a212 := Tryz.isAgg166
  z212 := Tryz.sizeOf166
  v212 := Tryz.zeroValue166
  t213 := Tryz.underlying167
  a213 := Tryz.isAgg167
  z213 := Tryz.sizeOf167
  t232 := Tryz.underlying171
  a232 := Tryz.isAgg171
  z232 := Tryz.sizeOf171
  v232 := Tryz.zeroValue171
  t233 := Tryz.underlying172
  a233 := Tryz.isAgg172
  z233 := Tryz.sizeOf172
  v233 := Tryz.zeroValue172
  g17 := by kernel_rfl
  g18 := by kernel_rfl
  g19 := by kernel_rfl
  i0 := by kernel_rfl
  i2 := by kernel_rfl
  i3 := by kernel_rfl
  i4 := by kernel_rfl
  i5 := by kernel_rfl
  i9 := by kernel_rfl
  i20 := by kernel_rfl
  i37 := by kernel_rfl
  i46 := by kernel_rfl
  i51 := by kernel_rfl
  i53 := by kernel_rfl
  i171 := by kernel_rfl
  i173 := by kernel_rfl
  i212 := by kernel_rfl
  i232 := by kernel_rfl
  i233 := by kernel_rfl
  m17 := by kernel_rfl
  m18 := by kernel_rfl
  m19 := by kernel_rfl }
end Go.Proofs
namespace Go.Proofs.YtbahnpdgaoedmaaGreatDoor.Mm
open Go.RowKit Go.Proofs.YtbahnpdgaoedmaaGreatDoorW.PrintWords Go.Proofs.YtbahnpdgaoedmaaGreatDoorW.PrintLast Go.Proofs.YtbahnpdgaoedmaaGreatDoorW.PrintMore Go.Proofs.YtbahnpdgaoedmaaGreatDoor.PMemoryExact
set_option linter.unusedSimpArgs false
set_option linter.unusedVariables false
abbrev BAt (b : Nat) (bs : List Value) (w : World) : Prop := Lib.BuilderAtF 98 5 b b (.pointer (some ⟨b, 0, none⟩)) bs w
abbrev BIs (b : Nat) (bs : List Value) (w : World) : Prop := Lib.IsBuilderF 98 5 b b bs w
/-- What a writer leaves. -/
def Wrote (b : Nat) (bs : List Value) (w w' : World) : Prop := BIs b bs w' ∧ Below b w w' ∧ Lib.OthersKept 5 (some b) w w'
set_option maxRecDepth 1000000 in
set_option maxHeartbeats 4000000 in
theorem check_any {b : Nat} {bs : List Value} {w : World} (h : BIs b bs w) :
    Calls Tryz.prog 106 #[.pointer (some ⟨b, 0, none⟩)] w fun e w' => e = .returned (.tuple #[]) ∧ BAt b bs w' ∧ Below b w w' ∧ Lib.OthersKept 5 (some b) w w' := by
  obtain ⟨j, hj, hjs⟩ := Option.map_eq_some_iff.1 (show (Tryz.prog.info? 98).map (·.size) = some 2 by kernel_rfl)
  rcases h with h | h
  · have HH := Lib.hid h
    have h0 := h.cell0
    have hsh := Lib.hid h.shape
    have hfz := h.frozen0
    clear h
    go_enter Tryz.func106, Tryz.ntmps106
    go_wp2
    rw [Lib.run_to_unsafe w ⟨b, 0, none⟩ Tryz.underlying95 Tryz.underlying138 hj (by rw [hjs]; decide) hsh.out (Nat.zero_lt_succ 1)]
    simp only [Result.andThen]
    rw [Oper.upon_value]
    go_wp2
    rw [run_callFunc_extern Tryz.func114 (by kernel_rfl) (by kernel_rfl) (by kernel_rfl) (e := Extern.AbiNoEscape.same) (by kernel_rfl)]
    rw [Lib.run_noEscape]
    simp only [Result.andThen]
    rw [Oper.upon_value]
    go_wp2
    rw [Lib.run_from_unsafe w ⟨b, 0, none⟩ Tryz.underlying138 Tryz.underlying95 hj hsh.out (by kernel_rfl)]
    simp only [Result.andThen]
    rw [Oper.upon_value]
    go_wp2
    go_end0
    exact ⟨rfl, HH.out.used _, (Below.refl b w).setCell (p := ⟨b, 0, none⟩) (Nat.le_refl _) _, (Lib.OthersKept.refl _ _ w).setCell ⟨b, 0, none⟩ rfl _⟩
  · have HH := Lib.hid h
    have h0 := h.cell0
    clear h
    go_enter Tryz.func106, Tryz.ntmps106
    go_wp2
    rw [Lib.run_neq_ptr_same w _ Tryz.underlying95 hj]
    go_wp2
    go_end0
    exact ⟨rfl, HH.out, Below.refl b _, Lib.OthersKept.refl _ _ _⟩
theorem info5 : ∃ i, Tryz.prog.info? 5 = some i ∧ i.zero = some (.int .u8 0) ∧ i.size = 1 ∧ i.bytes = 1 := by
  have h : (Tryz.prog.info? 5).map (fun i => (i.zero, i.size, i.bytes)) = some (some (.int .u8 0), 1, 1) := by kernel_rfl
  obtain ⟨i, hi, he⟩ := Option.map_eq_some_iff.1 h
  simp only [Prod.mk.injEq] at he
  exact ⟨i, hi, he.1, he.2.1, he.2.2⟩
set_option maxRecDepth 1000000 in
set_option maxHeartbeats 4000000 in
theorem wstr_any {b : Nat} {bs : List Value} {w : World} (s : ByteArray) (h : BIs b bs w) (hlen : bs.length + s.size ≤ 140737488355328) :
    Calls Tryz.prog 85 #[.pointer (some ⟨b, 0, none⟩), .string s] w fun e w' => e = .returned (.tuple #[.int .i64 s.size, .nilIface]) ∧ Wrote b (bs ++ Lib.strCells s) w w' := by
  obtain ⟨i0, hi, hz0, hz1, hz2⟩ := info5
  go_enter Tryz.func85, Tryz.ntmps85
  go_wp2_with fail
  refine (check_any h).mono ?_
  rintro e w1 ⟨rfl, h1, hb1, hk1⟩
  have hlt := h1.lt
  obtain ⟨hB, v, hbk, hown, hne⟩ := h1
  have c0 : w1.cell? ⟨b, 0, none⟩ = some (.pointer (some ⟨b, 0, none⟩)) := by rw [Lib.cell_of_heap hbk]; rfl
  have c1 : w1.cell? ⟨b, 1, none⟩ = some v := by rw [Lib.cell_of_heap hbk]; rfl
  have HK1 := Lib.hid hk1
  have HB1 := Lib.hid hb1
  clear h hb1 hk1
  go_wp2_with (at_builtin; refine Lib.wpList_append_own_stringF _ rfl _ _ 96 9 rfl b 5 i0 Tryz.underlying96 Tryz.underlying9 hi hz0 hz1 hz2 _ _ _ rfl hown s rfl ?c3 ?c4 ?c5 ?_)
  case c3 => unfold maxLen; omega
  case c4 => omega
  case c5 => omega
  intro v' w2 hown' hgrow _
  have hb2 : w2.heap[b]? = some (.cells #[.pointer (some ⟨b, 0, none⟩), v] 98 (0, 0)) := by
    rw [hgrow.block b hlt (fun e => hne e.symm)]
    exact hbk
  have d0 : w2.cell? ⟨b, 0, none⟩ = some (.pointer (some ⟨b, 0, none⟩)) := by rw [Lib.cell_of_heap hb2]; rfl
  have d1 : w2.cell? ⟨b, 1, none⟩ = some v := by rw [Lib.cell_of_heap hb2]; rfl
  have f1 : w2.frozen? ⟨b, 1, none⟩ = false := Lib.frozen_of_heap hb2 1
  obtain ⟨ao, n', cap, rfl⟩ : ∃ ao n' cap, v' = .slice ao n' cap := by
    rcases hown'.2 with ⟨hv, _⟩ | ⟨g, cap, cur, fz, hv, _⟩
    · exact ⟨_, _, _, hv⟩
    · exact ⟨_, _, _, hv⟩
  go_wp2
  go_ret2
  refine ⟨rfl, Or.inr (Lib.BuilderAtF.put (T := 98) (e := 5) hB hb2 (bs' := bs ++ Lib.strCells s) (by simpa [Lib.strCells_length] using hown') (by decide)), ?_, (HK1.out.grown hgrow (Lib.ownsRowF_kind hown)).setCell ⟨b, 1, none⟩ rfl _⟩
  exact (HB1.out.grown hgrow (by omega) (fun k hk => (hown.lt k hk).1)).setCell (p := ⟨b, 1, none⟩) hB _
set_option maxRecDepth 1000000 in
set_option maxHeartbeats 4000000 in
theorem wbyte_any {b : Nat} {bs : List Value} {w : World} (c : Int) (h : BIs b bs w) (hlen : bs.length + 1 ≤ 140737488355328) :
    Calls Tryz.prog 88 #[.pointer (some ⟨b, 0, none⟩), .int .u8 c] w fun e w' => e = .returned .nilIface ∧ Wrote b (bs ++ [.int .u8 c]) w w' := by
  obtain ⟨i0, hi, hz0, hz1, hz2⟩ := info5
  go_enter Tryz.func88, Tryz.ntmps88
  go_wp2_with fail
  refine (check_any h).mono ?_
  rintro e w1 ⟨rfl, h1, hb1, hk1⟩
  have hlt := h1.lt
  obtain ⟨hB, v, hbk, hown, hne⟩ := h1
  have c0 : w1.cell? ⟨b, 0, none⟩ = some (.pointer (some ⟨b, 0, none⟩)) := by rw [Lib.cell_of_heap hbk]; rfl
  have c1 : w1.cell? ⟨b, 1, none⟩ = some v := by rw [Lib.cell_of_heap hbk]; rfl
  have HK1 := Lib.hid hk1
  have HB1 := Lib.hid hb1
  clear h hb1 hk1
  go_wp2_with (at_builtin; refine wpList_append_ownF _ rfl _ _ 96 rfl b 5 i0 (.int .u8 0) 1 1 Tryz.underlying96 hi hz0 hz1 hz2 rfl (by decide) _ _ _ rfl (hown.alloc _) ⟨w1.heap.size, 0, none⟩ 1 1 [.int .u8 c] rfl rfl ?c1 ?c2 ?c3 ?c4 ?c5 ?_)
  case c1 =>
    intro j u hj
    match j, hj with
    | 0, hj => simp at hj; subst hj; simp [Addr.add]
  case c2 => intro u hu; simp at hu; subst hu; rfl
  case c3 => unfold maxLen; omega
  case c4 => omega
  case c5 => simp; omega
  intro v' w2 hown' hgrow _
  have hb2 : w2.heap[b]? = some (.cells #[.pointer (some ⟨b, 0, none⟩), v] 98 (0, 0)) := by
    rw [hgrow.block b (by simp; omega) (fun e => hne e.symm), Lib.alloc_old w1 _ b hlt]
    exact hbk
  have d0 : w2.cell? ⟨b, 0, none⟩ = some (.pointer (some ⟨b, 0, none⟩)) := by rw [Lib.cell_of_heap hb2]; rfl
  have d1 : w2.cell? ⟨b, 1, none⟩ = some v := by rw [Lib.cell_of_heap hb2]; rfl
  have f1 : w2.frozen? ⟨b, 1, none⟩ = false := Lib.frozen_of_heap hb2 1
  obtain ⟨g, cap, rfl⟩ : ∃ g cap, v' = .slice (some ⟨g, 0, none⟩) (bs.length + 1) cap := by
    rcases hown'.2 with ⟨_, h0⟩ | ⟨g, cap, cur, fz, hv, _⟩
    · omega
    · exact ⟨g, cap, hv⟩
  go_wp2
  go_ret
  refine ⟨rfl, Or.inr (Lib.BuilderAtF.put (T := 98) (e := 5) hB hb2 (bs' := bs ++ [.int .u8 c]) (by simpa using hown') (by decide)), ?_, ((HK1.out.alloc _).grown hgrow (Lib.ownsRowF_kind (hown.alloc _))).setCell ⟨b, 1, none⟩ rfl _⟩
  exact ((HB1.out.alloc (by omega) _).grown hgrow (by simp; omega) (fun k hk => (hown.lt k hk).1)).setCell (p := ⟨b, 1, none⟩) hB _
/-- String -/
theorem str_any {b : Nat} (l : List UInt8) {w : World} (h : BIs b (Lib.byteCells l) w) (hb : b ≤ w.heap.size) :
    Calls Tryz.prog 54 #[.pointer (some ⟨b, 0, none⟩)] w fun e w' => e = .returned (.string ⟨l.toArray⟩) ∧ Below b w w' :=
  (Any.Builder_String_any_k Tryz.lays169 Tryz.Builder_Extra_169 b b l w h hb).mono fun e w' h => ⟨h.1, h.2.2.1⟩
/-- Itoa -/
theorem itoa_any (n : Int) (h0 : -9223372036854775808 ≤ n) (h1 : n ≤ 9223372036854775807) {w : World} (htab : Lib.TabIs Tryz.prog w "internal/strconv.uint64pow10" .u64 Lib.pow10Tab) :
    Calls Tryz.prog 87 #[.int .i64 n] w fun e w' => e = .returned (.string ⟨(Lib.itoa n).toArray⟩) ∧ ∃ k os, w' = Go.Sort.grow (w.drewN k) os :=
  Any.strconv_Itoa Tryz.laysM171 n h0 h1 w htab
end Go.Proofs.YtbahnpdgaoedmaaGreatDoor.Mm
namespace Go.Proofs.YtbahnpdgaoedmaaGreatDoor.PMemoryExact
open Go.RowKit Go.Proofs.YtbahnpdgaoedmaaGreatDoorW.PrintWords Go.Proofs.YtbahnpdgaoedmaaGreatDoorW.PrintLast Go.Proofs.YtbahnpdgaoedmaaGreatDoorW.PrintMore
attribute [local go_sem] max2_int min2_int max_two min_two max_three min_three max_four min_four   -- for this text's walks alone
set_option linter.unusedVariables false
set_option linter.unusedSimpArgs false
/-! ### formula_keyword: function 86 -/
def formula_keyword.f (a0 : Int) : Option (ByteArray) := if a0 = 1 then (some (⟨#[84, 82, 85, 69]⟩ : ByteArray)) else (if a0 = 2 then (some (⟨#[70, 65, 76, 83, 69]⟩ : ByteArray)) else (if a0 = 4 then (some (⟨#[78, 79, 84]⟩ : ByteArray)) else (if a0 = 5 then (some (⟨#[65, 78, 68]⟩ : ByteArray)) else (if a0 = 6 then (some (⟨#[79, 82]⟩ : ByteArray)) else (if a0 = 7 then (some (⟨#[73, 77, 80, 76, 73, 69, 83]⟩ : ByteArray)) else (if a0 = 8 then (some (⟨#[65, 76, 76]⟩ : ByteArray)) else (if a0 = 9 then (some (⟨#[83, 79, 77, 69]⟩ : ByteArray)) else (if a0 = 10 then (some (⟨#[68, 85, 82, 73, 78, 71]⟩ : ByteArray)) else (if a0 = 11 then (some (⟨#[79, 66, 76, 73, 71, 69, 68]⟩ : ByteArray)) else (if a0 = 12 then (some (⟨#[80, 69, 82, 77, 73, 84, 84, 69, 68]⟩ : ByteArray)) else (some (⟨#[]⟩ : ByteArray))))))))))))
set_option maxHeartbeats 8000000 in
set_option maxRecDepth 100000 in
theorem formula_keyword.calls (a0 : Int) (r : ByteArray) (w : World) (h : formula_keyword.f a0 = some r) :
    Calls Tryz.prog 86 #[.int .i64 a0] w fun e w' => e = .returned (.string r) ∧ Drawn0 w w' := by
  have H : (if a0 = 1 then (some (⟨#[84, 82, 85, 69]⟩ : ByteArray)) else (if a0 = 2 then (some (⟨#[70, 65, 76, 83, 69]⟩ : ByteArray)) else (if a0 = 4 then (some (⟨#[78, 79, 84]⟩ : ByteArray)) else (if a0 = 5 then (some (⟨#[65, 78, 68]⟩ : ByteArray)) else (if a0 = 6 then (some (⟨#[79, 82]⟩ : ByteArray)) else (if a0 = 7 then (some (⟨#[73, 77, 80, 76, 73, 69, 83]⟩ : ByteArray)) else (if a0 = 8 then (some (⟨#[65, 76, 76]⟩ : ByteArray)) else (if a0 = 9 then (some (⟨#[83, 79, 77, 69]⟩ : ByteArray)) else (if a0 = 10 then (some (⟨#[68, 85, 82, 73, 78, 71]⟩ : ByteArray)) else (if a0 = 11 then (some (⟨#[79, 66, 76, 73, 71, 69, 68]⟩ : ByteArray)) else (if a0 = 12 then (some (⟨#[80, 69, 82, 77, 73, 84, 84, 69, 68]⟩ : ByteArray)) else (some (⟨#[]⟩ : ByteArray))))))))))))) = some r := h
  clear h
  by_cases c2 : a0 = 1
  · rw [if_pos c2] at H
    have c2b0 : (a0 == 1) = true := beq_iff_eq.mpr c2
    have c2b1 : (a0 != 1) = false := bne_eq_false_iff_eq.mpr c2
    clear c2
    obtain rfl := Option.some.inj H
    go_enter Tryz.func86, Tryz.ntmps86
    go_wp2
    go_ret
    exact ⟨by first | rfl | (simp; done) | (simp [*]; done), by repeat (first | exact Drawn0.refl _ | apply Drawn0.step)⟩
  · rw [if_neg c2] at H
    have c2b0 : (a0 == 1) = false := beq_eq_false_iff_ne.mpr c2
    have c2b1 : (a0 != 1) = true := bne_iff_ne.mpr c2
    by_cases c3 : a0 = 2
    · rw [if_pos c3] at H
      have c3b0 : (a0 == 2) = true := beq_iff_eq.mpr c3
      have c3b1 : (a0 != 2) = false := bne_eq_false_iff_eq.mpr c3
      clear c3
      obtain rfl := Option.some.inj H
      go_enter Tryz.func86, Tryz.ntmps86
      go_wp2
      go_ret
      exact ⟨by first | rfl | (simp; done) | (simp [*]; done), by repeat (first | exact Drawn0.refl _ | apply Drawn0.step)⟩
    · rw [if_neg c3] at H
      have c3b0 : (a0 == 2) = false := beq_eq_false_iff_ne.mpr c3
      have c3b1 : (a0 != 2) = true := bne_iff_ne.mpr c3
      by_cases c4 : a0 = 4
      · rw [if_pos c4] at H
        have c4b0 : (a0 == 4) = true := beq_iff_eq.mpr c4
        have c4b1 : (a0 != 4) = false := bne_eq_false_iff_eq.mpr c4
        clear c4
        obtain rfl := Option.some.inj H
        go_enter Tryz.func86, Tryz.ntmps86
        go_wp2
        go_ret
        exact ⟨by first | rfl | (simp; done) | (simp [*]; done), by repeat (first | exact Drawn0.refl _ | apply Drawn0.step)⟩
      · rw [if_neg c4] at H
        have c4b0 : (a0 == 4) = false := beq_eq_false_iff_ne.mpr c4
        have c4b1 : (a0 != 4) = true := bne_iff_ne.mpr c4
        by_cases c5 : a0 = 5
        · rw [if_pos c5] at H
          have c5b0 : (a0 == 5) = true := beq_iff_eq.mpr c5
          have c5b1 : (a0 != 5) = false := bne_eq_false_iff_eq.mpr c5
          clear c5
          obtain rfl := Option.some.inj H
          go_enter Tryz.func86, Tryz.ntmps86
          go_wp2
          go_ret
          exact ⟨by first | rfl | (simp; done) | (simp [*]; done), by repeat (first | exact Drawn0.refl _ | apply Drawn0.step)⟩
        · rw [if_neg c5] at H
          have c5b0 : (a0 == 5) = false := beq_eq_false_iff_ne.mpr c5
          have c5b1 : (a0 != 5) = true := bne_iff_ne.mpr c5
          by_cases c6 : a0 = 6
          · rw [if_pos c6] at H
            have c6b0 : (a0 == 6) = true := beq_iff_eq.mpr c6
            have c6b1 : (a0 != 6) = false := bne_eq_false_iff_eq.mpr c6
            clear c6
            obtain rfl := Option.some.inj H
            go_enter Tryz.func86, Tryz.ntmps86
            go_wp2
            go_ret
            exact ⟨by first | rfl | (simp; done) | (simp [*]; done), by repeat (first | exact Drawn0.refl _ | apply Drawn0.step)⟩
          · rw [if_neg c6] at H
            have c6b0 : (a0 == 6) = false := beq_eq_false_iff_ne.mpr c6
            have c6b1 : (a0 != 6) = true := bne_iff_ne.mpr c6
            by_cases c7 : a0 = 7
            · rw [if_pos c7] at H
              have c7b0 : (a0 == 7) = true := beq_iff_eq.mpr c7
              have c7b1 : (a0 != 7) = false := bne_eq_false_iff_eq.mpr c7
              clear c7
              obtain rfl := Option.some.inj H
              go_enter Tryz.func86, Tryz.ntmps86
              go_wp2
              go_ret
              exact ⟨by first | rfl | (simp; done) | (simp [*]; done), by repeat (first | exact Drawn0.refl _ | apply Drawn0.step)⟩
            · rw [if_neg c7] at H
              have c7b0 : (a0 == 7) = false := beq_eq_false_iff_ne.mpr c7
              have c7b1 : (a0 != 7) = true := bne_iff_ne.mpr c7
              by_cases c8 : a0 = 8
              · rw [if_pos c8] at H
                have c8b0 : (a0 == 8) = true := beq_iff_eq.mpr c8
                have c8b1 : (a0 != 8) = false := bne_eq_false_iff_eq.mpr c8
                clear c8
                obtain rfl := Option.some.inj H
                go_enter Tryz.func86, Tryz.ntmps86
                go_wp2
                go_ret
                exact ⟨by first | rfl | (simp; done) | (simp [*]; done), by repeat (first | exact Drawn0.refl _ | apply Drawn0.step)⟩
              · rw [if_neg c8] at H
                have c8b0 : (a0 == 8) = false := beq_eq_false_iff_ne.mpr c8
                have c8b1 : (a0 != 8) = true := bne_iff_ne.mpr c8
                by_cases c9 : a0 = 9
                · rw [if_pos c9] at H
                  have c9b0 : (a0 == 9) = true := beq_iff_eq.mpr c9
                  have c9b1 : (a0 != 9) = false := bne_eq_false_iff_eq.mpr c9
                  clear c9
                  obtain rfl := Option.some.inj H
                  go_enter Tryz.func86, Tryz.ntmps86
                  go_wp2
                  go_ret
                  exact ⟨by first | rfl | (simp; done) | (simp [*]; done), by repeat (first | exact Drawn0.refl _ | apply Drawn0.step)⟩
                · rw [if_neg c9] at H
                  have c9b0 : (a0 == 9) = false := beq_eq_false_iff_ne.mpr c9
                  have c9b1 : (a0 != 9) = true := bne_iff_ne.mpr c9
                  by_cases c10 : a0 = 10
                  · rw [if_pos c10] at H
                    have c10b0 : (a0 == 10) = true := beq_iff_eq.mpr c10
                    have c10b1 : (a0 != 10) = false := bne_eq_false_iff_eq.mpr c10
                    clear c10
                    obtain rfl := Option.some.inj H
                    go_enter Tryz.func86, Tryz.ntmps86
                    go_wp2
                    go_ret
                    exact ⟨by first | rfl | (simp; done) | (simp [*]; done), by repeat (first | exact Drawn0.refl _ | apply Drawn0.step)⟩
                  · rw [if_neg c10] at H
                    have c10b0 : (a0 == 10) = false := beq_eq_false_iff_ne.mpr c10
                    have c10b1 : (a0 != 10) = true := bne_iff_ne.mpr c10
                    by_cases c11 : a0 = 11
                    · rw [if_pos c11] at H
                      have c11b0 : (a0 == 11) = true := beq_iff_eq.mpr c11
                      have c11b1 : (a0 != 11) = false := bne_eq_false_iff_eq.mpr c11
                      clear c11
                      obtain rfl := Option.some.inj H
                      go_enter Tryz.func86, Tryz.ntmps86
                      go_wp2
                      go_ret
                      exact ⟨by first | rfl | (simp; done) | (simp [*]; done), by repeat (first | exact Drawn0.refl _ | apply Drawn0.step)⟩
                    · rw [if_neg c11] at H
                      have c11b0 : (a0 == 11) = false := beq_eq_false_iff_ne.mpr c11
                      have c11b1 : (a0 != 11) = true := bne_iff_ne.mpr c11
                      by_cases c12 : a0 = 12
                      · rw [if_pos c12] at H
                        have c12b0 : (a0 == 12) = true := beq_iff_eq.mpr c12
                        have c12b1 : (a0 != 12) = false := bne_eq_false_iff_eq.mpr c12
                        clear c12
                        obtain rfl := Option.some.inj H
                        go_enter Tryz.func86, Tryz.ntmps86
                        go_wp2
                        go_ret
                        exact ⟨by first | rfl | (simp; done) | (simp [*]; done), by repeat (first | exact Drawn0.refl _ | apply Drawn0.step)⟩
                      · rw [if_neg c12] at H
                        have c12b0 : (a0 == 12) = false := beq_eq_false_iff_ne.mpr c12
                        have c12b1 : (a0 != 12) = true := bne_iff_ne.mpr c12
                        obtain rfl := Option.some.inj H
                        go_enter Tryz.func86, Tryz.ntmps86
                        go_wp2
                        go_ret
                        exact ⟨by first | rfl | (simp; done) | (simp [*]; done), by repeat (first | exact Drawn0.refl _ | apply Drawn0.step)⟩
end Go.Proofs.YtbahnpdgaoedmaaGreatDoor.PMemoryExact
namespace Go.Proofs.YtbahnpdgaoedmaaGreatDoor.Mm
open Go.RowKit Go.Proofs.YtbahnpdgaoedmaaGreatDoorW.PrintWords Go.Proofs.YtbahnpdgaoedmaaGreatDoorW.PrintLast Go.Proofs.YtbahnpdgaoedmaaGreatDoorW.PrintMore Go.Proofs.YtbahnpdgaoedmaaGreatDoor.PMemoryExact
set_option linter.unusedSimpArgs false
set_option linter.unusedVariables false
/-- The table of powers of ten lies in the world. -/
abbrev TB (w : World) : Prop := Lib.TabIs Tryz.prog w "internal/strconv.uint64pow10" .u64 Lib.pow10Tab
theorem tb_glob : ∃ g, Tryz.prog.globalNamed "internal/strconv.uint64pow10" = some g := by
  have : (Tryz.prog.globalNamed "internal/strconv.uint64pow10").isSome = true := by kernel_rfl
  exact Option.isSome_iff_exists.1 this
theorem tb_below {B : Nat} {w W : World} (h : TB w) (hB : Below B w W) (hlt : w.heap.size ≤ B ∨ ∀ g, Tryz.prog.globalNamed "internal/strconv.uint64pow10" = some g → g < B) : TB W := by
  obtain ⟨g, hg⟩ := tb_glob
  unfold TB Lib.TabIs World.var? at h ⊢
  simp only [hg, Option.bind_some] at h ⊢
  have hgl : g < w.heap.size := by
    apply Classical.byContradiction
    intro hn
    rw [Array.getElem?_eq_none (by omega)] at h
    simp at h
  rw [hB.block g (by rcases hlt with hlt | hlt; exact Nat.lt_of_lt_of_le hgl hlt; exact hlt g hg)]
  exact h
/-- The builder b holds l; since a, nothing below b has changed, and nothing else but rows of bytes. -/
def Wr (b : Nat) (l : List UInt8) (a c : World) : Prop := BIs b (Lib.byteCells l) c ∧ Below b a c ∧ Lib.OthersKept 5 (some b) a c
theorem bis_lt {b : Nat} {bs : List Value} {w : World} (h : BIs b bs w) : b < w.heap.size := h.elim (fun x => x.lt) (fun x => x.lt)
theorem bis_step {b : Nat} {bs : List Value} {w w' : World} (h : BIs b bs w) (hk : ∀ k, k < w.heap.size → w'.heap[k]? = w.heap[k]?) : BIs b bs w' := by
  have key : ∀ p, Lib.BuilderAtF 98 5 b b p bs w → Lib.BuilderAtF 98 5 b b p bs w' := by
    rintro p ⟨hB, v, hb, ⟨h1, h2⟩, hne⟩
    refine ⟨hB, v, (hk b (blk_lt hb)).trans hb, ⟨h1, ?_⟩, hne⟩
    rcases h2 with h2 | ⟨g, cap, cur, fz, hv, hbg, hg, rest⟩
    · exact Or.inl h2
    · exact Or.inr ⟨g, cap, cur, fz, hv, hbg, (hk g (blk_lt hg)).trans hg, rest⟩
  exact h.elim (fun x => Or.inl (key _ x)) (fun x => Or.inr (key _ x))
theorem Wr.step {b : Nat} {l l' : List UInt8} {a c d : World} (h : Wr b l a c) (k : Wrote b (Lib.byteCells l') c d) : Wr b l' a d := ⟨k.1, h.2.1.trans k.2.1, h.2.2.trans k.2.2⟩
theorem Wr.grow {b : Nat} {l : List UInt8} {a c d : World} (h : Wr b l a c) (hk : ∀ k, k < c.heap.size → d.heap[k]? = c.heap[k]?) (hB : Below b c d) : Wr b l a d :=
  ⟨bis_step h.1 hk, h.2.1.trans hB, fun k o ho hb ht => (hk k (blk_lt (h.2.2 k o ho hb ht))).trans (h.2.2 k o ho hb ht)⟩
theorem Wr.alloc {b : Nat} {l : List UInt8} {a c : World} (h : Wr b l a c) (o : Obj) : Wr b l a (c.alloc o) :=
  h.grow (fun k hk => Below.heap_alloc _ _ _ hk) ((Below.refl b c).alloc (Nat.le_of_lt (bis_lt h.1)) o)
theorem Wr.drew {b : Nat} {l : List UInt8} {a c : World} (h : Wr b l a c) : Wr b l a c.drew := h.grow (fun k hk => rfl) ((Below.refl b c).drew)
theorem Wr.drawn {b : Nat} {l : List UInt8} {a c d : World} (h : Wr b l a c) (hd : Drawn0 c d) : Wr b l a d := by
  obtain ⟨m, rfl⟩ := hd.out
  exact h.grow (fun k hk => rfl) ⟨rfl, rfl, rfl, Nat.le_refl _, fun k _ => rfl⟩
theorem Wr.itoa {b : Nat} {l : List UInt8} {a c : World} {k : Nat} {os : Array Obj} (h : Wr b l a c) : Wr b l a (Go.Sort.grow (c.drewN k) os) := by
  have hk : ∀ j, j < c.heap.size → (Go.Sort.grow (c.drewN k) os).heap[j]? = c.heap[j]? := fun j hj => by
    show (c.heap ++ os)[j]? = _
    rw [Array.getElem?_append_left hj]
  exact h.grow hk ⟨rfl, rfl, rfl, by show _ ≤ (c.heap ++ os).size; simp, fun j hj => hk j (Nat.lt_trans hj (bis_lt h.1))⟩
/-- What stands, and is no row of bytes, stands still. -/
theorem Wr.blk {b : Nat} {l : List UInt8} {a c : World} (h : Wr b l a c) {k t : Nat} {X : Array Value} (hb : a.heap[k]? = some (.cells X t (0, 0))) (ht : t ≠ 5) (hk : k ≠ b) : c.heap[k]? = some (.cells X t (0, 0)) :=
  h.2.2 k _ hb (fun e => hk (Option.some.inj e)) (fun cc fz e => ht (by injection e))
theorem Wr.tb {b : Nat} {l : List UInt8} {a c : World} (h : Wr b l a c) (ht : TB a) (hg : ∀ g, Tryz.prog.globalNamed "internal/strconv.uint64pow10" = some g → g < b) : TB c := tb_below ht h.2.1 (Or.inr hg)
theorem str_cells (s : ByteArray) : Lib.strCells s = Lib.byteCells s.data.toList := by
  simp [Lib.strCells, Lib.byteCells]
theorem cells_app (a b : List UInt8) : Lib.byteCells (a ++ b) = Lib.byteCells a ++ Lib.byteCells b := by simp [Lib.byteCells]
theorem cells_len (a : List UInt8) : (Lib.byteCells a).length = a.length := by simp [Lib.byteCells]
/-- WriteString, WriteByte, told of bytes. -/
theorem ws_any {b : Nat} {l : List UInt8} {c : World} (s : ByteArray) (h : BIs b (Lib.byteCells l) c) (hlen : l.length + s.data.toList.length ≤ 140737488355328) :
    Calls Tryz.prog 85 #[.pointer (some ⟨b, 0, none⟩), .string s] c fun e w' => e = .returned (.tuple #[.int .i64 s.size, .nilIface]) ∧ Wrote b (Lib.byteCells (l ++ s.data.toList)) c w' := by
  refine (wstr_any s h (by rw [cells_len]; simpa using hlen)).mono ?_
  rintro e w' ⟨he, hw⟩
  exact ⟨he, by rw [cells_app, ← str_cells]; exact hw⟩
theorem wb_any {b : Nat} {l : List UInt8} {c : World} (u : UInt8) (n : Int) (hn : n = u.toNat) (h : BIs b (Lib.byteCells l) c) (hlen : l.length + 1 ≤ 140737488355328) :
    Calls Tryz.prog 88 #[.pointer (some ⟨b, 0, none⟩), .int .u8 n] c fun e w' => e = .returned .nilIface ∧ Wrote b (Lib.byteCells (l ++ [u])) c w' := by
  subst hn
  refine (wbyte_any (u.toNat : Int) h (by rw [cells_len]; exact hlen)).mono ?_
  rintro e w' ⟨he, hw⟩
  exact ⟨he, by rw [cells_app]; exact hw⟩
theorem Wrote.blk {b : Nat} {bs : List Value} {a c : World} (h : Wrote b bs a c) {k t : Nat} {X : Array Value} (hb : a.heap[k]? = some (.cells X t (0, 0))) (ht : t ≠ 5) (hk : k ≠ b) : c.heap[k]? = some (.cells X t (0, 0)) :=
  h.2.2 k _ hb (fun e => hk (Option.some.inj e)) (fun cc fz e => ht (by injection e))
theorem Wr.refl {b : Nat} {l : List UInt8} {w : World} (h : BIs b (Lib.byteCells l) w) : Wr b l w w := ⟨h, Below.refl _ _, Lib.OthersKept.refl _ _ _⟩
theorem Wr.base {b : Nat} {l l' : List UInt8} {a c d : World} (h : Wr b l a c) (k : Wr b l' c d) : Wr b l' a d := ⟨k.1, h.2.1.trans k.2.1, h.2.2.trans k.2.2⟩
theorem Wr.wrote {b : Nat} {l : List UInt8} {a c : World} (h : Wr b l a c) : Wrote b (Lib.byteCells l) a c := h
theorem kw_f (o : Int) : ∃ s, formula_keyword.f o = some s ∧ s.data.toList = kwd o := by
  by_cases h1 : o = 1
  · subst h1
    exact ⟨_, rfl, rfl⟩
  by_cases h2 : o = 2
  · subst h2
    exact ⟨_, rfl, rfl⟩
  by_cases h4 : o = 4
  · subst h4
    exact ⟨_, rfl, rfl⟩
  by_cases h5 : o = 5
  · subst h5
    exact ⟨_, rfl, rfl⟩
  by_cases h6 : o = 6
  · subst h6
    exact ⟨_, rfl, rfl⟩
  by_cases h7 : o = 7
  · subst h7
    exact ⟨_, rfl, rfl⟩
  by_cases h8 : o = 8
  · subst h8
    exact ⟨_, rfl, rfl⟩
  by_cases h9 : o = 9
  · subst h9
    exact ⟨_, rfl, rfl⟩
  by_cases h10 : o = 10
  · subst h10
    exact ⟨_, rfl, rfl⟩
  by_cases h11 : o = 11
  · subst h11
    exact ⟨_, rfl, rfl⟩
  by_cases h12 : o = 12
  · subst h12
    exact ⟨_, rfl, rfl⟩
  exact ⟨⟨#[]⟩, by simp [formula_keyword.f, h1, h2, h4, h5, h6, h7, h8, h9, h10, h11, h12], by simp [kwd, h1, h2, h4, h5, h6, h7, h8, h9, h10, h11, h12]⟩
/-- What write owes, below a size. -/
def WrTo (n : Nat) : Prop := ∀ (x : S32), size x < n → ∀ (b : Nat) (l : List UInt8) (w : World) (cs : List Value), Kd.FK k32 w (fun k => k < b) x cs → BIs b (Lib.byteCells l) w → TB w → (∀ g, Tryz.prog.globalNamed "internal/strconv.uint64pow10" = some g → g < b) → Al x → l.length + 2000 * size x ≤ 1000000000 →
  Calls Tryz.prog 53 #[.pointer (some ⟨b, 0, none⟩), .agg cs.toArray] w fun e w' => e = .returned (.tuple #[]) ∧ Wr b (l ++ textB x) w w'
def RefRel (b : Nat) (L : List UInt8) (a : List S84) (w1 : World) (v68 : Value) (wr : World) : Prop :=
  ∃ j : Nat, v68 = .int .i64 j ∧ j ≤ a.length ∧ Wr b (L ++ commas ((a.take j).map refB)) w1 wr
def KidRel (b : Nat) (L : List UInt8) (k : List S32) (w1 : World) (v110 : Value) (wr : World) : Prop :=
  ∃ j : Nat, v110 = .int .i64 j ∧ j ≤ k.length ∧ Wr b (L ++ commas ((k.take j).map textB)) w1 wr
theorem commas_next {α : Type} (g : α → List UInt8) {a : List α} {j : Nat} (h : j < a.length) : commas ((a.take (j + 1)).map g) = commas ((a.take j).map g) ++ (if j = 0 then g a[j] else 44 :: 32 :: g a[j]) := by
  rw [List.take_succ_eq_append_getElem h, List.map_append, List.map_singleton, commas_snoc]
  congr 1
  by_cases h0 : j = 0
  · subst h0; simp
  · rw [if_neg h0, if_neg (by
      intro e
      have h2 : min j a.length = 0 := by simpa only [List.length_map, List.length_take, List.length_nil] using congrArg List.length e
      omega)]
theorem refs_len {a : List S84} (h : ∀ r ∈ a, (refB r).length ≤ 100) (h10 : a.length ≤ 10) (j : Nat) : (commas ((a.take j).map refB)).length ≤ 1020 := by
  have := commas_len ((a.take j).map refB) 102 (fun y hy => by
    obtain ⟨r, hr, rfl⟩ := List.mem_map.1 hy
    have := h r (List.mem_of_mem_take hr)
    omega)
  rw [List.length_map, List.length_take] at this
  have h2 := Nat.mul_le_mul_right 102 (show min j a.length ≤ 10 by omega)
  omega
theorem kids_len {k : List S32} (h : ∀ y ∈ k, Al y) {j : Nat} (hj : j < k.length) : (commas ((k.take j).map textB)).length + 2000 * size k[j] ≤ 2000 * size.sizes k := by
  have h1 := commas_sum ((k.take j).map textB)
  have h2 := textBs_len (k.take j) (fun y hy => h y (List.mem_of_mem_take hy))
  rw [textBs_map] at h2
  have h3 := sizes_app (k.take (j + 1)) (k.drop (j + 1))
  rw [List.take_append_drop, List.take_succ_eq_append_getElem hj, sizes_app] at h3
  simp only [size.sizes] at h3
  omega
end Go.Proofs.YtbahnpdgaoedmaaGreatDoor.Mm
