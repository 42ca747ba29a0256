/- MemoryForms: whatever the input, the call returns true, and the input reads as it did; the listed tables of the library start as the text lays them. No other conditions. -/
import Derived.Test.YtbahnpdgaoedmaaGreatDoorCO18
import Derived.Test.YtbahnpdgaoedmaaGreatDoorCO3
import Derived.Test.YtbahnpdgaoedmaaGreatDoorCO17
import Derived.Test.YtbahnpdgaoedmaaGreatDoorCO8
import Derived.Test.YtbahnpdgaoedmaaGreatDoorCO16
import Derived.Test.YtbahnpdgaoedmaaGreatDoorRows
import Derived.Test.YtbahnpdgaoedmaaGreatDoorCards
import Derived.Test.YtbahnpdgaoedmaaGreatDoorTie
import Derived.WalkKit
import Derived.ProofKit
import Derived.LaidMore
import Derived.OpenShut
import Derived.ShutString
import Derived.ChangeOld
import Derived.Below
import Derived.SizedLaws
import Derived.Stop.Joined
import Derived.LaidSub
import Derived.MakeChecks
import Derived.SevenTiedAt
import Derived.Lib.LaidTab
namespace Go.Proofs.YtbahnpdgaoedmaaGreatDoor.PMemoryExact
open Go.RowKit Go.Proofs.YtbahnpdgaoedmaaGreatDoorW.PrintWords Go.Proofs.YtbahnpdgaoedmaaGreatDoorW.PrintLast Go.Proofs.YtbahnpdgaoedmaaGreatDoorW.PrintMore
attribute [local go_sem] max2_int min2_int max_two min_two max_three min_three max_four min_four   -- for this text's walks alone
set_option linter.unusedVariables false
set_option linter.unusedSimpArgs false
/-! ### pentaglotref52_Large: function 8 -/
def pentaglotref52_Large.l0 : Nat → List (S34) → Int → Int → Option (Bool)
 | 0, _, _, _ => none
 | k + 1, x8, x9, x10 => if x10 < x9 then (if 0 ≤ x10 then (if x10 < (x8.length : Int) then (if (((rd_T34 x8 x10).f1).size : Int) > 50 then (some true) else (if (((rd_T34 x8 x10).f3).size : Int) > 4106 then (some true) else ((pentaglotref24_Small.f k ((rd_T34 x8 x10).f2.f0) ((rd_T34 x8 x10).f2.f1) ((rd_T34 x8 x10).f2.f2) ((rd_T34 x8 x10).f2.f3) ((rd_T34 x8 x10).f2.f4) ((rd_T34 x8 x10).f2.f5) 20).bind fun t257 => (if t257 = true then (pentaglotref52_Large.l0 k x8 x9 (wrap64 (x10 + 1))) else (some true))))) else (none)) else (none)) else (some false)
def pentaglotref52_Large.f (k : Nat) (l0 : List (S34)) : Option (Bool) := if (l0.length : Int) > 40 then (some true) else (pentaglotref52_Large.l0 k l0 (l0.length : Int) 0)
theorem pentaglotref52_Large.mono_l : ∀ k, (∀ y0 y1 y2, LeO (pentaglotref52_Large.l0 k y0 y1 y2) (pentaglotref52_Large.l0 (k + 1) y0 y1 y2))
 | 0 => fun _ _ _ r h => by simp [pentaglotref52_Large.l0] at h
 | k + 1 => by
  have ih0 := pentaglotref52_Large.mono_l k
  ·intro y0 y1 y2
   unfold pentaglotref52_Large.l0
   repeat' first
   | (with_reducible exact ih0 _ _ _)
   | (with_reducible exact pentaglotref24_Small.mono _ _ _ _ _ _ _ _)
   | (with_reducible exact LeO.refl _)
   | (with_reducible exact LeO.none _)
   | (with_reducible refine LeO.ite ?_ ?_)
   | (with_reducible refine LeO.bind ?_ (fun _ => ?_))
   | exact ih0 _ _ _
   | exact pentaglotref24_Small.mono _ _ _ _ _ _ _ _
   | exact LeO.none _
   | refine LeO.ite ?_ ?_
   | refine LeO.bind ?_ (fun _ => ?_)
theorem pentaglotref52_Large.mono : ∀ a0 k, LeO (pentaglotref52_Large.f k a0) (pentaglotref52_Large.f (k + 1) a0) := by
 intro a0 k
 have ih0 := pentaglotref52_Large.mono_l k
 unfold pentaglotref52_Large.f
 repeat' first
   | (with_reducible exact ih0 _ _ _)
   | (with_reducible exact pentaglotref24_Small.mono _ _ _ _ _ _ _ _)
   | (with_reducible exact LeO.refl _)
   | (with_reducible exact LeO.none _)
   | (with_reducible refine LeO.ite ?_ ?_)
   | (with_reducible refine LeO.bind ?_ (fun _ => ?_))
   | exact ih0 _ _ _
   | exact pentaglotref24_Small.mono _ _ _ _ _ _ _ _
   | exact LeO.none _
   | refine LeO.ite ?_ ?_
   | refine LeO.bind ?_ (fun _ => ?_)
set_option maxHeartbeats 8000000 in
set_option maxRecDepth 100000 in
theorem pentaglotref52_Large.calls (k : Nat) (A0 : Option Addr) (c0 : Nat) (l0 : List (S34)) (r : Bool) (w : World) (hr0 : Kd.C k34 w A0 l0.length l0) (hc0 : l0.length ≤ c0) (h : pentaglotref52_Large.f k l0 = some r) :
  Calls Tryz.prog 8 #[.slice A0 l0.length c0] w fun e w' => e = .returned (.bool r) ∧ Below w.heap.size w w' := by
 have hu34 := Tryz.underlying34
 have hu32 := Tryz.underlying32
 have HR0 := Aside0.mk hr0
 have HC0 := Aside0.mk hc0
 clear hr0 hc0
 have HB := Aside0.mk (Below.refl w.heap.size w)
 have H : (if (l0.length : Int) > 40 then (some true) else (pentaglotref52_Large.l0 k l0 (l0.length : Int) 0)) = some r := h
 clear h
 by_cases c2 : (l0.length : Int) > 40
 ·rw [if_pos c2] at H
  have c2b0 : decide (40 < (l0.length : Int)) = true := decide_eq_true c2
  have c2b1 : decide (40 < l0.length) = true := decide_eq_true (by omega)
  clear c2
  obtain rfl := Option.some.inj H
  go_enter Tryz.func8, Tryz.ntmps8
  go_wp2
  go_ret
  exact ⟨by first | rfl | (simp [errW_none, errW_some] <;> rfl) | (simp [*, errW_none, errW_some] <;> rfl), by repeat (first | (with_reducible first | exact HB.out | apply below_alloc | apply pw_below_drewN | apply below_drew1) | exact HB.out)⟩
 ·rw [if_neg c2] at H
  have c2b0 : decide (40 < (l0.length : Int)) = false := decide_eq_false c2
  have c2b1 : decide (40 < l0.length) = false := decide_eq_false (by omega)
  clear c2
  have H' := Aside0.mk H
  clear H
  go_enter Tryz.func8, Tryz.ntmps8
  go_wp2
  go_loopg [10] k (fun kq v10 w' => ∃ (x10_1 : Int), v10 = .int .i64 x10_1 ∧ Aside0 (pentaglotref52_Large.l0 kq l0 (l0.length : Int) x10_1 = some r) ∧ Aside0 (kq ≤ k) ∧ Aside0 (Below w.heap.size w w'))
  case atStart => exact ⟨(0), (by first | rfl | (simp; done) | (simp [*]; done)), H', ⟨Nat.le_refl _⟩, ⟨by repeat (first | (with_reducible first | exact HB.out | apply below_alloc | apply pw_below_drewN | apply below_drew1) | exact HB.out)⟩⟩
  case round =>
   clear H'
   try clear c2
   try clear c2b0
   try clear c2b1
   try clear p2
   obtain ⟨x10_1, rfl, HA, HK1, HB⟩ := hrel
   cases gk with
   | zero => exact absurd HA.out (by simp [pentaglotref52_Large.l0])
   | succ k1 =>
    have H := HA.out
    clear HA
    simp only [pentaglotref52_Large.l0] at H
    by_cases c3 : x10_1 < (l0.length : Int)
    ·rw [if_pos c3] at H
     have c3b0 : decide (x10_1 < (l0.length : Int)) = true := decide_eq_true c3
     clear c3
     by_cases c4 : 0 ≤ x10_1
     ·rw [if_pos c4] at H
      have c4b0 : decide (0 ≤ x10_1) = true := decide_eq_true c4
      clear c4
      by_cases c5 : x10_1 < (l0.length : Int)
      ·rw [if_pos c5] at H
       have c5b0 : decide (x10_1 < (l0.length : Int)) = true := decide_eq_true c5
       clear c5
       by_cases c6 : (((rd_T34 l0 x10_1).f1).size : Int) > 50
       ·rw [if_pos c6] at H
        have c6b0 : decide (50 < (((rd_T34 l0 x10_1).f1).size : Int)) = true := decide_eq_true c6
        have c6b1 : decide (50 < ((rd_T34 l0 x10_1).f1).size) = true := decide_eq_true (by omega)
        clear c6
        obtain rfl := Option.some.inj H
        have p255 : 0 ≤ (x10_1 : Int) := of_decide_eq_true (by first | (with_reducible assumption) | assumption)
        have q255 : x10_1 < (l0.length : Int) := of_decide_eq_true (by first | (with_reducible assumption) | assumption)
        obtain ⟨ad255, A255_4, c255_4, A255_7, c255_7, e255, hx255_0, hx255_1, hx255_2, hx255_3, hx255_4, hx255_5, hx255_6, hx255_7, hx255_8, hl255_4, hi255_4, hl255_7, hi255_7⟩ := at_T34 HR0.out x10_1 p255 q255
        cases e255
        replace hx255_0 := (HB.out.cell (World.block_lt_of_cell? w _ hx255_0)).trans hx255_0
        replace hx255_1 := (HB.out.cell (World.block_lt_of_cell? w _ hx255_1)).trans hx255_1
        replace hx255_2 := (HB.out.cell (World.block_lt_of_cell? w _ hx255_2)).trans hx255_2
        replace hx255_3 := (HB.out.cell (World.block_lt_of_cell? w _ hx255_3)).trans hx255_3
        replace hx255_4 := (HB.out.cell (World.block_lt_of_cell? w _ hx255_4)).trans hx255_4
        replace hx255_5 := (HB.out.cell (World.block_lt_of_cell? w _ hx255_5)).trans hx255_5
        replace hx255_6 := (HB.out.cell (World.block_lt_of_cell? w _ hx255_6)).trans hx255_6
        replace hx255_7 := (HB.out.cell (World.block_lt_of_cell? w _ hx255_7)).trans hx255_7
        replace hx255_8 := (HB.out.cell (World.block_lt_of_cell? w _ hx255_8)).trans hx255_8
        have HR255_4 := Aside0.mk hi255_4
        have HC255_4 := Aside0.mk hl255_4
        clear hi255_4 hl255_4
        have HR255_7 := Aside0.mk hi255_7
        have HC255_7 := Aside0.mk hl255_7
        clear hi255_7 hl255_7
        replace p255 := eq_true p255
        replace q255 := eq_true q255
        go_wp2_with (first | ((with_reducible refine gate_dst (N := 4) rfl ?_); (try (refine gate_guard (by rfl) ?_; dsimp only)); refine box_event ?hg (N := 4) ?hd (cs := #[.int .i64 0, .string (⟨#[]⟩ : ByteArray), .int .i64 0, .string (⟨#[]⟩ : ByteArray), .slice none 0 0, .int .i64 0, .int .i64 0, .slice none 0 0, .string (⟨#[]⟩ : ByteArray)]) (t := 34) ?hr ?_; (case hd => rfl); (case hg => rfl); (case hr => first | (go_simp; done) | (go_simp; rfl)); intro gb256 hg w7 hbox hb; have n0_ := Aside0.mk (below_step (by repeat (first | (with_reducible first | exact HB.out | apply below_alloc | apply pw_below_drewN | apply below_drew1) | exact HB.out)) hb); have n1_ := Aside0.mk (hbox); have n2_ := Aside0.mk ((by rw [hg]; exact (below_size (by repeat (first | (with_reducible first | exact HB.out | apply below_alloc | apply pw_below_drewN | apply below_drew1) | exact HB.out))) : w.heap.size ≤ gb256)); have n3_ := Aside0.mk ((by rw [hg]; exact (below_size (by repeat (first | (with_reducible first | exact HB.out | apply below_alloc | apply pw_below_drewN | apply below_drew1) | exact HB.out))) : w.heap.size ≤ gb256)); clear HB; have HB := n0_; have BK256 := n1_; have GW256 := n2_; have GE256 := n3_; clear n0_ n1_ n2_ n3_; clear hb hbox hg; have hcz8_0 : w7.cell? ⟨gb256, 0, none⟩ = some (.int .i64 0) := (blk_cell BK256.out 0).trans rfl; have hcz8_1 : w7.cell? ⟨gb256, 1, none⟩ = some (.string (⟨#[]⟩ : ByteArray)) := (blk_cell BK256.out 1).trans rfl; have hcz8_2 : w7.cell? ⟨gb256, 2, none⟩ = some (.int .i64 0) := (blk_cell BK256.out 2).trans rfl; have hcz8_3 : w7.cell? ⟨gb256, 3, none⟩ = some (.string (⟨#[]⟩ : ByteArray)) := (blk_cell BK256.out 3).trans rfl; have hcz8_4 : w7.cell? ⟨gb256, 4, none⟩ = some (.slice none 0 0) := (blk_cell BK256.out 4).trans rfl; have hcz8_5 : w7.cell? ⟨gb256, 5, none⟩ = some (.int .i64 0) := (blk_cell BK256.out 5).trans rfl; have hcz8_6 : w7.cell? ⟨gb256, 6, none⟩ = some (.int .i64 0) := (blk_cell BK256.out 6).trans rfl; have hcz8_7 : w7.cell? ⟨gb256, 7, none⟩ = some (.slice none 0 0) := (blk_cell BK256.out 7).trans rfl; have hcz8_8 : w7.cell? ⟨gb256, 8, none⟩ = some (.string (⟨#[]⟩ : ByteArray)) := (blk_cell BK256.out 8).trans rfl; have hfz8_0 := blk_frozen BK256.out 0; have hfz8_1 := blk_frozen BK256.out 1; have hfz8_2 := blk_frozen BK256.out 2; have hfz8_3 := blk_frozen BK256.out 3; have hfz8_4 := blk_frozen BK256.out 4; have hfz8_5 := blk_frozen BK256.out 5; have hfz8_6 := blk_frozen BK256.out 6; have hfz8_7 := blk_frozen BK256.out 7; have hfz8_8 := blk_frozen BK256.out 8))
        go_ret
        exact ⟨by first | rfl | (simp [errW_none, errW_some] <;> rfl) | (simp [*, errW_none, errW_some] <;> rfl), by repeat (first | (with_reducible first | exact HB.out | apply below_alloc | apply pw_below_drewN | apply below_drew1 | refine below_set ?_ GE256.out) | exact HB.out)⟩
       ·rw [if_neg c6] at H
        have c6b0 : decide (50 < (((rd_T34 l0 x10_1).f1).size : Int)) = false := decide_eq_false c6
        have c6b1 : decide (50 < ((rd_T34 l0 x10_1).f1).size) = false := decide_eq_false (by omega)
        clear c6
        by_cases c9 : (((rd_T34 l0 x10_1).f3).size : Int) > 4106
        ·rw [if_pos c9] at H
         have c9b0 : decide (4106 < (((rd_T34 l0 x10_1).f3).size : Int)) = true := decide_eq_true c9
         have c9b1 : decide (4106 < ((rd_T34 l0 x10_1).f3).size) = true := decide_eq_true (by omega)
         clear c9
         obtain rfl := Option.some.inj H
         have p255 : 0 ≤ (x10_1 : Int) := of_decide_eq_true (by first | (with_reducible assumption) | assumption)
         have q255 : x10_1 < (l0.length : Int) := of_decide_eq_true (by first | (with_reducible assumption) | assumption)
         obtain ⟨ad255, A255_4, c255_4, A255_7, c255_7, e255, hx255_0, hx255_1, hx255_2, hx255_3, hx255_4, hx255_5, hx255_6, hx255_7, hx255_8, hl255_4, hi255_4, hl255_7, hi255_7⟩ := at_T34 HR0.out x10_1 p255 q255
         cases e255
         replace hx255_0 := (HB.out.cell (World.block_lt_of_cell? w _ hx255_0)).trans hx255_0
         replace hx255_1 := (HB.out.cell (World.block_lt_of_cell? w _ hx255_1)).trans hx255_1
         replace hx255_2 := (HB.out.cell (World.block_lt_of_cell? w _ hx255_2)).trans hx255_2
         replace hx255_3 := (HB.out.cell (World.block_lt_of_cell? w _ hx255_3)).trans hx255_3
         replace hx255_4 := (HB.out.cell (World.block_lt_of_cell? w _ hx255_4)).trans hx255_4
         replace hx255_5 := (HB.out.cell (World.block_lt_of_cell? w _ hx255_5)).trans hx255_5
         replace hx255_6 := (HB.out.cell (World.block_lt_of_cell? w _ hx255_6)).trans hx255_6
         replace hx255_7 := (HB.out.cell (World.block_lt_of_cell? w _ hx255_7)).trans hx255_7
         replace hx255_8 := (HB.out.cell (World.block_lt_of_cell? w _ hx255_8)).trans hx255_8
         have HR255_4 := Aside0.mk hi255_4
         have HC255_4 := Aside0.mk hl255_4
         clear hi255_4 hl255_4
         have HR255_7 := Aside0.mk hi255_7
         have HC255_7 := Aside0.mk hl255_7
         clear hi255_7 hl255_7
         replace p255 := eq_true p255
         replace q255 := eq_true q255
         go_wp2_with (first | ((with_reducible refine gate_dst (N := 4) rfl ?_); (try (refine gate_guard (by rfl) ?_; dsimp only)); refine box_event ?hg (N := 4) ?hd (cs := #[.int .i64 0, .string (⟨#[]⟩ : ByteArray), .int .i64 0, .string (⟨#[]⟩ : ByteArray), .slice none 0 0, .int .i64 0, .int .i64 0, .slice none 0 0, .string (⟨#[]⟩ : ByteArray)]) (t := 34) ?hr ?_; (case hd => rfl); (case hg => rfl); (case hr => first | (go_simp; done) | (go_simp; rfl)); intro gb256 hg w10 hbox hb; have n0_ := Aside0.mk (below_step (by repeat (first | (with_reducible first | exact HB.out | apply below_alloc | apply pw_below_drewN | apply below_drew1) | exact HB.out)) hb); have n1_ := Aside0.mk (hbox); have n2_ := Aside0.mk ((by rw [hg]; exact (below_size (by repeat (first | (with_reducible first | exact HB.out | apply below_alloc | apply pw_below_drewN | apply below_drew1) | exact HB.out))) : w.heap.size ≤ gb256)); have n3_ := Aside0.mk ((by rw [hg]; exact (below_size (by repeat (first | (with_reducible first | exact HB.out | apply below_alloc | apply pw_below_drewN | apply below_drew1) | exact HB.out))) : w.heap.size ≤ gb256)); clear HB; have HB := n0_; have BK256 := n1_; have GW256 := n2_; have GE256 := n3_; clear n0_ n1_ n2_ n3_; clear hb hbox hg; have hcz11_0 : w10.cell? ⟨gb256, 0, none⟩ = some (.int .i64 0) := (blk_cell BK256.out 0).trans rfl; have hcz11_1 : w10.cell? ⟨gb256, 1, none⟩ = some (.string (⟨#[]⟩ : ByteArray)) := (blk_cell BK256.out 1).trans rfl; have hcz11_2 : w10.cell? ⟨gb256, 2, none⟩ = some (.int .i64 0) := (blk_cell BK256.out 2).trans rfl; have hcz11_3 : w10.cell? ⟨gb256, 3, none⟩ = some (.string (⟨#[]⟩ : ByteArray)) := (blk_cell BK256.out 3).trans rfl; have hcz11_4 : w10.cell? ⟨gb256, 4, none⟩ = some (.slice none 0 0) := (blk_cell BK256.out 4).trans rfl; have hcz11_5 : w10.cell? ⟨gb256, 5, none⟩ = some (.int .i64 0) := (blk_cell BK256.out 5).trans rfl; have hcz11_6 : w10.cell? ⟨gb256, 6, none⟩ = some (.int .i64 0) := (blk_cell BK256.out 6).trans rfl; have hcz11_7 : w10.cell? ⟨gb256, 7, none⟩ = some (.slice none 0 0) := (blk_cell BK256.out 7).trans rfl; have hcz11_8 : w10.cell? ⟨gb256, 8, none⟩ = some (.string (⟨#[]⟩ : ByteArray)) := (blk_cell BK256.out 8).trans rfl; have hfz11_0 := blk_frozen BK256.out 0; have hfz11_1 := blk_frozen BK256.out 1; have hfz11_2 := blk_frozen BK256.out 2; have hfz11_3 := blk_frozen BK256.out 3; have hfz11_4 := blk_frozen BK256.out 4; have hfz11_5 := blk_frozen BK256.out 5; have hfz11_6 := blk_frozen BK256.out 6; have hfz11_7 := blk_frozen BK256.out 7; have hfz11_8 := blk_frozen BK256.out 8))
         go_ret
         exact ⟨by first | rfl | (simp [errW_none, errW_some] <;> rfl) | (simp [*, errW_none, errW_some] <;> rfl), by repeat (first | (with_reducible first | exact HB.out | apply below_alloc | apply pw_below_drewN | apply below_drew1 | refine below_set ?_ GE256.out) | exact HB.out)⟩
        ·rw [if_neg c9] at H
         have c9b0 : decide (4106 < (((rd_T34 l0 x10_1).f3).size : Int)) = false := decide_eq_false c9
         have c9b1 : decide (4106 < ((rd_T34 l0 x10_1).f3).size) = false := decide_eq_false (by omega)
         clear c9
         replace H := Option.bind_eq_some_iff.mp H
         obtain ⟨t257, A120, H⟩ := H
         replace H : (if t257 = true then (pentaglotref52_Large.l0 k1 l0 (l0.length : Int) (wrap64 (x10_1 + 1))) else (some true)) = some r := H
         have A12 := Aside0.mk A120
         clear A120
         by_cases c13 : t257 = true
         ·subst c13
          have H1 : (pentaglotref52_Large.l0 k1 l0 (l0.length : Int) (wrap64 (x10_1 + 1))) = some r := by rw [if_pos rfl] at H; exact H
          clear H
          have H := H1
          clear H1
          have H' := Aside0.mk H
          clear H
          have p255 : 0 ≤ (x10_1 : Int) := of_decide_eq_true (by first | (with_reducible assumption) | assumption)
          have q255 : x10_1 < (l0.length : Int) := of_decide_eq_true (by first | (with_reducible assumption) | assumption)
          obtain ⟨ad255, A255_4, c255_4, A255_7, c255_7, e255, hx255_0, hx255_1, hx255_2, hx255_3, hx255_4, hx255_5, hx255_6, hx255_7, hx255_8, hl255_4, hi255_4, hl255_7, hi255_7⟩ := at_T34 HR0.out x10_1 p255 q255
          cases e255
          replace hx255_0 := (HB.out.cell (World.block_lt_of_cell? w _ hx255_0)).trans hx255_0
          replace hx255_1 := (HB.out.cell (World.block_lt_of_cell? w _ hx255_1)).trans hx255_1
          replace hx255_2 := (HB.out.cell (World.block_lt_of_cell? w _ hx255_2)).trans hx255_2
          replace hx255_3 := (HB.out.cell (World.block_lt_of_cell? w _ hx255_3)).trans hx255_3
          replace hx255_4 := (HB.out.cell (World.block_lt_of_cell? w _ hx255_4)).trans hx255_4
          replace hx255_5 := (HB.out.cell (World.block_lt_of_cell? w _ hx255_5)).trans hx255_5
          replace hx255_6 := (HB.out.cell (World.block_lt_of_cell? w _ hx255_6)).trans hx255_6
          replace hx255_7 := (HB.out.cell (World.block_lt_of_cell? w _ hx255_7)).trans hx255_7
          replace hx255_8 := (HB.out.cell (World.block_lt_of_cell? w _ hx255_8)).trans hx255_8
          have HR255_4 := Aside0.mk hi255_4
          have HC255_4 := Aside0.mk hl255_4
          clear hi255_4 hl255_4
          have HR255_7 := Aside0.mk hi255_7
          have HC255_7 := Aside0.mk hl255_7
          clear hi255_7 hl255_7
          replace p255 := eq_true p255
          replace q255 := eq_true q255
          go_wp2_with (first | ((with_reducible refine gate_dst (N := 4) rfl ?_); (try (refine gate_guard (by rfl) ?_; dsimp only)); refine box_event ?hg (N := 4) ?hd (cs := #[.int .i64 0, .string (⟨#[]⟩ : ByteArray), .int .i64 0, .string (⟨#[]⟩ : ByteArray), .slice none 0 0, .int .i64 0, .int .i64 0, .slice none 0 0, .string (⟨#[]⟩ : ByteArray)]) (t := 34) ?hr ?_; (case hd => rfl); (case hg => rfl); (case hr => first | (go_simp; done) | (go_simp; rfl)); intro gb256 hg w14 hbox hb; have n0_ := Aside0.mk (below_step (by repeat (first | (with_reducible first | exact HB.out | apply below_alloc | apply pw_below_drewN | apply below_drew1) | exact HB.out)) hb); have n1_ := Aside0.mk (hbox); have n2_ := Aside0.mk ((by rw [hg]; exact (below_size (by repeat (first | (with_reducible first | exact HB.out | apply below_alloc | apply pw_below_drewN | apply below_drew1) | exact HB.out))) : w.heap.size ≤ gb256)); have n3_ := Aside0.mk ((by rw [hg]; exact (below_size (by repeat (first | (with_reducible first | exact HB.out | apply below_alloc | apply pw_below_drewN | apply below_drew1) | exact HB.out))) : w.heap.size ≤ gb256)); clear HB; have HB := n0_; have BK256 := n1_; have GW256 := n2_; have GE256 := n3_; clear n0_ n1_ n2_ n3_; clear hb hbox hg; have hcz15_0 : w14.cell? ⟨gb256, 0, none⟩ = some (.int .i64 0) := (blk_cell BK256.out 0).trans rfl; have hcz15_1 : w14.cell? ⟨gb256, 1, none⟩ = some (.string (⟨#[]⟩ : ByteArray)) := (blk_cell BK256.out 1).trans rfl; have hcz15_2 : w14.cell? ⟨gb256, 2, none⟩ = some (.int .i64 0) := (blk_cell BK256.out 2).trans rfl; have hcz15_3 : w14.cell? ⟨gb256, 3, none⟩ = some (.string (⟨#[]⟩ : ByteArray)) := (blk_cell BK256.out 3).trans rfl; have hcz15_4 : w14.cell? ⟨gb256, 4, none⟩ = some (.slice none 0 0) := (blk_cell BK256.out 4).trans rfl; have hcz15_5 : w14.cell? ⟨gb256, 5, none⟩ = some (.int .i64 0) := (blk_cell BK256.out 5).trans rfl; have hcz15_6 : w14.cell? ⟨gb256, 6, none⟩ = some (.int .i64 0) := (blk_cell BK256.out 6).trans rfl; have hcz15_7 : w14.cell? ⟨gb256, 7, none⟩ = some (.slice none 0 0) := (blk_cell BK256.out 7).trans rfl; have hcz15_8 : w14.cell? ⟨gb256, 8, none⟩ = some (.string (⟨#[]⟩ : ByteArray)) := (blk_cell BK256.out 8).trans rfl; have hfz15_0 := blk_frozen BK256.out 0; have hfz15_1 := blk_frozen BK256.out 1; have hfz15_2 := blk_frozen BK256.out 2; have hfz15_3 := blk_frozen BK256.out 3; have hfz15_4 := blk_frozen BK256.out 4; have hfz15_5 := blk_frozen BK256.out 5; have hfz15_6 := blk_frozen BK256.out 6; have hfz15_7 := blk_frozen BK256.out 7; have hfz15_8 := blk_frozen BK256.out 8) | (go_at_call 18; (with_reducible refine (pentaglotref24_Small.calls k1 ((rd_T34 l0 x10_1).f2.f0) ((rd_T34 l0 x10_1).f2.f1) _ _ ((rd_T34 l0 x10_1).f2.f2) ((rd_T34 l0 x10_1).f2.f3) ((rd_T34 l0 x10_1).f2.f4) _ _ ((rd_T34 l0 x10_1).f2.f5) 20 true _ ?side1 ?side2 ?side3 ?side4 A12.out).mono ?_); (case side1 => exact Kd.C_below HR255_4.out (by repeat (first | (with_reducible first | exact HB.out | apply below_alloc | apply pw_below_drewN | apply below_drew1 | refine below_set ?_ GE256.out) | exact HB.out))); (case side2 => exact HC255_4.out); (case side3 => exact Kd.C_below HR255_7.out (by repeat (first | (with_reducible first | exact HB.out | apply below_alloc | apply pw_below_drewN | apply below_drew1 | refine below_set ?_ GE256.out) | exact HB.out))); (case side4 => exact HC255_7.out); rintro e w16 ⟨rfl, hb⟩; have n0_ := Aside0.mk (blk_below (g := gb256) (o := .cells #[.int .i64 ((rd_T34 l0 x10_1).f0), .string ((rd_T34 l0 x10_1).f1), .int .i64 ((rd_T34 l0 x10_1).f2.f0), .string ((rd_T34 l0 x10_1).f2.f1), .slice A255_4 ((rd_T34 l0 x10_1).f2.f2).length c255_4, .int .i64 ((rd_T34 l0 x10_1).f2.f3), .int .i64 ((rd_T34 l0 x10_1).f2.f4), .slice A255_7 ((rd_T34 l0 x10_1).f2.f5).length c255_7, .string ((rd_T34 l0 x10_1).f3)] 34 (0, 0)) (by (with_reducible repeat (first | refine blk_drewN ?_ _ | refine blk_drew ?_ | refine blk_alloc ?_ _)); refine blk_put (cs := #[.int .i64 ((rd_T34 l0 x10_1).f0), .string ((rd_T34 l0 x10_1).f1), .int .i64 ((rd_T34 l0 x10_1).f2.f0), .string ((rd_T34 l0 x10_1).f2.f1), .slice A255_4 ((rd_T34 l0 x10_1).f2.f2).length c255_4, .int .i64 ((rd_T34 l0 x10_1).f2.f3), .int .i64 ((rd_T34 l0 x10_1).f2.f4), .slice A255_7 ((rd_T34 l0 x10_1).f2.f5).length c255_7, .string (⟨#[]⟩ : ByteArray)]) ?_ 8 _ rfl; (with_reducible repeat (first | refine blk_drewN ?_ _ | refine blk_drew ?_ | refine blk_alloc ?_ _)); refine blk_put (cs := #[.int .i64 ((rd_T34 l0 x10_1).f0), .string ((rd_T34 l0 x10_1).f1), .int .i64 ((rd_T34 l0 x10_1).f2.f0), .string ((rd_T34 l0 x10_1).f2.f1), .slice A255_4 ((rd_T34 l0 x10_1).f2.f2).length c255_4, .int .i64 ((rd_T34 l0 x10_1).f2.f3), .int .i64 ((rd_T34 l0 x10_1).f2.f4), .slice none 0 0, .string (⟨#[]⟩ : ByteArray)]) ?_ 7 _ rfl; (with_reducible repeat (first | refine blk_drewN ?_ _ | refine blk_drew ?_ | refine blk_alloc ?_ _)); refine blk_put (cs := #[.int .i64 ((rd_T34 l0 x10_1).f0), .string ((rd_T34 l0 x10_1).f1), .int .i64 ((rd_T34 l0 x10_1).f2.f0), .string ((rd_T34 l0 x10_1).f2.f1), .slice A255_4 ((rd_T34 l0 x10_1).f2.f2).length c255_4, .int .i64 ((rd_T34 l0 x10_1).f2.f3), .int .i64 0, .slice none 0 0, .string (⟨#[]⟩ : ByteArray)]) ?_ 6 _ rfl; (with_reducible repeat (first | refine blk_drewN ?_ _ | refine blk_drew ?_ | refine blk_alloc ?_ _)); refine blk_put (cs := #[.int .i64 ((rd_T34 l0 x10_1).f0), .string ((rd_T34 l0 x10_1).f1), .int .i64 ((rd_T34 l0 x10_1).f2.f0), .string ((rd_T34 l0 x10_1).f2.f1), .slice A255_4 ((rd_T34 l0 x10_1).f2.f2).length c255_4, .int .i64 0, .int .i64 0, .slice none 0 0, .string (⟨#[]⟩ : ByteArray)]) ?_ 5 _ rfl; (with_reducible repeat (first | refine blk_drewN ?_ _ | refine blk_drew ?_ | refine blk_alloc ?_ _)); refine blk_put (cs := #[.int .i64 ((rd_T34 l0 x10_1).f0), .string ((rd_T34 l0 x10_1).f1), .int .i64 ((rd_T34 l0 x10_1).f2.f0), .string ((rd_T34 l0 x10_1).f2.f1), .slice none 0 0, .int .i64 0, .int .i64 0, .slice none 0 0, .string (⟨#[]⟩ : ByteArray)]) ?_ 4 _ rfl; (with_reducible repeat (first | refine blk_drewN ?_ _ | refine blk_drew ?_ | refine blk_alloc ?_ _)); refine blk_put (cs := #[.int .i64 ((rd_T34 l0 x10_1).f0), .string ((rd_T34 l0 x10_1).f1), .int .i64 ((rd_T34 l0 x10_1).f2.f0), .string (⟨#[]⟩ : ByteArray), .slice none 0 0, .int .i64 0, .int .i64 0, .slice none 0 0, .string (⟨#[]⟩ : ByteArray)]) ?_ 3 _ rfl; (with_reducible repeat (first | refine blk_drewN ?_ _ | refine blk_drew ?_ | refine blk_alloc ?_ _)); refine blk_put (cs := #[.int .i64 ((rd_T34 l0 x10_1).f0), .string ((rd_T34 l0 x10_1).f1), .int .i64 0, .string (⟨#[]⟩ : ByteArray), .slice none 0 0, .int .i64 0, .int .i64 0, .slice none 0 0, .string (⟨#[]⟩ : ByteArray)]) ?_ 2 _ rfl; (with_reducible repeat (first | refine blk_drewN ?_ _ | refine blk_drew ?_ | refine blk_alloc ?_ _)); refine blk_put (cs := #[.int .i64 ((rd_T34 l0 x10_1).f0), .string (⟨#[]⟩ : ByteArray), .int .i64 0, .string (⟨#[]⟩ : ByteArray), .slice none 0 0, .int .i64 0, .int .i64 0, .slice none 0 0, .string (⟨#[]⟩ : ByteArray)]) ?_ 1 _ rfl; (with_reducible repeat (first | refine blk_drewN ?_ _ | refine blk_drew ?_ | refine blk_alloc ?_ _)); refine blk_put (cs := #[.int .i64 0, .string (⟨#[]⟩ : ByteArray), .int .i64 0, .string (⟨#[]⟩ : ByteArray), .slice none 0 0, .int .i64 0, .int .i64 0, .slice none 0 0, .string (⟨#[]⟩ : ByteArray)]) ?_ 0 _ rfl; (with_reducible repeat (first | refine blk_drewN ?_ _ | refine blk_drew ?_ | refine blk_alloc ?_ _)); exact BK256.out) hb); have n1_ := Aside0.mk (below_step (by repeat (first | (with_reducible first | exact HB.out | apply below_alloc | apply pw_below_drewN | apply below_drew1 | refine below_set ?_ GE256.out) | exact HB.out)) hb); clear BK256; clear HB; have BK256 := n0_; have HB := n1_; clear n0_ n1_; (try clear hb); (try clear hb2); (try clear hk); (try clear hi)))
          go_roundg k1
          case measure => have := HK1.out; omega
          case rel => exact ⟨(wrap64 (x10_1 + 1)), (by first | rfl | (simp; done) | (simp [*]; done)), H', ⟨by have := HK1.out; omega⟩, ⟨by repeat (first | (with_reducible first | exact HB.out | apply below_alloc | apply pw_below_drewN | apply below_drew1 | refine below_set ?_ GE256.out) | exact HB.out)⟩⟩
         ·replace c13 := Bool.eq_false_iff.mpr c13
          subst c13
          have H1 : (some true) = some r := by rw [if_neg (show ¬ (false = true) by decide)] at H; exact H
          clear H
          have H := H1
          clear H1
          obtain rfl := Option.some.inj H
          have p255 : 0 ≤ (x10_1 : Int) := of_decide_eq_true (by first | (with_reducible assumption) | assumption)
          have q255 : x10_1 < (l0.length : Int) := of_decide_eq_true (by first | (with_reducible assumption) | assumption)
          obtain ⟨ad255, A255_4, c255_4, A255_7, c255_7, e255, hx255_0, hx255_1, hx255_2, hx255_3, hx255_4, hx255_5, hx255_6, hx255_7, hx255_8, hl255_4, hi255_4, hl255_7, hi255_7⟩ := at_T34 HR0.out x10_1 p255 q255
          cases e255
          replace hx255_0 := (HB.out.cell (World.block_lt_of_cell? w _ hx255_0)).trans hx255_0
          replace hx255_1 := (HB.out.cell (World.block_lt_of_cell? w _ hx255_1)).trans hx255_1
          replace hx255_2 := (HB.out.cell (World.block_lt_of_cell? w _ hx255_2)).trans hx255_2
          replace hx255_3 := (HB.out.cell (World.block_lt_of_cell? w _ hx255_3)).trans hx255_3
          replace hx255_4 := (HB.out.cell (World.block_lt_of_cell? w _ hx255_4)).trans hx255_4
          replace hx255_5 := (HB.out.cell (World.block_lt_of_cell? w _ hx255_5)).trans hx255_5
          replace hx255_6 := (HB.out.cell (World.block_lt_of_cell? w _ hx255_6)).trans hx255_6
          replace hx255_7 := (HB.out.cell (World.block_lt_of_cell? w _ hx255_7)).trans hx255_7
          replace hx255_8 := (HB.out.cell (World.block_lt_of_cell? w _ hx255_8)).trans hx255_8
          have HR255_4 := Aside0.mk hi255_4
          have HC255_4 := Aside0.mk hl255_4
          clear hi255_4 hl255_4
          have HR255_7 := Aside0.mk hi255_7
          have HC255_7 := Aside0.mk hl255_7
          clear hi255_7 hl255_7
          replace p255 := eq_true p255
          replace q255 := eq_true q255
          go_wp2_with (first | ((with_reducible refine gate_dst (N := 4) rfl ?_); (try (refine gate_guard (by rfl) ?_; dsimp only)); refine box_event ?hg (N := 4) ?hd (cs := #[.int .i64 0, .string (⟨#[]⟩ : ByteArray), .int .i64 0, .string (⟨#[]⟩ : ByteArray), .slice none 0 0, .int .i64 0, .int .i64 0, .slice none 0 0, .string (⟨#[]⟩ : ByteArray)]) (t := 34) ?hr ?_; (case hd => rfl); (case hg => rfl); (case hr => first | (go_simp; done) | (go_simp; rfl)); intro gb256 hg w17 hbox hb; have n0_ := Aside0.mk (below_step (by repeat (first | (with_reducible first | exact HB.out | apply below_alloc | apply pw_below_drewN | apply below_drew1) | exact HB.out)) hb); have n1_ := Aside0.mk (hbox); have n2_ := Aside0.mk ((by rw [hg]; exact (below_size (by repeat (first | (with_reducible first | exact HB.out | apply below_alloc | apply pw_below_drewN | apply below_drew1) | exact HB.out))) : w.heap.size ≤ gb256)); have n3_ := Aside0.mk ((by rw [hg]; exact (below_size (by repeat (first | (with_reducible first | exact HB.out | apply below_alloc | apply pw_below_drewN | apply below_drew1) | exact HB.out))) : w.heap.size ≤ gb256)); clear HB; have HB := n0_; have BK256 := n1_; have GW256 := n2_; have GE256 := n3_; clear n0_ n1_ n2_ n3_; clear hb hbox hg; have hcz18_0 : w17.cell? ⟨gb256, 0, none⟩ = some (.int .i64 0) := (blk_cell BK256.out 0).trans rfl; have hcz18_1 : w17.cell? ⟨gb256, 1, none⟩ = some (.string (⟨#[]⟩ : ByteArray)) := (blk_cell BK256.out 1).trans rfl; have hcz18_2 : w17.cell? ⟨gb256, 2, none⟩ = some (.int .i64 0) := (blk_cell BK256.out 2).trans rfl; have hcz18_3 : w17.cell? ⟨gb256, 3, none⟩ = some (.string (⟨#[]⟩ : ByteArray)) := (blk_cell BK256.out 3).trans rfl; have hcz18_4 : w17.cell? ⟨gb256, 4, none⟩ = some (.slice none 0 0) := (blk_cell BK256.out 4).trans rfl; have hcz18_5 : w17.cell? ⟨gb256, 5, none⟩ = some (.int .i64 0) := (blk_cell BK256.out 5).trans rfl; have hcz18_6 : w17.cell? ⟨gb256, 6, none⟩ = some (.int .i64 0) := (blk_cell BK256.out 6).trans rfl; have hcz18_7 : w17.cell? ⟨gb256, 7, none⟩ = some (.slice none 0 0) := (blk_cell BK256.out 7).trans rfl; have hcz18_8 : w17.cell? ⟨gb256, 8, none⟩ = some (.string (⟨#[]⟩ : ByteArray)) := (blk_cell BK256.out 8).trans rfl; have hfz18_0 := blk_frozen BK256.out 0; have hfz18_1 := blk_frozen BK256.out 1; have hfz18_2 := blk_frozen BK256.out 2; have hfz18_3 := blk_frozen BK256.out 3; have hfz18_4 := blk_frozen BK256.out 4; have hfz18_5 := blk_frozen BK256.out 5; have hfz18_6 := blk_frozen BK256.out 6; have hfz18_7 := blk_frozen BK256.out 7; have hfz18_8 := blk_frozen BK256.out 8) | (go_at_call 18; (with_reducible refine (pentaglotref24_Small.calls k1 ((rd_T34 l0 x10_1).f2.f0) ((rd_T34 l0 x10_1).f2.f1) _ _ ((rd_T34 l0 x10_1).f2.f2) ((rd_T34 l0 x10_1).f2.f3) ((rd_T34 l0 x10_1).f2.f4) _ _ ((rd_T34 l0 x10_1).f2.f5) 20 false _ ?side1 ?side2 ?side3 ?side4 A12.out).mono ?_); (case side1 => exact Kd.C_below HR255_4.out (by repeat (first | (with_reducible first | exact HB.out | apply below_alloc | apply pw_below_drewN | apply below_drew1 | refine below_set ?_ GE256.out) | exact HB.out))); (case side2 => exact HC255_4.out); (case side3 => exact Kd.C_below HR255_7.out (by repeat (first | (with_reducible first | exact HB.out | apply below_alloc | apply pw_below_drewN | apply below_drew1 | refine below_set ?_ GE256.out) | exact HB.out))); (case side4 => exact HC255_7.out); rintro e w19 ⟨rfl, hb⟩; have n0_ := Aside0.mk (blk_below (g := gb256) (o := .cells #[.int .i64 ((rd_T34 l0 x10_1).f0), .string ((rd_T34 l0 x10_1).f1), .int .i64 ((rd_T34 l0 x10_1).f2.f0), .string ((rd_T34 l0 x10_1).f2.f1), .slice A255_4 ((rd_T34 l0 x10_1).f2.f2).length c255_4, .int .i64 ((rd_T34 l0 x10_1).f2.f3), .int .i64 ((rd_T34 l0 x10_1).f2.f4), .slice A255_7 ((rd_T34 l0 x10_1).f2.f5).length c255_7, .string ((rd_T34 l0 x10_1).f3)] 34 (0, 0)) (by (with_reducible repeat (first | refine blk_drewN ?_ _ | refine blk_drew ?_ | refine blk_alloc ?_ _)); refine blk_put (cs := #[.int .i64 ((rd_T34 l0 x10_1).f0), .string ((rd_T34 l0 x10_1).f1), .int .i64 ((rd_T34 l0 x10_1).f2.f0), .string ((rd_T34 l0 x10_1).f2.f1), .slice A255_4 ((rd_T34 l0 x10_1).f2.f2).length c255_4, .int .i64 ((rd_T34 l0 x10_1).f2.f3), .int .i64 ((rd_T34 l0 x10_1).f2.f4), .slice A255_7 ((rd_T34 l0 x10_1).f2.f5).length c255_7, .string (⟨#[]⟩ : ByteArray)]) ?_ 8 _ rfl; (with_reducible repeat (first | refine blk_drewN ?_ _ | refine blk_drew ?_ | refine blk_alloc ?_ _)); refine blk_put (cs := #[.int .i64 ((rd_T34 l0 x10_1).f0), .string ((rd_T34 l0 x10_1).f1), .int .i64 ((rd_T34 l0 x10_1).f2.f0), .string ((rd_T34 l0 x10_1).f2.f1), .slice A255_4 ((rd_T34 l0 x10_1).f2.f2).length c255_4, .int .i64 ((rd_T34 l0 x10_1).f2.f3), .int .i64 ((rd_T34 l0 x10_1).f2.f4), .slice none 0 0, .string (⟨#[]⟩ : ByteArray)]) ?_ 7 _ rfl; (with_reducible repeat (first | refine blk_drewN ?_ _ | refine blk_drew ?_ | refine blk_alloc ?_ _)); refine blk_put (cs := #[.int .i64 ((rd_T34 l0 x10_1).f0), .string ((rd_T34 l0 x10_1).f1), .int .i64 ((rd_T34 l0 x10_1).f2.f0), .string ((rd_T34 l0 x10_1).f2.f1), .slice A255_4 ((rd_T34 l0 x10_1).f2.f2).length c255_4, .int .i64 ((rd_T34 l0 x10_1).f2.f3), .int .i64 0, .slice none 0 0, .string (⟨#[]⟩ : ByteArray)]) ?_ 6 _ rfl; (with_reducible repeat (first | refine blk_drewN ?_ _ | refine blk_drew ?_ | refine blk_alloc ?_ _)); refine blk_put (cs := #[.int .i64 ((rd_T34 l0 x10_1).f0), .string ((rd_T34 l0 x10_1).f1), .int .i64 ((rd_T34 l0 x10_1).f2.f0), .string ((rd_T34 l0 x10_1).f2.f1), .slice A255_4 ((rd_T34 l0 x10_1).f2.f2).length c255_4, .int .i64 0, .int .i64 0, .slice none 0 0, .string (⟨#[]⟩ : ByteArray)]) ?_ 5 _ rfl; (with_reducible repeat (first | refine blk_drewN ?_ _ | refine blk_drew ?_ | refine blk_alloc ?_ _)); refine blk_put (cs := #[.int .i64 ((rd_T34 l0 x10_1).f0), .string ((rd_T34 l0 x10_1).f1), .int .i64 ((rd_T34 l0 x10_1).f2.f0), .string ((rd_T34 l0 x10_1).f2.f1), .slice none 0 0, .int .i64 0, .int .i64 0, .slice none 0 0, .string (⟨#[]⟩ : ByteArray)]) ?_ 4 _ rfl; (with_reducible repeat (first | refine blk_drewN ?_ _ | refine blk_drew ?_ | refine blk_alloc ?_ _)); refine blk_put (cs := #[.int .i64 ((rd_T34 l0 x10_1).f0), .string ((rd_T34 l0 x10_1).f1), .int .i64 ((rd_T34 l0 x10_1).f2.f0), .string (⟨#[]⟩ : ByteArray), .slice none 0 0, .int .i64 0, .int .i64 0, .slice none 0 0, .string (⟨#[]⟩ : ByteArray)]) ?_ 3 _ rfl; (with_reducible repeat (first | refine blk_drewN ?_ _ | refine blk_drew ?_ | refine blk_alloc ?_ _)); refine blk_put (cs := #[.int .i64 ((rd_T34 l0 x10_1).f0), .string ((rd_T34 l0 x10_1).f1), .int .i64 0, .string (⟨#[]⟩ : ByteArray), .slice none 0 0, .int .i64 0, .int .i64 0, .slice none 0 0, .string (⟨#[]⟩ : ByteArray)]) ?_ 2 _ rfl; (with_reducible repeat (first | refine blk_drewN ?_ _ | refine blk_drew ?_ | refine blk_alloc ?_ _)); refine blk_put (cs := #[.int .i64 ((rd_T34 l0 x10_1).f0), .string (⟨#[]⟩ : ByteArray), .int .i64 0, .string (⟨#[]⟩ : ByteArray), .slice none 0 0, .int .i64 0, .int .i64 0, .slice none 0 0, .string (⟨#[]⟩ : ByteArray)]) ?_ 1 _ rfl; (with_reducible repeat (first | refine blk_drewN ?_ _ | refine blk_drew ?_ | refine blk_alloc ?_ _)); refine blk_put (cs := #[.int .i64 0, .string (⟨#[]⟩ : ByteArray), .int .i64 0, .string (⟨#[]⟩ : ByteArray), .slice none 0 0, .int .i64 0, .int .i64 0, .slice none 0 0, .string (⟨#[]⟩ : ByteArray)]) ?_ 0 _ rfl; (with_reducible repeat (first | refine blk_drewN ?_ _ | refine blk_drew ?_ | refine blk_alloc ?_ _)); exact BK256.out) hb); have n1_ := Aside0.mk (below_step (by repeat (first | (with_reducible first | exact HB.out | apply below_alloc | apply pw_below_drewN | apply below_drew1 | refine below_set ?_ GE256.out) | exact HB.out)) hb); clear BK256; clear HB; have BK256 := n0_; have HB := n1_; clear n0_ n1_; (try clear hb); (try clear hb2); (try clear hk); (try clear hi)))
          go_ret
          exact ⟨by first | rfl | (simp [errW_none, errW_some] <;> rfl) | (simp [*, errW_none, errW_some] <;> rfl), by repeat (first | (with_reducible first | exact HB.out | apply below_alloc | apply pw_below_drewN | apply below_drew1 | refine below_set ?_ GE256.out) | exact HB.out)⟩
      ·rw [if_neg c5] at H
       exact absurd H (by simp)
     ·rw [if_neg c4] at H
      exact absurd H (by simp)
    ·rw [if_neg c3] at H
     have c3b0 : decide (x10_1 < (l0.length : Int)) = false := decide_eq_false c3
     clear c3
     obtain rfl := Option.some.inj H
     go_wp2
     go_ret
     exact ⟨by first | rfl | (simp [errW_none, errW_some] <;> rfl) | (simp [*, errW_none, errW_some] <;> rfl), by repeat (first | (with_reducible first | exact HB.out | apply below_alloc | apply pw_below_drewN | apply below_drew1) | exact HB.out)⟩
end Go.Proofs.YtbahnpdgaoedmaaGreatDoor.PMemoryExact
namespace Go.Proofs.YtbahnpdgaoedmaaGreatDoor.Mm
open Go.RowKit Go.Proofs.YtbahnpdgaoedmaaGreatDoorW.PrintWords Go.Proofs.YtbahnpdgaoedmaaGreatDoor.PMemoryExact Go.Proofs.YtbahnpdgaoedmaaGreatDoor.Rq
set_option linter.unusedSimpArgs false
set_option linter.unusedVariables false
/-- Short names and few references, at every node. -/
structure Sn (x : S32) : Prop where
 name : x.f1.size ≤ 100
 refs : x.f2.length ≤ 10
 ref : ∀ r ∈ x.f2, r.f2.size ≤ 100
mutual
def Sh : S32 → Prop
 | ⟨o, n, a, f, t, k⟩ => Sn ⟨o, n, a, f, t, []⟩ ∧ Shs k
def Shs : List S32 → Prop
 | [] => True
 | x :: r => Sh x ∧ Shs r
end
theorem shs_all : ∀ {l : List S32}, Shs l ↔ ∀ x ∈ l, Sh x
 | [] => by simp [Shs]
 | x :: l => by simp [Shs, shs_all (l := l)]
theorem sh_is (x : S32) : Sh x ↔ Sn x ∧ ∀ y ∈ x.f5, Sh y := by
 obtain ⟨o, n, a, f, t, k⟩ := x
 rw [Sh, shs_all]
 exact ⟨fun h => ⟨⟨h.1.1, h.1.2, h.1.3⟩, h.2⟩, fun h => ⟨⟨h.1.1, h.1.2, h.1.3⟩, h.2⟩⟩
theorem i64_in {z : Int} (h : In64 .i64 z) : -9223372036854775808 ≤ z ∧ z ≤ 9223372036854775807 := by
 simp only [In64, Lit.wf, IntKind.min, IntKind.max, IntKind.signed, IntKind.bits, Bool.and_eq_true, decide_eq_true_eq, if_true] at h
 omega
mutual
theorem al_of : ∀ x : S32, Sh x → Rg32 x → Al x
 | ⟨o, n, a, f, t, k⟩, h, g => by
  have h := (sh_is _).1 h
  rw [Rg32] at g
  refine (al_is _).2 ⟨⟨h.1.name, h.1.refs, fun r hr => ?_, i64_in g.2.2.2.1, i64_in g.2.2.2.2.1⟩, als_of k h.2 g.2.2.2.2.2.2⟩
  exact ⟨h.1.ref r hr, i64_in (g.2.2.1.2 r hr).2.1⟩
theorem als_of : ∀ l : List S32, (∀ x ∈ l, Sh x) → Rg32s l → ∀ x ∈ l, Al x
 | [], _, _ => by simp
 | y :: l, h, g => by
  rw [Rg32s] at g
  intro x hx
  rcases List.mem_cons.1 hx with e | hx
  ·rw [e]; exact al_of y (h y (by simp)) g.1
  ·exact als_of l (fun z hz => h z (by simp [hz])) g.2 x hx
end
abbrev cntF (k : Nat) (x : S32) (n d : Int) : Option Int := pentaglotref24_count.f k x.f0 x.f1 x.f2 x.f3 x.f4 x.f5 n d
theorem args_l0 {n d : Int} (hn : 0 ≤ n ∧ n ≤ 1000) (x : S32) (hl : x.f2.length ≤ 10) : ∀ (m i k : Nat), m = x.f2.length - i → i ≤ x.f2.length → m + 1 ≤ k →
  (pentaglotref24_count.l0 k n d x.f2 (x.f2.length : Int) (i : Int) x.f0 x.f1 x.f2 x.f3 x.f4 x.f5 = some (n + 1)) ∨
  ((∀ j, i ≤ j → (h : j < x.f2.length) → x.f2[j].f2.size ≤ 100) ∧ pentaglotref24_count.l0 k n d x.f2 (x.f2.length : Int) (i : Int) x.f0 x.f1 x.f2 x.f3 x.f4 x.f5 = pentaglotref24_count.l1 (k - (m + 1)) n d 1 x.f5 (x.f5.length : Int) 0)
 | 0, i, k, hm, hi, hk => by
  obtain ⟨k, rfl⟩ : ∃ j, k = j + 1 := ⟨k - 1, by omega⟩
  right
  refine ⟨fun j hj h => by omega, ?_⟩
  unfold pentaglotref24_count.l0
  rw [if_neg (by omega)]
  rfl
 | m + 1, i, k, hm, hi, hk => by
  obtain ⟨k, rfl⟩ : ∃ j, k = j + 1 := ⟨k - 1, by omega⟩
  have hlt : i < x.f2.length := by omega
  have hrd : rd_T84 x.f2 (i : Int) = x.f2[i] := by simp [rd_T84, hlt]
  unfold pentaglotref24_count.l0
  rw [if_pos (by omega), if_pos (by omega), if_pos (by omega), hrd]
  by_cases hs : x.f2[i].f2.size ≤ 100
  ·rw [if_neg (by omega), wrap_small (by omega) (by omega)]
   have := args_l0 (d := d) hn x hl m (i + 1) k (by omega) (by omega) (by omega)
   rw [show ((i + 1 : Nat) : Int) = (i : Int) + 1 by omega] at this
   rcases this with h | ⟨h1, h2⟩
   ·exact Or.inl h
   ·refine Or.inr ⟨fun j hj h => ?_, ?_⟩
    ·by_cases e : i = j
     ·subst e; exact hs
     ·exact h1 j (by omega) h
    ·rw [h2]
     congr 1
     omega
  ·rw [if_pos (by omega), wrap_small (by omega) (by omega)]
   exact Or.inl rfl
def Cnt (n : Int) (d : Nat) (x : S32) (o : Option Int) : Prop := ∃ r, o = some r ∧ 1 ≤ r ∧ r ≤ (n + 1) * (d + 1) ∧ (r ≤ n → r = size x ∧ Sh x)
theorem kids_l1 {n : Int} {d : Nat} (hn : 0 ≤ n ∧ n ≤ 1000) (hd : d < 40) {F : Nat} (l : List S32) (hl : l.length ≤ 9223372036854775807) (hk : ∀ y ∈ l, ∀ k, F ≤ k → Cnt n d y (cntF k y n d)) : ∀ (m i k : Nat) (s : Int), (n + 2 - s).toNat ≤ m → i ≤ l.length → m + 1 + F ≤ k → 1 ≤ s → s ≤ (n + 1) * (d + 2) →
  ∃ r, pentaglotref24_count.l1 k n (d + 1 : Int) s l (l.length : Int) (i : Int) = some r ∧ 1 ≤ r ∧ r ≤ (n + 1) * (d + 2) ∧ (r ≤ n → r = s + size.sizes (l.drop i) ∧ ∀ y ∈ l.drop i, Sh y)
 | m, i, k, s, hm, hi, hf, h1, h2 => by
  obtain ⟨k, rfl⟩ : ∃ j, k = j + 1 := ⟨k - 1, by omega⟩
  have hnd : n + 1 ≤ (n + 1) * ((d : Int) + 2) := by
   have := Int.mul_le_mul_of_nonneg_left (show (1 : Int) ≤ (d : Int) + 2 by omega) (show (0 : Int) ≤ n + 1 by omega)
   omega
  have hnd2 : (n + 1) * ((d : Int) + 1) ≤ 1001 * 41 := by
   have a := Int.mul_le_mul_of_nonneg_right (show n + 1 ≤ 1001 by omega) (show (0 : Int) ≤ (d : Int) + 1 by omega)
   omega
  have hnd3 : (n + 1) * ((d : Int) + 2) = (n + 1) * ((d : Int) + 1) + (n + 1) := by rw [show (d : Int) + 2 = ((d : Int) + 1) + 1 by omega, Int.mul_add, Int.mul_one]
  unfold pentaglotref24_count.l1
  by_cases hlt : i < l.length
  ·rw [if_pos (by omega), if_pos (by omega), if_pos (by omega)]
   by_cases hs : n < s
   ·rw [if_pos hs, wrap_small (by omega) (by omega)]
    exact ⟨n + 1, rfl, by omega, hnd, fun h => by omega⟩
   ·rw [if_neg hs]
    have hrd : rd_T32 l (i : Int) = l[i] := rd_at hlt
    obtain ⟨t, ht, t1, t2, t3⟩ := hk l[i] (List.getElem_mem hlt) k (by omega)
    rw [wrap_small (by omega) (by omega), show (d : Int) + 1 - 1 = d by omega, hrd]
    rw [show pentaglotref24_count.f k l[i].f0 l[i].f1 l[i].f2 l[i].f3 l[i].f4 l[i].f5 n d = some t from ht]
    simp only [Option.bind_some]
    rw [wrap_small (by omega) (by omega), wrap_small (by omega) (by omega)]
    match m, hm with
    | 0, hm => omega
    | m + 1, hm =>
     obtain ⟨r, hr, r1, r2, r3⟩ := kids_l1 hn hd l hl hk m (i + 1) k (s + t) (by omega) (by omega) (by omega) (by omega) (by omega)
     rw [show ((i + 1 : Nat) : Int) = (i : Int) + 1 by omega] at hr
     refine ⟨r, hr, r1, r2, fun h => ?_⟩
     obtain ⟨e, hsh⟩ := r3 h
     have hd2 : l.drop i = l[i] :: l.drop (i + 1) := List.drop_eq_getElem_cons hlt
     obtain ⟨e2, hs2⟩ := t3 (by omega)
     rw [hd2]
     simp only [size.sizes]
     refine ⟨by omega, fun y hy => ?_⟩
     rcases List.mem_cons.1 hy with rfl | hy
     ·exact hs2
     ·exact hsh y hy
  ·rw [if_neg (by omega)]
   have : i = l.length := by omega
   subst this
   exact ⟨s, rfl, h1, h2, fun _ => by simp [size.sizes]⟩
theorem count_zero {n : Int} (hn : 0 ≤ n ∧ n ≤ 1000) (d : Nat) (x : S32) (k : Nat) (h : d = 0 ∨ 100 < x.f1.size ∨ 10 < x.f2.length) : cntF (k + 2) x n d = some (n + 1) := by
 have hj : ∀ b, b = true → pentaglotref24_count.j0 (k + 1) n d b x.f0 x.f1 x.f2 x.f3 x.f4 x.f5 = some (n + 1) := by
  intro b hb
  unfold pentaglotref24_count.j0
  rw [if_pos hb, wrap_small (by omega) (by omega)]
 unfold cntF pentaglotref24_count.f
 split
 ·exact hj true rfl
 split
 ·exact hj true rfl
 rw [show decide ((x.f2.length : Int) > 10) = true from decide_eq_true (by omega)]
 exact hj true rfl
theorem big_cnt {n : Int} (hn : 0 ≤ n ∧ n ≤ 1000) (d : Nat) (x : S32) : Cnt n d x (some (n + 1)) := by
 have hnn : n + 1 ≤ (n + 1) * ((d : Int) + 1) := by
  have := Int.mul_le_mul_of_nonneg_left (show (1 : Int) ≤ (d : Int) + 1 by omega) (show (0 : Int) ≤ n + 1 by omega)
  omega
 exact ⟨n + 1, rfl, by omega, hnn, fun h => by omega⟩
theorem count_step {n : Int} (hn : 0 ≤ n ∧ n ≤ 1000) (d F : Nat) (hd : d < 40) (ih : ∀ y : S32, Rg32 y → ∀ k, F ≤ k → Cnt n d y (cntF k y n d)) (x : S32) (hx : Rg32 x) (k : Nat) (hk : F + 1100 ≤ k) : Cnt n (d + 1) x (cntF k x n ((d + 1 : Nat) : Int)) := by
 obtain ⟨k, rfl⟩ : ∃ j, k = j + 2 := ⟨k - 2, by omega⟩
 by_cases hc : 100 < x.f1.size ∨ 10 < x.f2.length
 ·rw [count_zero hn (d + 1) x k (Or.inr hc)]
  exact big_cnt hn _ x
 ·have ha : x.f2.length ≤ 10 := by omega
  unfold cntF pentaglotref24_count.f
  rw [if_neg (by omega), if_neg (by omega), show decide ((x.f2.length : Int) > 10) = false from decide_eq_false (by omega)]
  unfold pentaglotref24_count.j0
  rw [if_neg (by simp)]
  rcases args_l0 (d := ((d + 1 : Nat) : Int)) hn x ha x.f2.length 0 k (by omega) (by omega) (by omega) with h | ⟨h1, h2⟩
  ·rw [show ((0 : Nat) : Int) = 0 from rfl] at h
   rw [h]; exact big_cnt hn _ x
  ·rw [show ((0 : Nat) : Int) = 0 from rfl] at h2
   rw [h2]
   have hrg : Rg32s x.f5 ∧ x.f5.length ≤ maxLen := by
    obtain ⟨o, nm, a, f, t, kk⟩ := x
    rw [Rg32] at hx
    exact ⟨hx.2.2.2.2.2.2, hx.2.2.2.2.2.1⟩
   obtain ⟨r, hr, r1, r2, r3⟩ := kids_l1 (d := d) (F := F) hn hd x.f5 (by have := hrg.2; unfold maxLen at this; omega) (fun y hy k hk => ih y (rg32s_all.1 hrg.1 y hy) k hk) 1002 0 (k - (x.f2.length + 1)) 1 (by omega) (by omega) (by omega) (by omega) (by
    have := Int.mul_le_mul_of_nonneg_left (show (1 : Int) ≤ (d : Int) + 2 by omega) (show (0 : Int) ≤ n + 1 by omega)
    omega)
   rw [show ((0 : Nat) : Int) = 0 from rfl] at hr
   refine ⟨r, hr, r1, by rw [show ((d + 1 : Nat) : Int) + 1 = (d : Int) + 2 by omega]; exact r2, fun h => ?_⟩
   obtain ⟨e, hs⟩ := r3 h
   rw [List.drop_zero] at e hs
   refine ⟨by rw [e, size_is]; omega, (sh_is x).2 ⟨⟨by omega, ha, fun q hq => ?_⟩, hs⟩⟩
   obtain ⟨j, hj, rfl⟩ := List.mem_iff_getElem.1 hq
   exact h1 j (Nat.zero_le _) hj
theorem count_is {n : Int} (hn : 0 ≤ n ∧ n ≤ 1000) : ∀ (d : Nat), d ≤ 40 → ∃ F : Nat, ∀ x : S32, Rg32 x → ∀ k, F ≤ k → Cnt n d x (cntF k x n d)
 | 0, _ => ⟨2, fun x _ k hk => by
  obtain ⟨k, rfl⟩ : ∃ j, k = j + 2 := ⟨k - 2, by omega⟩
  rw [count_zero hn 0 x k (Or.inl rfl)]
  exact big_cnt hn 0 x⟩
 | d + 1, hd => by
  obtain ⟨F, ih⟩ := count_is hn d (by omega)
  exact ⟨F + 1100, count_step hn d F (by omega) ih⟩
/-- Small returns; where it is true the formula is short. -/
theorem small_is {n : Int} (hn : 0 ≤ n ∧ n ≤ 1000) : ∃ K : Nat, ∀ x : S32, Rg32 x → ∀ k, K ≤ k → ∃ b, pentaglotref24_Small.f k x.f0 x.f1 x.f2 x.f3 x.f4 x.f5 n = some b ∧ (b = true → (size x : Int) ≤ n ∧ Al x) := by
 obtain ⟨F, hF⟩ := count_is hn 40 (Nat.le_refl _)
 refine ⟨F, fun x hx k hk => ?_⟩
 obtain ⟨r, hr, _, _, h3⟩ := hF x hx k hk
 refine ⟨decide (r ≤ n), ?_, fun h => ?_⟩
 ·unfold pentaglotref24_Small.f
  rw [show pentaglotref24_count.f k x.f0 x.f1 x.f2 x.f3 x.f4 x.f5 n 40 = some r from hr]
  rfl
 ·have h := of_decide_eq_true h
  obtain ⟨e, hs⟩ := h3 h
  exact ⟨by omega, al_of x hs hx⟩
/-- The operations are as the statements consider them. -/
structure OpsOk (l : List S34) : Prop where
 len : l.length ≤ 40
 each : ∀ x ∈ l, size x.f2 ≤ 20 ∧ Al x.f2 ∧ x.f1.size ≤ 50 ∧ x.f3.size ≤ 4106
theorem large_l0 (l : List S34) (hl : l.length ≤ 40) (hr : ∀ x ∈ l, RgO x) {K : Nat} (hK : ∀ x : S32, Rg32 x → ∀ k, K ≤ k → ∃ b, pentaglotref24_Small.f k x.f0 x.f1 x.f2 x.f3 x.f4 x.f5 20 = some b ∧ (b = true → (size x : Int) ≤ 20 ∧ Al x)) : ∀ (m i k : Nat), m = l.length - i → i ≤ l.length → m + K + 1 ≤ k → ∃ b, pentaglotref52_Large.l0 k l (l.length : Int) (i : Int) = some b ∧ (b = false → ∀ j, i ≤ j → (h : j < l.length) → size l[j].f2 ≤ 20 ∧ Al l[j].f2 ∧ l[j].f1.size ≤ 50 ∧ l[j].f3.size ≤ 4106)
 | 0, i, k, hm, hi, hk => by
  obtain ⟨k, rfl⟩ : ∃ j, k = j + 1 := ⟨k - 1, by omega⟩
  unfold pentaglotref52_Large.l0
  rw [if_neg (by omega)]
  exact ⟨false, rfl, fun _ j hj h => by omega⟩
 | m + 1, i, k, hm, hi, hk => by
  obtain ⟨k, rfl⟩ : ∃ j, k = j + 1 := ⟨k - 1, by omega⟩
  have hlt : i < l.length := by omega
  have hrd : rd_T34 l (i : Int) = l[i] := by simp [rd_T34, hlt]
  unfold pentaglotref52_Large.l0
  rw [if_pos (by omega), if_pos (by omega), if_pos (by omega), hrd]
  split
  ·exact ⟨true, rfl, fun h => by cases h⟩
  rename_i h50
  split
  ·exact ⟨true, rfl, fun h => by cases h⟩
  rename_i h41
  obtain ⟨b, hb, hb2⟩ := hK l[i].f2 (hr l[i] (List.getElem_mem hlt)).2.2.1 k (by omega)
  rw [hb]
  simp only [Option.bind_some]
  cases b with
  | false => rw [if_neg (by simp)]; exact ⟨true, rfl, fun h => by cases h⟩
  | true =>
   rw [if_pos rfl, wrap_small (by omega) (by omega)]
   obtain ⟨b, hb3, hb4⟩ := large_l0 l hl hr hK m (i + 1) k (by omega) (by omega) (by omega)
   rw [show ((i + 1 : Nat) : Int) = (i : Int) + 1 by omega] at hb3
   refine ⟨b, hb3, fun h j hj hjl => ?_⟩
   by_cases e : i = j
   ·subst e
    have := hb2 rfl
    exact ⟨by omega, this.2, by omega, by omega⟩
   ·exact hb4 h j (by omega) hjl
theorem large_is {l : List S34} (hr : ∀ x ∈ l, RgO x) : ∃ k b, pentaglotref52_Large.f k l = some b ∧ (b = false → OpsOk l) := by
 obtain ⟨K, hK⟩ := small_is (n := 20) (by omega)
 refine ⟨40 + K + 1, ?_⟩
 unfold pentaglotref52_Large.f
 by_cases h : l.length ≤ 40
 ·rw [if_neg (by omega)]
  obtain ⟨b, hb, hb2⟩ := large_l0 l h hr hK l.length 0 (40 + K + 1) (by omega) (by omega) (by omega)
  refine ⟨b, hb, fun e => ⟨h, fun x hx => ?_⟩⟩
  obtain ⟨j, hj, rfl⟩ := List.mem_iff_getElem.1 hx
  exact hb2 e j (Nat.zero_le _) hj
 ·rw [if_pos (by omega)]
  exact ⟨true, rfl, fun h => by cases h⟩
theorem Large_any {w : World} {A : Option Addr} {c : Nat} {l : List S34} (hC : k34.C w A l.length l) (hl : l.length ≤ c) (hr : ∀ x ∈ l, RgO x) : ∃ b, (b = false → OpsOk l) ∧ Calls Tryz.prog 8 #[.slice A l.length c] w fun e w' => e = .returned (.bool b) ∧ Below w.heap.size w w' := by
 obtain ⟨k, b, hb, ho⟩ := large_is hr
 exact ⟨b, ho, pentaglotref52_Large.calls k A c l b w hC hl hb⟩
theorem Small_any {w : World} {x : S32} {cs : List Value} (hK : k32.K w x cs) (hr : Rg32 x) {n : Int} (hn : 0 ≤ n ∧ n ≤ 1000) : ∃ b, (b = true → (size x : Int) ≤ n ∧ Al x) ∧ Calls Tryz.prog 18 #[.agg cs.toArray, .int .i64 n] w fun e w' => e = .returned (.bool b) ∧ Below w.heap.size w w' := by
 obtain ⟨K, h⟩ := small_is hn
 obtain ⟨b, hb, ho⟩ := h x hr K (Nat.le_refl _)
 obtain ⟨A2, c2, A5, c5, rfl, l2, g2, l5, g5⟩ := k32_open hK
 exact ⟨b, ho, pentaglotref24_Small.calls K x.f0 x.f1 A2 c2 x.f2 x.f3 x.f4 A5 c5 x.f5 n b w g2 l2 g5 l5 hb⟩
open Go.RowKit Go.Proofs.YtbahnpdgaoedmaaGreatDoorW.PrintWords Go.Proofs.YtbahnpdgaoedmaaGreatDoorW.PrintLast Go.Proofs.YtbahnpdgaoedmaaGreatDoorW.PrintMore Go.Proofs.YtbahnpdgaoedmaaGreatDoor.PMemoryExact
/-- One operation. -/
def stepF (room : Nat) (es : List Ent) (x : S34) : List Ent := if x.f0 = 0 then (putF room es x.f1 x.f2 x.f3).1 else if x.f0 = 1 then (findF es x.f1 x.f2).1 else mForget es x.f1
def fillF (room : Nat) (l : List S34) : List Ent := l.foldl (stepF room) []
theorem fill_next {room : Nat} {l : List S34} {i : Nat} (h : i < l.length) : fillF room (l.take (i + 1)) = stepF room (fillF room (l.take i)) l[i] := by
 unfold fillF
 rw [List.take_succ_eq_append_getElem h, List.foldl_append]
 rfl
/-- An operation of a row that came in: its cells in a later world, and its formula. -/
theorem op_up {w wr : World} {A : Option Addr} {l : List S34} (h : k34.C w A l.length l) (hB : Below w.heap.size w wr) (i : Nat) (hi : i < l.length) :
  ∃ ad A4 c4 A7 c7, A = some ad ∧ wr.cell? (ad.add (i * 9)) = some (.int .i64 l[i].f0) ∧ wr.cell? ⟨(ad.add (i * 9)).block, (ad.add (i * 9)).off + 1, none⟩ = some (.string l[i].f1) ∧ wr.cell? ⟨(ad.add (i * 9)).block, (ad.add (i * 9)).off + 2, none⟩ = some (.int .i64 l[i].f2.f0) ∧
   wr.cell? ⟨(ad.add (i * 9)).block, (ad.add (i * 9)).off + 3, none⟩ = some (.string l[i].f2.f1) ∧ wr.cell? ⟨(ad.add (i * 9)).block, (ad.add (i * 9)).off + 4, none⟩ = some (.slice A4 l[i].f2.f2.length c4) ∧ wr.cell? ⟨(ad.add (i * 9)).block, (ad.add (i * 9)).off + 5, none⟩ = some (.int .i64 l[i].f2.f3) ∧
   wr.cell? ⟨(ad.add (i * 9)).block, (ad.add (i * 9)).off + 6, none⟩ = some (.int .i64 l[i].f2.f4) ∧ wr.cell? ⟨(ad.add (i * 9)).block, (ad.add (i * 9)).off + 7, none⟩ = some (.slice A7 l[i].f2.f5.length c7) ∧ wr.cell? ⟨(ad.add (i * 9)).block, (ad.add (i * 9)).off + 8, none⟩ = some (.string l[i].f3) ∧
   Kd.FK k32 wr (fun k => k < w.heap.size) l[i].f2 [.int .i64 l[i].f2.f0, .string l[i].f2.f1, .slice A4 l[i].f2.f2.length c4, .int .i64 l[i].f2.f3, .int .i64 l[i].f2.f4, .slice A7 l[i].f2.f5.length c7] := by
 obtain ⟨ad, A4, c4, A7, c7, e, q0, q1, q2, q3, q4, q5, q6, q7, q8, l4, g4, l7, g7⟩ := at_T34 h (i : Int) (by omega) (by omega)
 have hr : rd_T34 l (i : Int) = l[i] := by simp [rd_T34, List.getD_eq_getElem?_getD, hi]
 rw [hr] at q0 q1 q2 q3 q4 q5 q6 q7 q8 l4 g4 l7 g7
 rw [Int.toNat_natCast] at q0 q1 q2 q3 q4 q5 q6 q7 q8
 exact ⟨ad, A4, c4, A7, c7, e, cell_up hB q0, cell_up hB q1, cell_up hB q2, cell_up hB q3, cell_up hB q4, cell_up hB q5, cell_up hB q6, cell_up hB q7, cell_up hB q8, Kd.FK_below (self_F (k32_mk w l[i].f2 l4 g4 l7 g7)) hB⟩
set_option maxRecDepth 1000000 in
set_option maxHeartbeats 4000000 in
theorem filled_any {w : World} {A : Option Addr} {c : Nat} {l : List S34} (hTB : TB w) (hC : k34.C w A l.length l) (ho : OpsOk l) (n : Int) :
  Calls Tryz.prog 19 #[.int .i64 n, .slice A l.length c] w fun e w' => ∃ m, e = .returned (.pointer (some ⟨m, 0, none⟩)) ∧ AW (fun k => k < w.heap.size) w w' m (roomOf n) (fillF (roomOf n) l) := by
 have HC := Lib.hid hC
 have HO := Lib.hid ho
 have HNW := Lib.hid (aw_new hTB n)
 have hll : l.length ≤ 40 := ho.len
 clear hTB hC ho
 go_enter Tryz.func19, Tryz.ntmps19
 go_wp2_with fail
 refine HNW.out.mono ?_
 rintro e w1 ⟨m, rfl, ha1⟩
 have HA1 := Lib.hid ha1
 clear ha1
 go_wp2
 go_loopw [12] (fun v12 wr => ∃ i : Nat, v12 = .int .i64 i ∧ i ≤ l.length ∧ AW (fun k => k < w.heap.size) w wr m (roomOf n) (fillF (roomOf n) (l.take i))) (fun v12 _ => l.length - (intOf v12).toNat)
 case atStart => exact ⟨0, rfl, Nat.zero_le _, HA1.out⟩
 case round =>
  obtain ⟨i, rfl, hi, hA⟩ := hrel
  have HA := Lib.hid hA
  clear hA
  by_cases hlt : i < l.length
  ·have hi0 : 0 ≤ (i : Int) := by omega
   have hi1 : (i : Int) < (l.length : Int) := by omega
   obtain ⟨ad, A4, c4, A7, c7, e4, q0, q1, q2, q3, q4, q5, q6, q7, q8, qF⟩ := op_up HC.out HA.out.bl i hlt
   subst e4
   have HX := Lib.hid (HO.out.each l[i] (List.getElem_mem hlt))
   have HNX := Lib.hid (fill_next (room := roomOf n) hlt)
   obtain ⟨y, hy⟩ : ∃ y, l[i] = y := ⟨_, rfl⟩
   rw [hy] at q0 q1 q2 q3 q4 q5 q6 q7 q8 qF HX HNX
   clear hy
   have HAL := Lib.hid ((Below.refl wr.heap.size wr).alloc (Nat.le_refl _) (.cells #[.int .i64 y.f0, .string y.f1, .int .i64 y.f2.f0, .string y.f2.f1, .slice A4 y.f2.f2.length c4, .int .i64 y.f2.f3, .int .i64 y.f2.f4, .slice A7 y.f2.f5.length c7, .string y.f3] 34))
   have HAW := Lib.hid (HA.out.same HAL.out)
   have HFF := Lib.hid (show Kd.FK k32 (wr.alloc (.cells #[.int .i64 y.f0, .string y.f1, .int .i64 y.f2.f0, .string y.f2.f1, .slice A4 y.f2.f2.length c4, .int .i64 y.f2.f3, .int .i64 y.f2.f4, .slice A7 y.f2.f5.length c7, .string y.f3] 34)) (fun k => k < w.heap.size) y.f2 [.int .i64 y.f2.f0, .string y.f2.f1, .slice A4 y.f2.f2.length c4, .int .i64 y.f2.f3, .int .i64 y.f2.f4, .slice A7 y.f2.f5.length c7] from Kd.FK_below qF HAL.out)
   have HLT := Lib.hid (show ∀ k, k < w.heap.size → k < (wr.alloc (.cells #[.int .i64 y.f0, .string y.f1, .int .i64 y.f2.f0, .string y.f2.f1, .slice A4 y.f2.f2.length c4, .int .i64 y.f2.f3, .int .i64 y.f2.f4, .slice A7 y.f2.f5.length c7, .string y.f3] 34)).heap.size from fun k hk => Nat.lt_of_lt_of_le hk (Nat.le_trans HA.out.bl.size HAL.out.size))
   clear qF
   by_cases h0 : y.f0 = 0
   ·have g0 : (y.f0 == 0) = true := by simp [h0]
    have HPUT := Lib.hid (HAW.out.put y.f1 y.f3 HFF.out HLT.out HX.out.2.1 (by have := HX.out.1; omega))
    have HNS := Lib.hid (show fillF (roomOf n) (l.take (i + 1)) = (putF (roomOf n) (fillF (roomOf n) (l.take i)) y.f1 y.f2 y.f3).1 by rw [HNX.out]; unfold stepF; simp [h0])
    clear h0
    go_wp2_with fail
    refine HPUT.out.mono ?_
    rintro e w4 ⟨rfl, ha4, -⟩
    have HA4 := Lib.hid ha4
    clear ha4
    go_wp2
    go_roundw
    case rel => exact ⟨i + 1, by go_num, hlt, by rw [HNS.out]; exact HA4.out⟩
    case measure => simp [intOf]; omega
   ·have g0 : (y.f0 == 0) = false := by simp [h0]
    by_cases h1 : y.f0 = 1
    ·have g1 : (y.f0 == 1) = true := by simp [h1]
     have HFI := Lib.hid (HAW.out.find y.f1 HFF.out HLT.out HX.out.2.1 (by have := HX.out.1; omega))
     have HNS := Lib.hid (show fillF (roomOf n) (l.take (i + 1)) = (findF (fillF (roomOf n) (l.take i)) y.f1 y.f2).1 by rw [HNX.out]; unfold stepF; simp [h1])
     clear h0 h1
     go_wp2_with fail
     refine HFI.out.mono ?_
     rintro e w4 ⟨rfl, ha4, -⟩
     have HA4 := Lib.hid ha4
     clear ha4
     go_wp2
     go_roundw
     case rel => exact ⟨i + 1, by go_num, hlt, by rw [HNS.out]; exact HA4.out⟩
     case measure => simp [intOf]; omega
    ·have g1 : (y.f0 == 1) = false := by simp [h1]
     have HFO := Lib.hid (HAW.out.forget y.f1)
     have HNS := Lib.hid (show fillF (roomOf n) (l.take (i + 1)) = mForget (fillF (roomOf n) (l.take i)) y.f1 by rw [HNX.out]; unfold stepF; simp [h0, h1])
     clear h0 h1
     go_wp2_with fail
     refine HFO.out.mono ?_
     rintro e w4 ⟨rfl, ha4, -⟩
     have HA4 := Lib.hid ha4
     clear ha4
     go_wp2
     go_roundw
     case rel => exact ⟨i + 1, by go_num, hlt, by rw [HNS.out]; exact HA4.out⟩
     case measure => simp [intOf]; omega
  ·have hil : i = l.length := by omega
   subst hil
   clear hlt hi
   go_wp2
   go_ret
   have hA := HA.out
   rw [List.take_length] at hA
   exact ⟨m, rfl, hA⟩
abbrev e1 : Ent := ⟨⟨#[97]⟩, ⟨#[112, 40, 99, 41]⟩, ⟨#[120]⟩⟩
abbrev e2 : Ent := ⟨⟨#[97]⟩, ⟨#[113, 40, 99, 41]⟩, ⟨#[121]⟩⟩
abbrev e3 : Ent := ⟨⟨#[97]⟩, ⟨#[114, 40, 99, 41]⟩, ⟨#[122]⟩⟩
theorem z32_F (w : World) : Kd.FK k32 w (fun k => k < w.heap.size) z32 [.int .i64 0, .string ⟨#[]⟩, .slice none 0 0, .int .i64 0, .int .i64 0, .slice none 0 0] :=
 k32_mkF w _ z32 (Nat.zero_le _) (Kd.F_nil _ _ _) (Nat.zero_le _) (Kd.F_nil _ _ _)
theorem size_z : size z32 < 1000000 := by
 have : size z32 = 1 := by kernel_rfl
 omega
set_option maxRecDepth 1000000 in
set_option maxHeartbeats 4000000 in
theorem awake_any {w : World} (hTB : TB w) : Calls Tryz.prog 7 #[] w fun e w' => e = .returned (.bool true) ∧ Below w.heap.size w w' := by
 have HNW := Lib.hid (aw_new hTB 2)
 have hq0 : ∀ W, (binOp .eql 48 (.agg #[.string ⟨#[97]⟩, .string ⟨#[120]⟩]) (.agg #[.string ⟨#[97]⟩, .string ⟨#[120]⟩])).run Tryz.prog W = .ok (.bool true) W := fun W => by rw [eql48 W (⟨#[97]⟩, ⟨#[120]⟩) (⟨#[97]⟩, ⟨#[120]⟩)]; rfl
 have hq1 : ∀ W, (binOp .eql 48 (.agg #[.string ⟨#[97]⟩, .string ⟨#[122]⟩]) (.agg #[.string ⟨#[97]⟩, .string ⟨#[122]⟩])).run Tryz.prog W = .ok (.bool true) W := fun W => by rw [eql48 W (⟨#[97]⟩, ⟨#[122]⟩) (⟨#[97]⟩, ⟨#[122]⟩)]; rfl
 clear hTB
 go_enter Tryz.func7, Tryz.ntmps7
 go_wp2_with fail
 refine HNW.out.mono ?_
 rintro e w1 ⟨m, rfl, ha⟩
 obtain ⟨V, hV⟩ : ∃ V, V = fun k => k < w.heap.size := ⟨_, rfl⟩
 rw [← hV] at ha
 clear hV
 have H1 := Lib.hid (show AW V w w1 m 2 [] from ha)
 clear ha
 go_wp2_with fail
 refine (atom_any w1 ⟨#[112]⟩).mono ?_
 rintro e w2 ⟨cs2, rfl, hF2, hb2⟩
 have HP := Lib.hid ((H1.out.same hb2).put ⟨#[97]⟩ ⟨#[120]⟩ hF2 (fun _ h => h) (atm_al 112) (atm_size _))
 rw [put_1] at HP
 clear hF2 hb2
 go_wp2_with fail
 refine HP.out.mono ?_
 rintro e w3 ⟨rfl, ha3, -⟩
 have H3 := Lib.hid (show AW V w w3 m 2 [e1] from ha3)
 clear ha3
 go_wp2_with fail
 refine (atom_any w3 ⟨#[113]⟩).mono ?_
 rintro e w4 ⟨cs4, rfl, hF4, hb4⟩
 have HP4 := Lib.hid ((H3.out.same hb4).put ⟨#[97]⟩ ⟨#[121]⟩ hF4 (fun _ h => h) (atm_al 113) (atm_size _))
 rw [put_2] at HP4
 clear hF4 hb4
 go_wp2_with fail
 refine HP4.out.mono ?_
 rintro e w5 ⟨rfl, ha5, -⟩
 have H5 := Lib.hid (show AW V w w5 m 2 [e1, e2] from ha5)
 clear ha5
 go_wp2_with fail
 refine (atom_any w5 ⟨#[112]⟩).mono ?_
 rintro e w6 ⟨cs6, rfl, hF6, hb6⟩
 have HP6 := Lib.hid ((H5.out.same hb6).find ⟨#[97]⟩ hF6 (fun _ h => h) (atm_al 112) (atm_size _))
 rw [find_1] at HP6
 clear hF6 hb6
 go_wp2_with fail
 refine HP6.out.mono ?_
 rintro e w7 ⟨rfl, ha7, -⟩
 have H7 := Lib.hid (show AW V w w7 m 2 [e2, e1] from ha7)
 clear ha7
 go_wp2_with fail
 refine (atom_any w7 ⟨#[114]⟩).mono ?_
 rintro e w8 ⟨cs8, rfl, hF8, hb8⟩
 have HP8 := Lib.hid ((H7.out.same hb8).put ⟨#[97]⟩ ⟨#[122]⟩ hF8 (fun _ h => h) (atm_al 114) (atm_size _))
 rw [put_3] at HP8
 clear hF8 hb8
 go_wp2_with fail
 refine HP8.out.mono ?_
 rintro e w9 ⟨rfl, ha9, -⟩
 have H9 := Lib.hid (show AW V w w9 m 2 [e1, e3] from ha9)
 clear ha9
 have HE := Lib.hid H9.out.entries
 go_wp2_with fail
 refine HE.out.mono ?_
 rintro e w10 ⟨A, c, rfl, -, hr, ha10, -⟩
 obtain ⟨V1, hV1⟩ : ∃ V1, V1 = fun k => V k ∨ (w9.heap.size ≤ k ∧ k < w10.heap.size) := ⟨_, rfl⟩
 rw [← hV1] at ha10 hr
 clear hV1
 have H10 := Lib.hid ha10
 have HR10 := Lib.hid (show PV V1 w10 (.slice A 2 c) [(⟨#[97]⟩, ⟨#[120]⟩), (⟨#[97]⟩, ⟨#[122]⟩)] from hr)
 clear ha10 hr
 rw [show ([e1, e3] : List Ent).length = 2 from rfl]
 go_wp2_with fail
 refine (atom_any w10 ⟨#[112]⟩).mono ?_
 rintro e w11 ⟨cs11, rfl, hF11, hb11⟩
 have HR11 := Lib.hid (HR10.out.below hb11)
 have HP11 := Lib.hid ((H10.out.same hb11).find ⟨#[98]⟩ hF11 (fun _ h => h) (atm_al 112) (atm_size _))
 rw [find_2] at HP11
 clear hF11 hb11
 go_wp2_with fail
 refine HP11.out.mono ?_
 rintro e w12 ⟨rfl, ha12, hb12⟩
 have H12 := Lib.hid (show AW V1 w w12 m 2 [e1, e3] from ha12)
 have HR12 := Lib.hid (HR11.out.kv hb12)
 have HP12 := Lib.hid (ha12.put ⟨#[97]⟩ ⟨#[119]⟩ (z32_F w12) (fun _ h => h) al_z size_z)
 rw [put_4] at HP12
 clear ha12 hb12
 go_wp2_with fail
 refine HP12.out.mono ?_
 rintro e w13 ⟨rfl, ha13, hb13⟩
 have H13 := Lib.hid (show AW V1 w w13 m 2 [e1, e3] from ha13)
 have HR13 := Lib.hid (HR12.out.kv hb13)
 have HL := Lib.hid ha13.len
 rw [show ([e1, e3] : List Ent).length = 2 from rfl] at HL
 clear ha13 hb13
 go_wp2_with fail
 refine HL.out.mono ?_
 rintro e w14 ⟨rfl, rfl⟩
 obtain ⟨ad, eA, q0, q1⟩ := pair_F (l := [((⟨#[97]⟩ : ByteArray), (⟨#[120]⟩ : ByteArray)), (⟨#[97]⟩, ⟨#[122]⟩)]) HR13.out.1.read (Below.refl _ _) 0 (by decide)
 obtain ⟨ad2, eA2, q2, q3⟩ := pair_F (l := [((⟨#[97]⟩ : ByteArray), (⟨#[120]⟩ : ByteArray)), (⟨#[97]⟩, ⟨#[122]⟩)]) HR13.out.1.read (Below.refl _ _) 1 (by decide)
 subst eA
 obtain rfl := Option.some.inj eA2
 simp only [List.getElem_cons_zero, List.getElem_cons_succ] at q0 q1 q2 q3
 have z0 : ad.add (0 * 2) = ad := by simp [Addr.add]
 rw [z0] at q0 q1
 have z2 : ad.add (1 * 2) = ⟨ad.block, ad.off + 2, none⟩ := by simp [Addr.add]
 rw [z2] at q2 q3
 dsimp only at q2 q3
 clear z0 z2 eA2
 have HFG := Lib.hid (H13.out.forget ⟨#[97]⟩)
 rw [forget_1] at HFG
 go_wp2_with fail
 refine HFG.out.mono ?_
 rintro e w15 ⟨rfl, ha15, -⟩
 rw [show (([e1, e3] : List Ent).length - ([] : List Ent).length : Nat) = 2 from rfl]
 have HL15 := Lib.hid ha15.len
 have HB15 := Lib.hid ha15.bl
 rw [show (([] : List Ent).length : Nat) = 0 from rfl] at HL15
 clear ha15
 go_wp2_with fail
 refine HL15.out.mono ?_
 rintro e w16 ⟨rfl, rfl⟩
 go_wp2
 go_ret
 exact ⟨rfl, HB15.out⟩
theorem put_err {room : Nat} {es : List Ent} {g t : ByteArray} {x : S32} (h : (keyF g x).2 ≠ 0) : putF room es g x t = (es, (keyF g x).2) := by
 unfold putF
 rw [if_pos h]
set_option maxRecDepth 1000000 in
set_option maxHeartbeats 4000000 in
theorem forms_law {w : World} {A : Option Addr} {c : Nat} {l : List S34} (hTB : TB w) (hC : k34.C w A l.length l) (hl : l.length ≤ c) (hr : ∀ x ∈ l, RgO x) (g : ByteArray) {x : S32} {cs : List Value} (hK : k32.K w x cs) (hrx : Rg32 x) {y : S32} {ds : List Value} (hK2 : k32.K w y ds) (hry : Rg32 y) :
  Calls Tryz.prog 6 #[.slice A l.length c, .string g, .agg cs.toArray, .agg ds.toArray] w fun e w' => e = .returned (.bool true) ∧ Below w.heap.size w w' := by
 have HTB := Lib.hid hTB
 have HC := Lib.hid hC
 have HR := Lib.hid hr
 have HKX := Lib.hid hK
 have HKY := Lib.hid hK2
 have HRX := Lib.hid hrx
 have HRY := Lib.hid hry
 obtain ⟨A2, c2, A5, c5, rfl, -⟩ := k32_open hK
 obtain ⟨B2, d2, B5, d5, rfl, -⟩ := k32_open hK2
 have HB0 := Lib.hid (two_box w #[.int .i64 x.f0, .string x.f1, .slice A2 x.f2.length c2, .int .i64 x.f3, .int .i64 x.f4, .slice A5 x.f5.length c5] #[.int .i64 y.f0, .string y.f1, .slice B2 y.f2.length d2, .int .i64 y.f3, .int .i64 y.f4, .slice B5 y.f5.length d5] 32)
 have HS0 := Lib.hid (show ((w.alloc (.cells #[.int .i64 x.f0, .string x.f1, .slice A2 x.f2.length c2, .int .i64 x.f3, .int .i64 x.f4, .slice A5 x.f5.length c5] 32)).alloc (.cells #[.int .i64 y.f0, .string y.f1, .slice B2 y.f2.length d2, .int .i64 y.f3, .int .i64 y.f4, .slice B5 y.f5.length d5] 32)).heap.size = w.heap.size + 2 by show ((w.heap.push _).push _).size = _; simp)
 have HAW := Lib.hid (awake_any (tb_below HTB.out HB0.out.2.2.1 (Or.inl (Nat.le_refl _))))
 clear hTB hC hr hK hrx hK2 hry
 go_enter Tryz.func6, Tryz.ntmps6
 go_wp2_with fail
 refine HAW.out.mono ?_
 rintro e w1 ⟨rfl, hb1⟩
 have HB1 := Lib.hid (below_then HB0.out.2.2.1 HB0.out.2.2.1.size hb1)
 have HX1 := Lib.hid (And.intro ((hb1.block _ (blk_lt HB0.out.1)).trans HB0.out.1) ((hb1.block _ (blk_lt HB0.out.2.1)).trans HB0.out.2.1))
 obtain ⟨b, hbo, hL⟩ := Large_any (Kd.C_below HC.out HB1.out) hl HR.out
 have HL := Lib.hid hL
 have HBO := Lib.hid hbo
 clear hb1 hL hbo
 go_wp2_with fail
 refine HL.out.mono ?_
 rintro e w2 ⟨rfl, hb2⟩
 have HB2 := Lib.hid (below_then HB1.out HB1.out.size hb2)
 have HX2 := Lib.hid (And.intro ((hb2.block _ (blk_lt HX1.out.1)).trans HX1.out.1) ((hb2.block _ (blk_lt HX1.out.2)).trans HX1.out.2))
 clear hb2
 cases b with
 | true =>
  go_wp2
  go_ret
  exact ⟨rfl, HB2.out⟩
 | false =>
  have HO := Lib.hid (HBO.out rfl)
  by_cases h20 : 20 < l.length
  ·have g1 : decide (20 < (l.length : Int)) = true := decide_eq_true (by omega)
   have g2 : decide (20 < l.length) = true := decide_eq_true h20
   clear h20
   go_wp2
   go_ret
   exact ⟨rfl, HB2.out⟩
  have g1 : decide (20 < (l.length : Int)) = false := decide_eq_false (by omega)
  have g2 : decide (20 < l.length) = false := decide_eq_false h20
  clear h20
  by_cases hg : 50 < g.size
  ·have g3 : decide (50 < (g.size : Int)) = true := decide_eq_true (by omega)
   have g4 : decide (50 < g.size) = true := decide_eq_true hg
   clear hg
   go_wp2
   go_ret
   exact ⟨rfl, HB2.out⟩
  have g3 : decide (50 < (g.size : Int)) = false := decide_eq_false (by omega)
  have g4 : decide (50 < g.size) = false := decide_eq_false hg
  clear hg
  obtain ⟨bx, hbx, hSx⟩ := Small_any (n := 20) (k32.K_below HB2.out HKX.out) HRX.out (by omega)
  have HSX := Lib.hid hSx
  have HBX := Lib.hid hbx
  obtain ⟨k0, k1, k2, k3, k4, k5⟩ := cells_of HX2.out.1
  clear hSx hbx
  go_wp2_with fail
  refine HSX.out.mono ?_
  rintro e w2b ⟨rfl, hb3⟩
  have HB2b := Lib.hid (below_then HB2.out HB2.out.size hb3)
  have HX2b := Lib.hid (And.intro ((hb3.block _ (blk_lt HX2.out.1)).trans HX2.out.1) ((hb3.block _ (blk_lt HX2.out.2)).trans HX2.out.2))
  clear hb3 k0 k1 k2 k3 k4 k5
  cases bx with
  | false =>
   go_wp2
   go_ret
   exact ⟨rfl, HB2b.out⟩
  | true =>
  have HSMX := Lib.hid (HBX.out rfl)
  obtain ⟨bY, hby, hSy⟩ := Small_any (n := 20) (k32.K_below HB2b.out HKY.out) HRY.out (by omega)
  have HSY := Lib.hid hSy
  have HBY := Lib.hid hby
  obtain ⟨k0, k1, k2, k3, k4, k5⟩ := cells_of HX2b.out.2
  clear hSy hby
  go_wp2_with fail
  refine HSY.out.mono ?_
  rintro e w3 ⟨rfl, hb3⟩
  have HB3 := Lib.hid (below_then HB2b.out HB2b.out.size hb3)
  have HX3b := Lib.hid (And.intro ((hb3.block _ (blk_lt HX2b.out.1)).trans HX2b.out.1) ((hb3.block _ (blk_lt HX2b.out.2)).trans HX2b.out.2))
  clear hb3 k0 k1 k2 k3 k4 k5
  cases bY with
  | false =>
   go_wp2
   go_ret
   exact ⟨rfl, HB3.out⟩
  | true =>
  have HSMY := Lib.hid (HBY.out rfl)
  have HCX := Lib.hid (show ∀ W, Below w3.heap.size w3 W → W.heap[w.heap.size]? = some (.cells #[.int .i64 x.f0, .string x.f1, .slice A2 x.f2.length c2, .int .i64 x.f3, .int .i64 x.f4, .slice A5 x.f5.length c5] 32 (0, 0)) ∧ W.heap[w.heap.size + 1]? = some (.cells #[.int .i64 y.f0, .string y.f1, .slice B2 y.f2.length d2, .int .i64 y.f3, .int .i64 y.f4, .slice B5 y.f5.length d5] 32 (0, 0)) from fun W hW => ⟨(hW.block _ (blk_lt HX3b.out.1)).trans HX3b.out.1, (hW.block _ (blk_lt HX3b.out.2)).trans HX3b.out.2⟩)
  have HX3 := Lib.hid (Kd.FK_mono (Kd.FK_below (self_F HKX.out) HB3.out) (ok' := fun k => k < w3.heap.size) (fun k hk => Nat.lt_of_lt_of_le hk HB3.out.size))
  have HY3 := Lib.hid (Kd.FK_mono (Kd.FK_below (self_F HKY.out) HB3.out) (ok' := fun k => k < w3.heap.size) (fun k hk => Nat.lt_of_lt_of_le hk HB3.out.size))
  have HFL := Lib.hid (filled_any (c := c) (tb_below HTB.out HB3.out (Or.inl (Nat.le_refl _))) (Kd.C_below HC.out HB3.out) HO.out 10)
  have HALX := Lib.hid (And.intro HSMX.out.2 (show size x < 1000000 by have := HSMX.out.1; omega))
  have HALY := Lib.hid (And.intro HSMY.out.2 (show size y < 1000000 by have := HSMY.out.1; omega))
  clear g1 g2 g3 g4
  go_wp2_with fail
  refine HFL.out.mono ?_
  rintro e w4 ⟨m, rfl, ha4⟩
  obtain ⟨V, hV⟩ : ∃ V, V = fun k => k < w3.heap.size := ⟨_, rfl⟩
  rw [← hV] at ha4
  have HA4 := Lib.hid (show AW V w3 w4 m 10 (fillF 10 l) from ha4)
  have HFG := Lib.hid (HA4.out.forget g)
  clear ha4 hV
  go_wp2_with fail
  refine HFG.out.mono ?_
  rintro e w5 ⟨rfl, ha5, -⟩
  have HA5 := Lib.hid ha5
  obtain ⟨es0, hes⟩ : ∃ es0, mForget (fillF 10 l) g = es0 := ⟨_, rfl⟩
  have HL0 := Lib.hid (show ∀ e ∈ es0, e.lang ≠ g from fun e he => by
   rw [← hes] at he
   have := (List.mem_filter.1 he).2
   simpa using this)
  rw [hes] at HA5
  have HE0 := Lib.hid (show Kd' es0 ∧ es0.length ≤ 10 from ⟨HA5.out.ms.keys, by
   obtain ⟨_, _, _, _, _, _, _, _, _, h1, _⟩ := HA5.out.ms
   exact h1⟩)
  have HPT := Lib.hid (HA5.out.put g nwF (Kd.FK_below HX3.out HA5.out.bl) (fun k hk => Nat.lt_of_lt_of_le hk HA5.out.bl.size) HALX.out.1 HALX.out.2)
  clear ha5 hes
  obtain ⟨e0, e1⟩ := HCX.out _ HA5.out.bl
  obtain ⟨k0, k1, k2, k3, k4, k5⟩ := cells_of e0
  obtain ⟨j0, j1, j2, j3, j4, j5⟩ := cells_of e1
  clear e0 e1
  by_cases hz : (keyF g x).2 = 0
  ·obtain ⟨kf, hkf⟩ := key_zero hz
   obtain ⟨es1, hp1, h1a, h1b, hcase⟩ := forms_pure (y := y) HL0.out HE0.out.1 HE0.out.2 HALX.out.1 HALY.out.1 hkf
   have HCASE := Lib.hid hcase
   have HN := Lib.hid (And.intro h1a h1b)
   rw [hp1] at HPT
   clear hz hkf hp1 hcase h1a h1b
   go_wp2_with fail
   refine HPT.out.mono ?_
   rintro e w6 ⟨rfl, ha6, -⟩
   have HA6 := Lib.hid ha6
   have HLN := Lib.hid ha6.len
   obtain ⟨n, hn⟩ : ∃ n, es1.length = n := ⟨_, rfl⟩
   rw [hn] at HLN HCASE HN
   have hn1 := HN.out.1
   have hn10 := HN.out.2
   clear k0 k1 k2 k3 k4 k5 j0 j1 j2 j3 j4 j5
   clear ha6 hn
   go_wp2_with fail
   refine HLN.out.mono ?_
   rintro e w6' ⟨rfl, rfl⟩
   obtain ⟨e0, e1⟩ := HCX.out _ HA6.out.bl
   obtain ⟨k0, k1, k2, k3, k4, k5⟩ := cells_of e0
   obtain ⟨j0, j1, j2, j3, j4, j5⟩ := cells_of e1
   clear e0 e1
   have HSA := Lib.hid (same_any (Kd.FK_below HX3.out HA6.out.bl) (Kd.FK_below HY3.out HA6.out.bl) HALX.out HALY.out)
   obtain ⟨q, hq⟩ : ∃ q, sameF x y = q := ⟨_, rfl⟩
   rw [hq] at HSA HCASE
   clear hq
   obtain ⟨bq, z⟩ := q
   dsimp only at HSA HCASE
   go_wp2_with fail
   refine HSA.out.mono ?_
   rintro e w7 ⟨rfl, hb7⟩
   have HA7 := Lib.hid (HA6.out.same hb7)
   have HFI := Lib.hid (HA7.out.find g (Kd.FK_below HY3.out HA7.out.bl) (fun k hk => Nat.lt_of_lt_of_le hk HA7.out.bl.size) HALY.out.1 HALY.out.2)
   clear k0 k1 k2 k3 k4 k5 j0 j1 j2 j3 j4 j5
   clear hb7
   obtain ⟨e0, e1⟩ := HCX.out _ HA7.out.bl
   obtain ⟨k0, k1, k2, k3, k4, k5⟩ := cells_of e0
   obtain ⟨j0, j1, j2, j3, j4, j5⟩ := cells_of e1
   clear e0 e1
   rcases HCASE.out with ⟨hz, hfi⟩ | ⟨rfl, rfl, es2, es3, es4, hfi, hp2, hf2, hle⟩ | ⟨rfl, rfl, hfi, es3, es4, tt, has, hp2, hf2, hle, htt⟩
   ·have gz : (z != (0 : Int)) = true := bne_iff_ne.2 hz
    rw [hfi] at HFI
    unfold eStr at HFI
    clear hz hfi
    go_wp2_with fail
    refine HFI.out.mono ?_
    rintro e w8 ⟨rfl, ha8, -⟩
    have HB8 := Lib.hid (below_then HB3.out HB3.out.size ha8.bl)
    clear k0 k1 k2 k3 k4 k5 j0 j1 j2 j3 j4 j5
    clear ha8
    go_wp2
    go_ret
    exact ⟨rfl, HB8.out⟩
   ·rw [hfi] at HFI
    clear hfi
    go_wp2_with fail
    refine HFI.out.mono ?_
    rintro e w8 ⟨rfl, ha8, -⟩
    have HA8 := Lib.hid ha8
    have HPT2 := Lib.hid (ha8.put g nwrF (Kd.FK_below HY3.out HA8.out.bl) (fun k hk => Nat.lt_of_lt_of_le hk HA8.out.bl.size) HALY.out.1 HALY.out.2)
    rw [hp2] at HPT2
    clear k0 k1 k2 k3 k4 k5 j0 j1 j2 j3 j4 j5
    clear ha8 hp2
    obtain ⟨e0, e1⟩ := HCX.out _ HA8.out.bl
    obtain ⟨k0, k1, k2, k3, k4, k5⟩ := cells_of e0
    obtain ⟨j0, j1, j2, j3, j4, j5⟩ := cells_of e1
    clear e0 e1
    go_wp2_with fail
    refine HPT2.out.mono ?_
    rintro e w9 ⟨rfl, ha9, -⟩
    have HA9 := Lib.hid ha9
    have HFI2 := Lib.hid (ha9.find g (Kd.FK_below HX3.out HA9.out.bl) (fun k hk => Nat.lt_of_lt_of_le hk HA9.out.bl.size) HALX.out.1 HALX.out.2)
    rw [hf2] at HFI2
    clear k0 k1 k2 k3 k4 k5 j0 j1 j2 j3 j4 j5
    clear ha9 hf2
    obtain ⟨e0, e1⟩ := HCX.out _ HA9.out.bl
    obtain ⟨k0, k1, k2, k3, k4, k5⟩ := cells_of e0
    obtain ⟨j0, j1, j2, j3, j4, j5⟩ := cells_of e1
    clear e0 e1
    go_wp2_with fail
    refine HFI2.out.mono ?_
    rintro e w10 ⟨rfl, ha10, -⟩
    have HB10 := Lib.hid (below_then HB3.out HB3.out.size ha10.bl)
    have HLN2 := Lib.hid ha10.len
    rw [hle] at HLN2
    clear k0 k1 k2 k3 k4 k5 j0 j1 j2 j3 j4 j5
    clear ha10 hle
    go_wp2_with fail
    refine HLN2.out.mono ?_
    rintro e w11 ⟨rfl, rfl⟩
    go_wp2
    go_ret
    exact ⟨rfl, HB10.out⟩
   ·rw [hfi] at HFI
    unfold eStr at HFI
    clear hfi
    go_wp2_with fail
    refine HFI.out.mono ?_
    rintro e w8 ⟨rfl, ha8, -⟩
    have HA8 := Lib.hid ha8
    have HPT2 := Lib.hid (ha8.put g nwrF (Kd.FK_below HY3.out HA8.out.bl) (fun k hk => Nat.lt_of_lt_of_le hk HA8.out.bl.size) HALY.out.1 HALY.out.2)
    rw [hp2] at HPT2
    clear k0 k1 k2 k3 k4 k5 j0 j1 j2 j3 j4 j5
    clear ha8 hp2
    obtain ⟨e0, e1⟩ := HCX.out _ HA8.out.bl
    obtain ⟨k0, k1, k2, k3, k4, k5⟩ := cells_of e0
    obtain ⟨j0, j1, j2, j3, j4, j5⟩ := cells_of e1
    clear e0 e1
    go_wp2_with fail
    refine HPT2.out.mono ?_
    rintro e w9 ⟨rfl, ha9, -⟩
    have HA9 := Lib.hid ha9
    have HFI2 := Lib.hid (ha9.find g (Kd.FK_below HX3.out HA9.out.bl) (fun k hk => Nat.lt_of_lt_of_le hk HA9.out.bl.size) HALX.out.1 HALX.out.2)
    rw [hf2] at HFI2
    clear k0 k1 k2 k3 k4 k5 j0 j1 j2 j3 j4 j5
    clear ha9 hf2
    obtain ⟨e0, e1⟩ := HCX.out _ HA9.out.bl
    obtain ⟨k0, k1, k2, k3, k4, k5⟩ := cells_of e0
    obtain ⟨j0, j1, j2, j3, j4, j5⟩ := cells_of e1
    clear e0 e1
    go_wp2_with fail
    refine HFI2.out.mono ?_
    rintro e w10 ⟨rfl, ha10, -⟩
    have HB10 := Lib.hid (below_then HB3.out HB3.out.size ha10.bl)
    have HLN2 := Lib.hid ha10.len
    obtain ⟨q, hq⟩ : ∃ q, es4.length = q := ⟨_, rfl⟩
    rw [hq] at HLN2
    have gm : ((q : Int) == min ((n : Int) + 1) 10) = true := by rw [beq_iff_eq]; omega
    clear k0 k1 k2 k3 k4 k5 j0 j1 j2 j3 j4 j5
    clear ha10 hle hq
    go_wp2_with fail
    refine HLN2.out.mono ?_
    rintro e w11 ⟨rfl, rfl⟩
    cases has with
    | false =>
     clear htt
     go_wp2
     go_ret
     exact ⟨rfl, HB10.out⟩
    | true =>
     obtain rfl := htt rfl
     go_wp2
     go_ret
     exact ⟨rfl, HB10.out⟩
  ·have gz : ((keyF g x).2 != (0 : Int)) = true := bne_iff_ne.2 hz
   rw [put_err hz] at HPT
   obtain ⟨z, hzz⟩ : ∃ z, (keyF g x).2 = z := ⟨_, rfl⟩
   rw [hzz] at HPT gz
   clear hz hzz
   go_wp2_with fail
   refine HPT.out.mono ?_
   rintro e w6 ⟨rfl, ha6, -⟩
   have HB6 := Lib.hid (below_then HB3.out HB3.out.size ha6.bl)
   clear k0 k1 k2 k3 k4 k5 j0 j1 j2 j3 j4 j5
   clear ha6
   go_wp2
   go_ret
   exact ⟨rfl, HB6.out⟩
end Go.Proofs.YtbahnpdgaoedmaaGreatDoor.Mm
namespace Go.Proofs.YtbahnpdgaoedmaaGreatDoor.memoryForms
open Go.ChangeShapes Go.WideShapes Go.ChangeAt Go.RowKit
open Go.ChangeMaps (open_string shut_string)
set_option linter.unusedVariables false
theorem own : ownKnob Tryz.prog.godebug = none := by kernel_rfl
theorem laidOut : laidOutB Tryz.prog = true := by kernel_rfl
theorem tab_of {W : World} (h : laidMetH Tryz.prog Rows.memoryFormsRow.laid W) : Mm.TB W := by
 rw [MakeChecks.laidMetH_plain _ _ _ (by kernel_rfl)] at h
 have h2 := laidMet.filter (fun x => x.1 == "internal/strconv.uint64pow10") h
 exact Lib.tabIs_of_head (name := "internal/strconv.uint64pow10") (k := .u64) (zs := Lib.pow10Tab) (rest := []) (g := 0) (t := 166) (e := 153) (n := 20) (by kernel_rfl) (by kernel_rfl) Tryz.underlying166 Tryz.underlying153 (by kernel_rfl) (by kernel_rfl) h2
theorem door_met (os : Os) (args : Array Value) : laidMetH Tryz.prog Rows.memoryFormsRow.laid ((World.doorLaid Tryz.prog 400 os).forCall (fun _ _ => 0) ⟨#[], args, []⟩).memory :=
 laidMetH_of_parts3 (fuel := 8) (laidMet_of_run' 8 (by kernel_rfl) (by kernel_rfl)) (by kernel_rfl) (by kernel_rfl)
set_option maxRecDepth 100000 in
set_option maxHeartbeats 8000000 in
theorem lifted (os : Os) (started : os.Started) (H : Type) (enc : TypeId × Value → H) :
  ReturnsInHanded {} Tryz.checked os 6 .any (fun w args => (Rows.memoryFormsSpec.pre enc Tryz.prog Tryz.f6 [] false w args ∧ laidMetH Tryz.prog Rows.memoryFormsRow.laid w) ∧ sizedMet enc Tryz.prog Tryz.f6 (OpenSpec.ofChange Rows.memoryFormsSpec) false w args) (Rows.memoryFormsSpec.post enc Tryz.prog Tryz.f6 false true false false) := by
 refine returnsInHanded_of_change_and (C := Tryz.checked) (X := fun w _ => laidMetH Tryz.prog Rows.memoryFormsRow.laid w) (fun _ _ _ hh h => h.of_heap hh) own started (by kernel_rfl) Tryz.func6
  (ChangeSpec.witness_shaped (enc := enc) (C := Tryz.checked) (os := os) (X := fun w _ => laidMetH Tryz.prog Rows.memoryFormsRow.laid w) false (World.doorLaid Tryz.prog 400 os) #[.slice none 0 0, .string ByteArray.empty, .agg #[.int .i64 0, .string ByteArray.empty, .slice none 0 0, .int .i64 0, .int .i64 0, .slice none 0 0], .agg #[.int .i64 0, .string ByteArray.empty, .slice none 0 0, .int .i64 0, .int .i64 0, .slice none 0 0]] 8 rfl (World.shaped_of_RefB (by kernel_rfl) (by kernel_rfl)) (by kernel_rfl) (by kernel_rfl) (by kernel_rfl) (door_met os _)) ?_
 intro W base args ds gs before hval0 hW _ _ hL _
 have hval : ∀ (j : Nat) t v, Tryz.f6.params[j]? = some t → args[j]? = some v → Value.okWide Tryz.prog W .any base t v := hval0
 have hW' := hW
 obtain ⟨p, q, hA0, hV, rfl, hfz, hnd⟩ := hW
 have hA : DataW.TrodAll enc Tryz.prog W 0 (fun _ => true) true Tryz.f6.params.toList args.toList ds p := hA0
 rw [Tryz.params6] at hA hval
 obtain ⟨v0, vs0, d0, ds0, p0, q0, hargs, rfl, rfl, h0, r0⟩ := trodAll_cons hA
 obtain ⟨v1, vs1, d1, ds1, p1, q1, rfl, rfl, rfl, h1, r1⟩ := trodAll_cons r0
 obtain ⟨v2, vs2, d2, ds2, p2, q2, rfl, rfl, rfl, h2, r2⟩ := trodAll_cons r1
 obtain ⟨v3, vs3, d3, ds3, p3, q3, rfl, rfl, rfl, h3, r3⟩ := trodAll_cons r2
 obtain ⟨rfl, rfl, rfl⟩ := trodAll_nil r3
 obtain rfl : args = #[v0, v1, v2, v3] := by cases args; simp_all
 obtain ⟨rfl, rfl⟩ := trodVars_none hV
 obtain ⟨A0, c0, l0, rfl, x0, y0, z0⟩ := Mm.open_ops (hval 0 22 v0 rfl rfl) h0
 have k0 := h0
 have lt0 : ∀ x ∈ p0, x.block < W.heap.size := by obtain ⟨m, hm⟩ := k0; exact DataW.trod_lt m _ _ _ hm
 obtain ⟨a1, rfl, rfl, rfl, y1⟩ := open_string Tryz.underlying9 (hval 1 9 v1 rfl rfl) h1
 obtain ⟨c2, x2, rfl, y2, z2⟩ := Mm.open_form h2
 have k2 := h2
 have lt2 : ∀ x ∈ p2, x.block < W.heap.size := by obtain ⟨m, hm⟩ := k2; exact DataW.trod_lt m _ _ _ hm
 obtain ⟨c3, x3, rfl, y3, z3⟩ := Mm.open_form h3
 have k3 := h3
 have lt3 : ∀ x ∈ p3, x.block < W.heap.size := by obtain ⟨m, hm⟩ := k3; exact DataW.trod_lt m _ _ _ hm
 clear hA0 hval0
 refine (Mm.forms_law (tab_of hL) y0 x0 z0 a1 y2 z2 y3 z3).mono fun e W' ⟨he, bel⟩ => ?_
 subst he
 exact ⟨_, rfl, _, _, _, [], _, [], hW', trodAll_mk1 (shut_bool Tryz.underlying4 _), (trodAll_cons_mk (Below.trod laidOut (by kernel_rfl) (of_decide_eq_true (by kernel_rfl)) k0 bel lt0) (trodAll_cons_mk (shut_string Tryz.underlying9 y1) (trodAll_cons_mk (Below.trod laidOut (by kernel_rfl) (of_decide_eq_true (by kernel_rfl)) k2 bel lt2) (trodAll_cons_mk (Below.trod laidOut (by kernel_rfl) (of_decide_eq_true (by kernel_rfl)) k3 bel lt3) trodAll_mk0)))), rfl, bel.frame _, fun h => by cases h⟩
theorem over : Rows.memoryFormsRow.holds Tryz.pinned (OpenSpec.ofChange Rows.memoryFormsSpec) :=
 OpenClaim.holds_of_wide 6 Tryz.f6 rfl rfl rfl rfl rfl rfl rfl ⟨rfl, rfl, rfl, rfl, rfl⟩ rfl rfl rfl rfl rfl (by kernel_rfl) Tryz.func6 (by kernel_rfl)
  (of_decide_eq_true (by kernel_rfl)) (by unfold Func.isWrapper; first | (rw [if_pos (by decide +kernel)]; kernel_rfl) | (rw [if_neg (by decide +kernel)]; exact ⟨rfl, rfl⟩))
  (fun os started H enc _ => lifted os started H enc)
end Go.Proofs.YtbahnpdgaoedmaaGreatDoor.memoryForms
namespace Go.Proofs.YtbahnpdgaoedmaaGreatDoor
/-- The tied card, under a short name, for the claim. -/
theorem memoryForms_card : Rows.MemoryFormsCardSaid :=
 Claim7.holds_tied_plain_at .later [] [.data, .data, .data] true (true, "fbf65e274c62c20eb874d022cfd42280684e99080fc4f1cdb62d30aa60215bb8") false
  memoryForms.over (fun _ h => by cases h) (by kernel_rfl) (fun _ h => by cases h) memoryForms_row_tie rfl ⟨rfl, rfl⟩ (by kernel_rfl) rfl
  (fun f fn hf hfn => by
   obtain rfl : f = 6 := Option.some.inj ((show Tryz.prog.funcNamed "pentaglot/pentaglotlaw52.MemoryForms" = some 6 by kernel_rfl).symm.trans hf) |>.symm
   obtain rfl : fn = Tryz.f6 := (Option.some.inj (Tryz.func6.symm.trans hfn)).symm
   exact ⟨by kernel_rfl, fun j t ht => by
    rw [Tryz.params6] at ht
    have hm : t ∈ [22, 9, 32, 32] := by simpa using Array.mem_of_getElem? ht
    have hall : ([22, 9, 32, 32].all fun u => !Tryz.prog.wantsStandIn u) = true := by kernel_rfl
    exact (show Tryz.prog.wantsStandIn t = false by simpa using List.all_eq_true.1 hall t hm)⟩)
  (by kernel_rfl)
#print axioms memoryForms_card
end Go.Proofs.YtbahnpdgaoedmaaGreatDoor
