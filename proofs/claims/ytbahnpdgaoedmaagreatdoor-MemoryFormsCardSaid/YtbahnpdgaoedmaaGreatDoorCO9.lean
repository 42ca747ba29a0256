/- Part 9 of the proof of MemoryForms: MnzA, MnzB, Mno, Mfd. -/
import Derived.Test.YtbahnpdgaoedmaaGreatDoorCO8
namespace Go.Proofs.YtbahnpdgaoedmaaGreatDoor.Mm
open Go.RowKit Go.Proofs.YtbahnpdgaoedmaaGreatDoorW.PrintWords Go.Proofs.YtbahnpdgaoedmaaGreatDoorW.PrintLast Go.Proofs.YtbahnpdgaoedmaaGreatDoorW.PrintMore Go.Proofs.YtbahnpdgaoedmaaGreatDoor.PMemoryExact
set_option linter.unusedSimpArgs false
set_option linter.unusedVariables false
theorem nfs_mapA (neg : Bool) : ∀ l : List S32, nfs l neg = l.map (fun y => nf y neg)
 | [] => by simp [nfs]
 | x :: l => by simp [nfs, nfs_mapA neg l]
theorem oppo_fA (o : Int) : normalform_opposite.f o = some (oppo o) := by
 unfold normalform_opposite.f oppo
 repeat' split
 all_goals rfl
set_option maxRecDepth 1000000 in
set_option maxHeartbeats 4000000 in
theorem nr_A {n : Nat} (hrec : NrTo n) {o : Int} (ho : o = 5 ∨ o = 6) {nm : ByteArray} {a : List S84} {f t : Int} {k : List S32} (hx : size ⟨o, nm, a, f, t, k⟩ < n + 1) (hwf : Wf ⟨o, nm, a, f, t, k⟩) (h200 : size ⟨o, nm, a, f, t, k⟩ ≤ 200) {w : World} {cs : List Value} {ok : Nat → Prop} (neg : Bool) (hF : Kd.FK k32 w ok ⟨o, nm, a, f, t, k⟩ cs) (hok : ∀ k, ok k → k < w.heap.size) :
  Calls Tryz.prog 52 #[.agg cs.toArray, .bool neg] w fun e w' => Fr w w' ok (nf ⟨o, nm, a, f, t, k⟩ neg) e := by
 obtain ⟨A2, c2, A5, c5, rfl, _, _, l5, g5⟩ := k32_openF hF
 have HREC := Lib.hid hrec
 have HK := Lib.hid g5
 have HOK := Lib.hid hok
 have HSZ := Lib.hid hx
 have HWF := Lib.hid hwf
 have H200 := Lib.hid h200
 have hk5 : k.length ≤ 9223372036854775807 := (Kd.F_now g5).2.1
 have HBD0 := Lib.hid (show leaves ⟨o, nm, a, f, t, k⟩ * (2 + depth ⟨o, nm, a, f, t, k⟩) < 1000000 by
  have h1 := leaves_size ⟨o, nm, a, f, t, k⟩
  have h2 := depth_size ⟨o, nm, a, f, t, k⟩
  have h3 := Nat.mul_le_mul (show leaves ⟨o, nm, a, f, t, k⟩ ≤ 200 by omega) (show 2 + depth ⟨o, nm, a, f, t, k⟩ ≤ 202 by omega)
  omega)
 have HW0 := Lib.hid (box_slot w #[.int .i64 o, .string nm, .slice A2 a.length c2, .int .i64 f, .int .i64 t, .slice A5 k.length c5])
 have HE0 := Lib.hid (show ∀ neg, nf ⟨o, nm, a, f, t, k⟩ neg = join (if neg then oppo o else o) (k.map (fun y => nf y neg)) from fun neg => by
  rw [nf, if_neg (by omega), if_neg (by omega), if_neg (by omega), if_neg (by omega), if_neg (by omega), if_pos (by cases neg <;> simp [oppo] <;> omega), nfs_mapA])
 have HQ56 := Lib.hid ho
 have HJ := Lib.hid (show ∀ neg, size.sizes (k.map (fun y => nf y neg)) < 1000000 from fun neg => by
  have h1 := sizes_ld (k.map (fun y => nf y neg))
  have h2 := nfs_bound k neg
  rw [nfs_mapA] at h2
  have h3 := size_is ⟨o, nm, a, f, t, k⟩
  have h4 := depths_sizes k
  dsimp only at h3
  have h6 := Nat.mul_le_mul (show leaves.leavess (k.map (fun y => nf y neg)) ≤ 400 by omega) (show depth.depths (k.map (fun y => nf y neg)) ≤ 500 by omega)
  omega)
 have e1 : (o == (1 : Int)) = false := by simp; omega
 have e2 : (o == (2 : Int)) = false := by simp; omega
 have e3 : (o == (3 : Int)) = false := by simp; omega
 have e4 : (o == (4 : Int)) = false := by simp; omega
 have e7 : (o == (7 : Int)) = false := by simp; omega
 have e10 : (o == (10 : Int)) = false := by simp; omega
 clear hF hok g5 hrec hx hwf h200 l5 ho
 dsimp only at *
 cases neg with
 | false =>
  have HE := Lib.hid (show nf ⟨o, nm, a, f, t, k⟩ false = join (o) (k.map (fun y => nf y false)) from HE0.out false)
  have HBD := Lib.hid HBD0.out
  go_enter Tryz.func52, Tryz.ntmps52
  have HW := Lib.hid HW0.out
  go_wp2
  obtain ⟨W1, hW1⟩ : ∃ W1, ((w.alloc (.cells #[.int .i64 o, .string nm, .slice A2 a.length c2, .int .i64 f, .int .i64 t, .slice A5 k.length c5] 32)).alloc (.cells z6 32)) = W1 := ⟨_, rfl⟩
  rw [hW1] at HW
  have HST := Lib.hid (mp_start (fun y => nf y false) k W1 ok)
  go_loopw [8, 86] (fun v8 v86 wr => MapRel (fun y => nf y false) k W1 ok v8 v86 wr) (fun _ v86 _ => k.length - (intOf v86).toNat)
  case atStart => rw [HW.out.1] at HST; rw [← hW1] at HST ⊢; exact HST.out
  case round =>
   clear HST
   obtain ⟨i, g, cap, rfl, rfl, hi, hN, hBl⟩ := hrel
   have HN := Lib.hid hN
   have HBL := Lib.hid hBl
   have HBw := Lib.hid (below_then HW.out.2.2.2 HW.out.2.2.2.size hBl)
   clear hN hBl
   have HKL := Lib.hid (show k.length < 1000000 by
    have h1 := len_leavess k
    have h3 := HBD.out
    have h4 := leaves_is ⟨o, nm, a, f, t, k⟩
    dsimp only at h4
    have h6 := Nat.mul_le_mul (Nat.le_refl (leaves ⟨o, nm, a, f, t, k⟩)) (show 1 ≤ 2 + depth ⟨o, nm, a, f, t, k⟩ by omega)
    omega)
   by_cases hlt : i < k.length
   ·have hi0 : 0 ≤ (i : Int) := by omega
    have hi1 : (i : Int) < (k.length : Int) := by omega
    obtain ⟨ad, A3, c3, A6, c6, e4, q0, q1, q2, q3, q4, q5, qF⟩ := form_F HK.out HBw.out i hlt
    subst e4
    have HTM := Lib.hid (take_map (fun y => nf y false) hlt)
    have hmem : k[i] ∈ k := List.getElem_mem hlt
    obtain ⟨y, hy⟩ : ∃ y, k[i] = y := ⟨_, rfl⟩
    rw [hy] at q0 q1 q2 q3 q4 q5 qF hmem HTM
    have HAL := Lib.hid ((Below.refl wr.heap.size wr).alloc (Nat.le_refl _) (.cells #[.int .i64 y.f0, .string y.f1, .slice A3 y.f2.length c3, .int .i64 y.f3, .int .i64 y.f4, .slice A6 y.f5.length c6] 32))
    have HAS := Lib.hid (show (wr.alloc (.cells #[.int .i64 y.f0, .string y.f1, .slice A3 y.f2.length c3, .int .i64 y.f3, .int .i64 y.f4, .slice A6 y.f5.length c6] 32)).heap.size = wr.heap.size + 1 by show (wr.heap.push _).size = _; simp)
    have HBw2 := Lib.hid (below_then HBw.out HBw.out.size HAL.out)
    have HIH := Lib.hid (HREC.out y (by have := kid_lt (x := ⟨o, nm, a, f, t, k⟩) hmem; have := HSZ.out; omega) false _ _ ok (Kd.FK_step qF (fun k _ hk => HBw2.out.block k hk)) (fun k hk => Nat.lt_of_lt_of_le (HOK.out k hk) HBw2.out.size) (wf_kid HWF.out hmem) (by have := kid_lt (x := ⟨o, nm, a, f, t, k⟩) hmem; have := H200.out; omega))
    clear qF hmem hy
    go_wp2_with fail
    refine HIH.out.mono ?_
    rintro e w4 ⟨ds, rfl, hF4, hB4⟩
    obtain ⟨z, hz⟩ : ∃ z, nf y false = z := ⟨_, rfl⟩
    have HTM2 := Lib.hid (show (k.take (i + 1)).map (fun y => nf y false) = (k.take i).map (fun y => nf y false) ++ [z] by rw [← hz]; exact HTM.out)
    rw [hz] at hF4
    have HF4 := Lib.hid hF4
    have HS4 := Lib.hid hB4.size
    have HN4 := Lib.hid (Kd.N_below (Kd.N_below HN.out HAL.out) hB4)
    have HNL := Lib.hid (Kd.N_lt HN.out g rfl)
    have HB4 := Lib.hid (below_then (below_then HBL.out HBL.out.size HAL.out) (below_then HBL.out HBL.out.size HAL.out).size hB4)
    obtain ⟨B2, d2, B5, d5, rfl, -⟩ := k32_openF hF4
    clear hF4 hB4 hz HIH HTM q0 q1 q2 q3 q4 q5
    go_wp2_with (first | (at_builtin; go_loud (refine Kd.N_append k32 (w0 := W1) (W := w4) W1.heap.size rfl (.tmp 90) (.tmp 94) 30 32 _ 88 rfl Tryz.underlying30 info32 rfl (by decide) (by decide) (.slice (some ⟨g, 0, none⟩) i cap) ((k.take i).map (fun y => nf y false)) z [.int .i64 z.f0, .string z.f1, .slice B2 z.f2.length d2, .int .i64 z.f3, .int .i64 z.f4, .slice B5 z.f5.length d5] (OkN ok W1.heap.size) _ rfl rfl HF4.out (fun k hk => ⟨by
     rcases hk with hk | hk
     ·exact Or.inl hk
     ·exact Or.inr (by have := HAS.out; have := HBL.out.size; omega), fun e => by
     have h1 := Kd.N_base HN.out k e.symm
     rcases hk with hk | hk
     ·have := HOK.out k hk; have := HW.out.1; omega
     ·have := HAS.out; have := HNL.out; have e2 : k = g := Option.some.inj e; omega⟩) (fun k hk => Or.inr (by have := HB4.out.size; omega)) HN4.out HB4.out HB4.out.size (by rw [List.length_map, List.length_take]; have := HKL.out; omega) ?_); intro v9 w9 hr9 hb9 hg9 hat9; rw [← HTM2.out] at hr9; have HNX := Lib.hid (mp_next hlt rfl hr9 hb9 hat9); clear hr9 hb9 hg9 hat9) | fail)
    go_roundw
    case rel => exact HNX.out
    case measure => have := HKL.out; simp [intOf]; omega
   ·have hil : i = k.length := by omega
    subst hil
    clear hlt hi
    have hN2 := HN.out
    rw [List.take_length] at hN2
    obtain ⟨hrow, -⟩ := mp_row hN2
    have hj := join_any (c := cap) (op := o) (HQ56.out) hrow (fun k hk => hk.2) (HJ.out false)
    rw [List.length_map] at hj
    have HJN := Lib.hid hj
    clear hN2 hrow hj
    have hq56 : o = 5 ∨ o = 6 := HQ56.out
    by_cases h5 : o = 5
    ·have r5 : (o == (5 : Int)) = true := by simpa using h5
     clear h5 hq56
     go_wp2_with fail
     refine HJN.out.mono ?_
     rintro e w6 ⟨ds, rfl, hF6, hB6⟩
     have HB6 := Lib.hid (below_then HBw.out HBw.out.size hB6)
     have HSB := Lib.hid (((below_then HBL.out HBL.out.size hB6).block (w.heap.size + 1) (by rw [HW.out.1]; omega)).trans HW.out.2.2.1)
     obtain ⟨z, hz⟩ : ∃ z, join o (k.map (fun y => nf y false)) = z := ⟨_, rfl⟩
     rw [hz] at hF6 HE
     have HF6 := Lib.hid hF6
     obtain ⟨B2, d2, B5, d5, rfl, -⟩ := k32_openF hF6
     obtain ⟨y0, y1, y2, y3, y4, y5, f0, f1, f2, f3, f4, f5⟩ := slot_cells HSB.out
     clear hF6 hB6 hz
     go_wp2
     refine bodyPost_ret (res_slot rfl _ _ _ _ _ _ _ _ _ rfl (six_blk HSB.out _ _ _ _ _ _)) rfl ?_
     rw [HE.out]
     exact slot_done HF6.out HB6.out (by omega) (fun k hk => by
      have h1 := HW.out.1
      have h2 := HBL.out.size
      rcases hk with ⟨hk | hk, _⟩ | hk
      ·have := HOK.out k hk; omega
      ·omega
      ·omega) (fun k hk => by
      have h1 := HW.out.1
      have h2 := HBL.out.size
      rcases hk with ⟨hk | hk, _⟩ | hk
      ·exact Or.inl hk
      ·exact Or.inr (by omega)
      ·exact Or.inr (by omega))
    ·have r5 : (o == (5 : Int)) = false := by simpa using h5
     have r6 : (o == (6 : Int)) = true := by simp; omega
     clear h5 hq56
     go_wp2_with fail
     refine HJN.out.mono ?_
     rintro e w6 ⟨ds, rfl, hF6, hB6⟩
     have HB6 := Lib.hid (below_then HBw.out HBw.out.size hB6)
     have HSB := Lib.hid (((below_then HBL.out HBL.out.size hB6).block (w.heap.size + 1) (by rw [HW.out.1]; omega)).trans HW.out.2.2.1)
     obtain ⟨z, hz⟩ : ∃ z, join o (k.map (fun y => nf y false)) = z := ⟨_, rfl⟩
     rw [hz] at hF6 HE
     have HF6 := Lib.hid hF6
     obtain ⟨B2, d2, B5, d5, rfl, -⟩ := k32_openF hF6
     obtain ⟨y0, y1, y2, y3, y4, y5, f0, f1, f2, f3, f4, f5⟩ := slot_cells HSB.out
     clear hF6 hB6 hz
     go_wp2
     refine bodyPost_ret (res_slot rfl _ _ _ _ _ _ _ _ _ rfl (six_blk HSB.out _ _ _ _ _ _)) rfl ?_
     rw [HE.out]
     exact slot_done HF6.out HB6.out (by omega) (fun k hk => by
      have h1 := HW.out.1
      have h2 := HBL.out.size
      rcases hk with ⟨hk | hk, _⟩ | hk
      ·have := HOK.out k hk; omega
      ·omega
      ·omega) (fun k hk => by
      have h1 := HW.out.1
      have h2 := HBL.out.size
      rcases hk with ⟨hk | hk, _⟩ | hk
      ·exact Or.inl hk
      ·exact Or.inr (by omega)
      ·exact Or.inr (by omega))
 | true =>
  have HE := Lib.hid (show nf ⟨o, nm, a, f, t, k⟩ true = join (oppo o) (k.map (fun y => nf y true)) from HE0.out true)
  have HBD := Lib.hid HBD0.out
  go_enter Tryz.func52, Tryz.ntmps52
  go_wp2_with fail
  refine (normalform_opposite.calls o (oppo o) _ (oppo_fA o)).mono ?_
  rintro e w3 ⟨rfl, hd3⟩
  obtain ⟨m3, hm3⟩ := hd3.out
  have HW := Lib.hid (show w3.heap.size = w.heap.size + 2 ∧ w3.heap[w.heap.size]? = some (.cells #[.int .i64 o, .string nm, .slice A2 a.length c2, .int .i64 f, .int .i64 t, .slice A5 k.length c5] 32 (0, 0)) ∧ w3.heap[w.heap.size + 1]? = some (.cells z6 32 (0, 0)) ∧ Below w.heap.size w w3 by
   have h := HW0.out
   subst hm3
   exact ⟨h.1, h.2.1, h.2.2.1, below_then h.2.2.2 h.2.2.2.size hd3.below⟩)
  clear hd3 hm3
  obtain ⟨Q, hQ⟩ : ∃ Q, oppo o = Q := ⟨_, rfl⟩
  obtain ⟨b0, b1, b2, b3, b4, b5, -⟩ := slot_cells HW.out.2.1
  have b6 := cell_up ((Below.refl w3.heap.size w3).alloc (Nat.le_refl _) (.cells #[] 32)) b5
  clear b0 b1 b2 b3 b4 b5
  rw [hQ] at HE ⊢
  have HQ := Lib.hid hQ
  clear hQ
  go_wp2
  have HST := Lib.hid (mp_start (fun y => nf y true) k w3 ok)
  go_loopw [8, 86] (fun v8 v86 wr => MapRel (fun y => nf y true) k w3 ok v8 v86 wr) (fun _ v86 _ => k.length - (intOf v86).toNat)
  case atStart => exact HST.out
  case round =>
   clear HST
   obtain ⟨i, g, cap, rfl, rfl, hi, hN, hBl⟩ := hrel
   have HN := Lib.hid hN
   have HBL := Lib.hid hBl
   have HBw := Lib.hid (below_then HW.out.2.2.2 HW.out.2.2.2.size hBl)
   clear hN hBl
   have HKL := Lib.hid (show k.length < 1000000 by
    have h1 := len_leavess k
    have h3 := HBD.out
    have h4 := leaves_is ⟨o, nm, a, f, t, k⟩
    dsimp only at h4
    have h6 := Nat.mul_le_mul (Nat.le_refl (leaves ⟨o, nm, a, f, t, k⟩)) (show 1 ≤ 2 + depth ⟨o, nm, a, f, t, k⟩ by omega)
    omega)
   by_cases hlt : i < k.length
   ·have hi0 : 0 ≤ (i : Int) := by omega
    have hi1 : (i : Int) < (k.length : Int) := by omega
    obtain ⟨ad, A3, c3, A6, c6, e4, q0, q1, q2, q3, q4, q5, qF⟩ := form_F HK.out HBw.out i hlt
    subst e4
    have HTM := Lib.hid (take_map (fun y => nf y true) hlt)
    have hmem : k[i] ∈ k := List.getElem_mem hlt
    obtain ⟨y, hy⟩ : ∃ y, k[i] = y := ⟨_, rfl⟩
    rw [hy] at q0 q1 q2 q3 q4 q5 qF hmem HTM
    have HAL := Lib.hid ((Below.refl wr.heap.size wr).alloc (Nat.le_refl _) (.cells #[.int .i64 y.f0, .string y.f1, .slice A3 y.f2.length c3, .int .i64 y.f3, .int .i64 y.f4, .slice A6 y.f5.length c6] 32))
    have HAS := Lib.hid (show (wr.alloc (.cells #[.int .i64 y.f0, .string y.f1, .slice A3 y.f2.length c3, .int .i64 y.f3, .int .i64 y.f4, .slice A6 y.f5.length c6] 32)).heap.size = wr.heap.size + 1 by show (wr.heap.push _).size = _; simp)
    have HBw2 := Lib.hid (below_then HBw.out HBw.out.size HAL.out)
    have HIH := Lib.hid (HREC.out y (by have := kid_lt (x := ⟨o, nm, a, f, t, k⟩) hmem; have := HSZ.out; omega) true _ _ ok (Kd.FK_step qF (fun k _ hk => HBw2.out.block k hk)) (fun k hk => Nat.lt_of_lt_of_le (HOK.out k hk) HBw2.out.size) (wf_kid HWF.out hmem) (by have := kid_lt (x := ⟨o, nm, a, f, t, k⟩) hmem; have := H200.out; omega))
    clear qF hmem hy
    go_wp2_with fail
    refine HIH.out.mono ?_
    rintro e w4 ⟨ds, rfl, hF4, hB4⟩
    obtain ⟨z, hz⟩ : ∃ z, nf y true = z := ⟨_, rfl⟩
    have HTM2 := Lib.hid (show (k.take (i + 1)).map (fun y => nf y true) = (k.take i).map (fun y => nf y true) ++ [z] by rw [← hz]; exact HTM.out)
    rw [hz] at hF4
    have HF4 := Lib.hid hF4
    have HS4 := Lib.hid hB4.size
    have HN4 := Lib.hid (Kd.N_below (Kd.N_below HN.out HAL.out) hB4)
    have HNL := Lib.hid (Kd.N_lt HN.out g rfl)
    have HB4 := Lib.hid (below_then (below_then HBL.out HBL.out.size HAL.out) (below_then HBL.out HBL.out.size HAL.out).size hB4)
    obtain ⟨B2, d2, B5, d5, rfl, -⟩ := k32_openF hF4
    clear hF4 hB4 hz HIH HTM q0 q1 q2 q3 q4 q5
    go_wp2_with (first | (at_builtin; go_loud (refine Kd.N_append k32 (w0 := w3) (W := w4) w3.heap.size rfl (.tmp 90) (.tmp 94) 30 32 _ 88 rfl Tryz.underlying30 info32 rfl (by decide) (by decide) (.slice (some ⟨g, 0, none⟩) i cap) ((k.take i).map (fun y => nf y true)) z [.int .i64 z.f0, .string z.f1, .slice B2 z.f2.length d2, .int .i64 z.f3, .int .i64 z.f4, .slice B5 z.f5.length d5] (OkN ok w3.heap.size) _ rfl rfl HF4.out (fun k hk => ⟨by
     rcases hk with hk | hk
     ·exact Or.inl hk
     ·exact Or.inr (by have := HAS.out; have := HBL.out.size; omega), fun e => by
     have h1 := Kd.N_base HN.out k e.symm
     rcases hk with hk | hk
     ·have := HOK.out k hk; have := HW.out.1; omega
     ·have := HAS.out; have := HNL.out; have e2 : k = g := Option.some.inj e; omega⟩) (fun k hk => Or.inr (by have := HB4.out.size; omega)) HN4.out HB4.out HB4.out.size (by rw [List.length_map, List.length_take]; have := HKL.out; omega) ?_); intro v9 w9 hr9 hb9 hg9 hat9; rw [← HTM2.out] at hr9; have HNX := Lib.hid (mp_next hlt rfl hr9 hb9 hat9); clear hr9 hb9 hg9 hat9) | fail)
    go_roundw
    case rel => exact HNX.out
    case measure => have := HKL.out; simp [intOf]; omega
   ·have hil : i = k.length := by omega
    subst hil
    clear hlt hi
    have hN2 := HN.out
    rw [List.take_length] at hN2
    obtain ⟨hrow, -⟩ := mp_row hN2
    have hj := join_any (c := cap) (op := Q) (by have := HQ56.out; have := HQ.out; unfold oppo at this; omega) hrow (fun k hk => hk.2) (HJ.out true)
    rw [List.length_map] at hj
    have HJN := Lib.hid hj
    clear hN2 hrow hj
    have hq56 : Q = 5 ∨ Q = 6 := by have := HQ56.out; have := HQ.out; unfold oppo at this; omega
    by_cases h5 : Q = 5
    ·have r5 : (Q == (5 : Int)) = true := by simpa using h5
     clear h5 hq56
     go_wp2_with fail
     refine HJN.out.mono ?_
     rintro e w6 ⟨ds, rfl, hF6, hB6⟩
     have HB6 := Lib.hid (below_then HBw.out HBw.out.size hB6)
     have HSB := Lib.hid (((below_then HBL.out HBL.out.size hB6).block (w.heap.size + 1) (by rw [HW.out.1]; omega)).trans HW.out.2.2.1)
     obtain ⟨z, hz⟩ : ∃ z, join Q (k.map (fun y => nf y true)) = z := ⟨_, rfl⟩
     rw [hz] at hF6 HE
     have HF6 := Lib.hid hF6
     obtain ⟨B2, d2, B5, d5, rfl, -⟩ := k32_openF hF6
     obtain ⟨y0, y1, y2, y3, y4, y5, f0, f1, f2, f3, f4, f5⟩ := slot_cells HSB.out
     clear hF6 hB6 hz
     go_wp2
     refine bodyPost_ret (res_slot rfl _ _ _ _ _ _ _ _ _ rfl (six_blk HSB.out _ _ _ _ _ _)) rfl ?_
     rw [HE.out]
     exact slot_done HF6.out HB6.out (by omega) (fun k hk => by
      have h1 := HW.out.1
      have h2 := HBL.out.size
      rcases hk with ⟨hk | hk, _⟩ | hk
      ·have := HOK.out k hk; omega
      ·omega
      ·omega) (fun k hk => by
      have h1 := HW.out.1
      have h2 := HBL.out.size
      rcases hk with ⟨hk | hk, _⟩ | hk
      ·exact Or.inl hk
      ·exact Or.inr (by omega)
      ·exact Or.inr (by omega))
    ·have r5 : (Q == (5 : Int)) = false := by simpa using h5
     have r6 : (Q == (6 : Int)) = true := by simp; omega
     clear h5 hq56
     go_wp2_with fail
     refine HJN.out.mono ?_
     rintro e w6 ⟨ds, rfl, hF6, hB6⟩
     have HB6 := Lib.hid (below_then HBw.out HBw.out.size hB6)
     have HSB := Lib.hid (((below_then HBL.out HBL.out.size hB6).block (w.heap.size + 1) (by rw [HW.out.1]; omega)).trans HW.out.2.2.1)
     obtain ⟨z, hz⟩ : ∃ z, join Q (k.map (fun y => nf y true)) = z := ⟨_, rfl⟩
     rw [hz] at hF6 HE
     have HF6 := Lib.hid hF6
     obtain ⟨B2, d2, B5, d5, rfl, -⟩ := k32_openF hF6
     obtain ⟨y0, y1, y2, y3, y4, y5, f0, f1, f2, f3, f4, f5⟩ := slot_cells HSB.out
     clear hF6 hB6 hz
     go_wp2
     refine bodyPost_ret (res_slot rfl _ _ _ _ _ _ _ _ _ rfl (six_blk HSB.out _ _ _ _ _ _)) rfl ?_
     rw [HE.out]
     exact slot_done HF6.out HB6.out (by omega) (fun k hk => by
      have h1 := HW.out.1
      have h2 := HBL.out.size
      rcases hk with ⟨hk | hk, _⟩ | hk
      ·have := HOK.out k hk; omega
      ·omega
      ·omega) (fun k hk => by
      have h1 := HW.out.1
      have h2 := HBL.out.size
      rcases hk with ⟨hk | hk, _⟩ | hk
      ·exact Or.inl hk
      ·exact Or.inr (by omega)
      ·exact Or.inr (by omega))
theorem nfs_mapB (neg : Bool) : ∀ l : List S32, nfs l neg = l.map (fun y => nf y neg)
 | [] => by simp [nfs]
 | x :: l => by simp [nfs, nfs_mapB neg l]
theorem oppo_fB (o : Int) : normalform_opposite.f o = some (oppo o) := by
 unfold normalform_opposite.f oppo
 repeat' split
 all_goals rfl
set_option maxRecDepth 1000000 in
set_option maxHeartbeats 4000000 in
theorem nr_B {n : Nat} (hrec : NrTo n) {o : Int} (ho : o = 8 ∨ o = 9 ∨ o = 11 ∨ o = 12) {nm : ByteArray} {a : List S84} {f t : Int} {k : List S32} (hx : size ⟨o, nm, a, f, t, k⟩ < n + 1) (hwf : Wf ⟨o, nm, a, f, t, k⟩) (h200 : size ⟨o, nm, a, f, t, k⟩ ≤ 200) {w : World} {cs : List Value} {ok : Nat → Prop} (neg : Bool) (hF : Kd.FK k32 w ok ⟨o, nm, a, f, t, k⟩ cs) (hok : ∀ k, ok k → k < w.heap.size) :
  Calls Tryz.prog 52 #[.agg cs.toArray, .bool neg] w fun e w' => Fr w w' ok (nf ⟨o, nm, a, f, t, k⟩ neg) e := by
 obtain ⟨A2, c2, A5, c5, rfl, _, _, l5, g5⟩ := k32_openF hF
 have HREC := Lib.hid hrec
 have HK := Lib.hid g5
 have HOK := Lib.hid hok
 have HSZ := Lib.hid hx
 have HWF := Lib.hid hwf
 have H200 := Lib.hid h200
 have hk5 : k.length ≤ 9223372036854775807 := (Kd.F_now g5).2.1
 have HBD0 := Lib.hid (show leaves ⟨o, nm, a, f, t, k⟩ * (2 + depth ⟨o, nm, a, f, t, k⟩) < 1000000 by
  have h1 := leaves_size ⟨o, nm, a, f, t, k⟩
  have h2 := depth_size ⟨o, nm, a, f, t, k⟩
  have h3 := Nat.mul_le_mul (show leaves ⟨o, nm, a, f, t, k⟩ ≤ 200 by omega) (show 2 + depth ⟨o, nm, a, f, t, k⟩ ≤ 202 by omega)
  omega)
 have HW0 := Lib.hid (box_slot w #[.int .i64 o, .string nm, .slice A2 a.length c2, .int .i64 f, .int .i64 t, .slice A5 k.length c5])
 have HE0 := Lib.hid (show ∀ neg, nf ⟨o, nm, a, f, t, k⟩ neg = overF (if neg then oppo o else o) nm ((k.map (fun y => nf y neg)).getD 0 z32) from fun neg => by
  rw [nf, if_neg (by omega), if_neg (by omega), if_neg (by omega), if_neg (by omega), if_neg (by omega), if_neg (by cases neg <;> simp [oppo] <;> omega), nfs_mapB])
 have HQN := Lib.hid ho
 have HK1 := Lib.hid (show k.length = 1 from (wf_shape hwf).2.2.1 (by show o = 4 ∨ o = 8 ∨ o = 9 ∨ o = 10 ∨ o = 11 ∨ o = 12; omega))
 have HSZ0 := Lib.hid (show ∀ neg, leaves ((k.map (fun y => nf y neg)).getD 0 z32) * (2 + depth ((k.map (fun y => nf y neg)).getD 0 z32)) < 1000000 from fun neg => by
  have h1 := getD_bound (k.map (fun y => nf y neg)) 0
  have h2 := nfs_bound k neg
  rw [nfs_mapB] at h2
  have h3 := size_is ⟨o, nm, a, f, t, k⟩
  have h4 := depths_sizes k
  dsimp only at h3
  have h6 := Nat.mul_le_mul (show leaves ((k.map (fun y => nf y neg)).getD 0 z32) ≤ 400 by omega) (show 2 + depth ((k.map (fun y => nf y neg)).getD 0 z32) ≤ 500 by omega)
  omega)
 have e1 : (o == (1 : Int)) = false := by simp; omega
 have e2 : (o == (2 : Int)) = false := by simp; omega
 have e3 : (o == (3 : Int)) = false := by simp; omega
 have e4 : (o == (4 : Int)) = false := by simp; omega
 have e7 : (o == (7 : Int)) = false := by simp; omega
 have e10 : (o == (10 : Int)) = false := by simp; omega
 clear hF hok g5 hrec hx hwf h200 l5 ho
 dsimp only at *
 cases neg with
 | false =>
  have HE := Lib.hid (show nf ⟨o, nm, a, f, t, k⟩ false = overF (o) nm ((k.map (fun y => nf y false)).getD 0 z32) from HE0.out false)
  have HBD := Lib.hid HBD0.out
  go_enter Tryz.func52, Tryz.ntmps52
  have HW := Lib.hid HW0.out
  go_wp2
  obtain ⟨W1, hW1⟩ : ∃ W1, ((w.alloc (.cells #[.int .i64 o, .string nm, .slice A2 a.length c2, .int .i64 f, .int .i64 t, .slice A5 k.length c5] 32)).alloc (.cells z6 32)) = W1 := ⟨_, rfl⟩
  rw [hW1] at HW
  have HST := Lib.hid (mp_start (fun y => nf y false) k W1 ok)
  go_loopw [8, 86] (fun v8 v86 wr => MapRel (fun y => nf y false) k W1 ok v8 v86 wr) (fun _ v86 _ => k.length - (intOf v86).toNat)
  case atStart => rw [HW.out.1] at HST; rw [← hW1] at HST ⊢; exact HST.out
  case round =>
   clear HST
   obtain ⟨i, g, cap, rfl, rfl, hi, hN, hBl⟩ := hrel
   have HN := Lib.hid hN
   have HBL := Lib.hid hBl
   have HBw := Lib.hid (below_then HW.out.2.2.2 HW.out.2.2.2.size hBl)
   clear hN hBl
   have HKL := Lib.hid (show k.length < 1000000 by
    have h1 := len_leavess k
    have h3 := HBD.out
    have h4 := leaves_is ⟨o, nm, a, f, t, k⟩
    dsimp only at h4
    have h6 := Nat.mul_le_mul (Nat.le_refl (leaves ⟨o, nm, a, f, t, k⟩)) (show 1 ≤ 2 + depth ⟨o, nm, a, f, t, k⟩ by omega)
    omega)
   by_cases hlt : i < k.length
   ·have hi0 : 0 ≤ (i : Int) := by omega
    have hi1 : (i : Int) < (k.length : Int) := by omega
    obtain ⟨ad, A3, c3, A6, c6, e4, q0, q1, q2, q3, q4, q5, qF⟩ := form_F HK.out HBw.out i hlt
    subst e4
    have HTM := Lib.hid (take_map (fun y => nf y false) hlt)
    have hmem : k[i] ∈ k := List.getElem_mem hlt
    obtain ⟨y, hy⟩ : ∃ y, k[i] = y := ⟨_, rfl⟩
    rw [hy] at q0 q1 q2 q3 q4 q5 qF hmem HTM
    have HAL := Lib.hid ((Below.refl wr.heap.size wr).alloc (Nat.le_refl _) (.cells #[.int .i64 y.f0, .string y.f1, .slice A3 y.f2.length c3, .int .i64 y.f3, .int .i64 y.f4, .slice A6 y.f5.length c6] 32))
    have HAS := Lib.hid (show (wr.alloc (.cells #[.int .i64 y.f0, .string y.f1, .slice A3 y.f2.length c3, .int .i64 y.f3, .int .i64 y.f4, .slice A6 y.f5.length c6] 32)).heap.size = wr.heap.size + 1 by show (wr.heap.push _).size = _; simp)
    have HBw2 := Lib.hid (below_then HBw.out HBw.out.size HAL.out)
    have HIH := Lib.hid (HREC.out y (by have := kid_lt (x := ⟨o, nm, a, f, t, k⟩) hmem; have := HSZ.out; omega) false _ _ ok (Kd.FK_step qF (fun k _ hk => HBw2.out.block k hk)) (fun k hk => Nat.lt_of_lt_of_le (HOK.out k hk) HBw2.out.size) (wf_kid HWF.out hmem) (by have := kid_lt (x := ⟨o, nm, a, f, t, k⟩) hmem; have := H200.out; omega))
    clear qF hmem hy
    go_wp2_with fail
    refine HIH.out.mono ?_
    rintro e w4 ⟨ds, rfl, hF4, hB4⟩
    obtain ⟨z, hz⟩ : ∃ z, nf y false = z := ⟨_, rfl⟩
    have HTM2 := Lib.hid (show (k.take (i + 1)).map (fun y => nf y false) = (k.take i).map (fun y => nf y false) ++ [z] by rw [← hz]; exact HTM.out)
    rw [hz] at hF4
    have HF4 := Lib.hid hF4
    have HS4 := Lib.hid hB4.size
    have HN4 := Lib.hid (Kd.N_below (Kd.N_below HN.out HAL.out) hB4)
    have HNL := Lib.hid (Kd.N_lt HN.out g rfl)
    have HB4 := Lib.hid (below_then (below_then HBL.out HBL.out.size HAL.out) (below_then HBL.out HBL.out.size HAL.out).size hB4)
    obtain ⟨B2, d2, B5, d5, rfl, -⟩ := k32_openF hF4
    clear hF4 hB4 hz HIH HTM q0 q1 q2 q3 q4 q5
    go_wp2_with (first | (at_builtin; go_loud (refine Kd.N_append k32 (w0 := W1) (W := w4) W1.heap.size rfl (.tmp 90) (.tmp 94) 30 32 _ 88 rfl Tryz.underlying30 info32 rfl (by decide) (by decide) (.slice (some ⟨g, 0, none⟩) i cap) ((k.take i).map (fun y => nf y false)) z [.int .i64 z.f0, .string z.f1, .slice B2 z.f2.length d2, .int .i64 z.f3, .int .i64 z.f4, .slice B5 z.f5.length d5] (OkN ok W1.heap.size) _ rfl rfl HF4.out (fun k hk => ⟨by
     rcases hk with hk | hk
     ·exact Or.inl hk
     ·exact Or.inr (by have := HAS.out; have := HBL.out.size; omega), fun e => by
     have h1 := Kd.N_base HN.out k e.symm
     rcases hk with hk | hk
     ·have := HOK.out k hk; have := HW.out.1; omega
     ·have := HAS.out; have := HNL.out; have e2 : k = g := Option.some.inj e; omega⟩) (fun k hk => Or.inr (by have := HB4.out.size; omega)) HN4.out HB4.out HB4.out.size (by rw [List.length_map, List.length_take]; have := HKL.out; omega) ?_); intro v9 w9 hr9 hb9 hg9 hat9; rw [← HTM2.out] at hr9; have HNX := Lib.hid (mp_next hlt rfl hr9 hb9 hat9); clear hr9 hb9 hg9 hat9) | fail)
    go_roundw
    case rel => exact HNX.out
    case measure => have := HKL.out; simp [intOf]; omega
   ·have hil : i = k.length := by omega
    subst hil
    clear hlt hi
    have hN2 := HN.out
    rw [List.take_length] at hN2
    obtain ⟨ps, hrow, hmap⟩ := row_of_N hN2
    have HROW := Lib.hid hrow
    have hpl : ps.length = k.length := by rw [← List.length_map (f := fun p : S32 × List Value => p.1), hmap, List.length_map]
    have hp0 : 0 < ps.length := by have := HK1.out; omega
    obtain ⟨P2, p2, P5, p5, ex, x0, x1, x2, x3, x4, x5⟩ := row_at hrow 0 hp0
    have hz0 : ps[0].1 = (k.map (fun y => nf y false)).getD 0 z32 := by rw [← hmap]; simp [List.getD_eq_getElem?_getD, hp0]
    have HFY := Lib.hid (hrow.fk _ (List.getElem_mem hp0))
    rw [ex] at HFY
    obtain ⟨y, hy⟩ : ∃ y, ps[0].1 = y := ⟨_, rfl⟩
    rw [hy] at x0 x1 x2 x3 x4 x5 HFY hz0
    have HZ0 := Lib.hid hz0
    have HYC := Lib.hid (show ∀ W, Below wr.heap.size wr W → (W.cell? ⟨g, 0, none⟩ = some (.int .i64 y.f0) ∧ W.cell? ⟨g, 0 + 1, none⟩ = some (.string y.f1) ∧ W.cell? ⟨g, 0 + 2, none⟩ = some (.slice P2 y.f2.length p2) ∧ W.cell? ⟨g, 0 + 3, none⟩ = some (.int .i64 y.f3) ∧ W.cell? ⟨g, 0 + 4, none⟩ = some (.int .i64 y.f4) ∧ W.cell? ⟨g, 0 + 5, none⟩ = some (.slice P5 y.f5.length p5)) from fun W hW => ⟨cell_up hW (by simpa using x0), cell_up hW (by simpa using x1), cell_up hW (by simpa using x2), cell_up hW (by simpa using x3), cell_up hW (by simpa using x4), cell_up hW (by simpa using x5)⟩)
    have HBX := Lib.hid (show ∀ W, Below wr.heap.size wr W → W.cell? ⟨w.heap.size, 1, none⟩ = some (.string nm) from fun W hW => cell_up hW (cell_up HBL.out (blk_cell HW.out.2.1 1)))
    have r5 : (o == (5 : Int)) = false := by have := HQN.out; simp; omega
    have r6 : (o == (6 : Int)) = false := by have := HQN.out; simp; omega
    have i0 : (0 : Int) < (k.length : Int) := by have := HK1.out; omega
    have i1 : 0 < k.length := by have := HK1.out; omega
    clear ex hz0 hy hpl hmap hrow hN2 x0 x1 x2 x3 x4 x5
    go_wp2
    refine start_ (n := 8) (S := fun w' => Below wr.heap.size wr w') (ds := [7]) #[false, false, false, false, false, false, false, false] (by kernel_rfl) rfl rfl (Below.drew (Below.refl _ _)) (fun hHeld => ?_)
    generalize wr.drew = w5 at hHeld ⊢
    refine pure_ (i := 0) (N := (some 106)) (v := ?_) (a' := ?_) #[true, false, false, false, false, false, false, false] rfl rfl (by kernel_rfl) (fun _ _ _ h => h) (Or.inl ⟨by rfl, ?_⟩) ?_ ?_
    rotate_left
    ·intro w'
     go_simp
     with_reducible rfl
    rotate_left
    ·simp only [Act.put, List.setIfInBounds_toArray, List.set_cons_zero, List.set_cons_succ]
     rfl
    refine pure_ (i := 1) (N := (some 107)) (v := ?_) (a' := ?_) #[true, true, false, false, false, false, false, false] rfl rfl (by kernel_rfl) (fun _ _ _ h => h) (Or.inl ⟨by rfl, ?_⟩) ?_ ?_
    rotate_left
    ·intro w'
     go_simp
     with_reducible rfl
    rotate_left
    ·simp only [Act.put, List.setIfInBounds_toArray, List.set_cons_zero, List.set_cons_succ]
     rfl
    refine take_ (i := 2) (N := (some 108)) (v := ?_) (a' := ?_) #[true, true, true, false, false, false, false, false] rfl rfl (by kernel_rfl) (fun _ _ _ h => h) (Or.inl ⟨by rfl, ?_⟩) hHeld ?_ ?_
    rotate_left
    ·rintro w' s0
     have k5 := HBX.out _ s0
     go_simp
     with_reducible rfl
    rotate_left
    ·simp only [Act.put, List.setIfInBounds_toArray, List.set_cons_zero, List.set_cons_succ]
     rfl
    refine pure_ (i := 3) (N := (some 109)) (v := ?_) (a' := ?_) #[true, true, true, true, false, false, false, false] rfl rfl (by kernel_rfl) (fun _ _ _ h => h) (Or.inl ⟨by rfl, ?_⟩) ?_ ?_
    rotate_left
    ·intro w'
     go_simp
     with_reducible rfl
    rotate_left
    ·simp only [Act.put, List.setIfInBounds_toArray, List.set_cons_zero, List.set_cons_succ]
     rfl
    refine pure_ (i := 4) (N := (some 110)) (v := ?_) (a' := ?_) #[true, true, true, true, true, false, false, false] rfl rfl (by kernel_rfl) (fun _ _ _ h => h) (Or.inl ⟨by rfl, ?_⟩) ?_ ?_
    rotate_left
    ·intro w'
     go_simp
     with_reducible rfl
    rotate_left
    ·simp only [Act.put, List.setIfInBounds_toArray, List.set_cons_zero, List.set_cons_succ]
     rfl
    refine take_ (i := 5) (N := (some 111)) (v := ?_) (a' := ?_) #[true, true, true, true, true, true, false, false] rfl rfl (by kernel_rfl) (fun _ _ _ h => h) (Or.inl ⟨by rfl, ?_⟩) hHeld ?_ ?_
    rotate_left
    ·rintro w' s0
     obtain ⟨k0, k1, k2, k3, k4, k5⟩ := HYC.out _ s0
     go_simp
     with_reducible rfl
    rotate_left
    ·simp only [Act.put, List.setIfInBounds_toArray, List.set_cons_zero, List.set_cons_succ]
     rfl
    refine one_ (i := 6) (N := (some 112)) #[true, true, true, true, true, true, true, false] rfl rfl (by kernel_rfl) (by decide) (fun K hK => ?_)
    go_simp
    refine (over_any o nm (Kd.FK_step (Kd.FK_bound HFY.out) (fun k _ hk => hHeld.block k hk)) (fun k hk => Nat.lt_of_lt_of_le hk.2 hHeld.size) (by rw [HZ0.out]; exact HSZ0.out false)).mono ?_
    rintro e w6 ⟨ds, rfl, hF6, hB6⟩
    have HB6 := Lib.hid (below_then hHeld hHeld.size hB6)
    have HS5 := Lib.hid hHeld.size
    have HBw6 := Lib.hid (below_then HBw.out HBw.out.size (below_then hHeld hHeld.size hB6))
    have HSB := Lib.hid (((below_then HBL.out HBL.out.size (below_then hHeld hHeld.size hB6)).block (w.heap.size + 1) (by rw [HW.out.1]; omega)).trans HW.out.2.2.1)
    obtain ⟨z, hz⟩ : ∃ z, overF o nm y = z := ⟨_, rfl⟩
    have HE2 := Lib.hid (show nf ⟨o, nm, a, f, t, k⟩ false = z by rw [HE.out, ← HZ0.out]; exact hz)
    rw [hz] at hF6
    have HF6 := Lib.hid hF6
    obtain ⟨B2, d2, B5, d5, rfl, -⟩ := k32_openF hF6
    obtain ⟨y0, y1, y2, y3, y4, y5, f0, f1, f2, f3, f4, f5⟩ := slot_cells HSB.out
    clear hF6 hB6 hz
    refine hK.out _ _ HB6.out (fun hHeld => ?_)
    clear hK K
    (try simp only [Act.put, List.setIfInBounds_toArray, List.set_cons_zero, List.set_cons_succ])
    refine last_ (i := 7) (N := none) #[true, true, true, true, true, true, true, true] rfl rfl (by kernel_rfl) (by decide) (fun K hK => ?_)
    go_simp
    refine hK.out _ _ ?_
    clear hK K
    (try simp only [Act.put, List.setIfInBounds_toArray, List.set_cons_zero, List.set_cons_succ])
    refine done_ (by kernel_rfl) ?_
    go_wp2
    refine bodyPost_ret (res_slot rfl _ _ _ _ _ _ _ _ _ rfl (six_blk HSB.out _ _ _ _ _ _)) rfl ?_
    rw [HE2.out]
    exact slot_done HF6.out HBw6.out (by omega) (fun k hk => by
     have h1 := HW.out.1
     have h2 := HBL.out.size
     have h3 := HS5.out
     rcases hk with ⟨⟨hk | hk, _⟩, _⟩ | hk
     ·have := HOK.out k hk; omega
     ·omega
     ·omega) (fun k hk => by
     have h1 := HW.out.1
     have h2 := HBL.out.size
     have h3 := HS5.out
     rcases hk with ⟨⟨hk | hk, _⟩, _⟩ | hk
     ·exact Or.inl hk
     ·exact Or.inr (by omega)
     ·exact Or.inr (by omega))
 | true =>
  have HE := Lib.hid (show nf ⟨o, nm, a, f, t, k⟩ true = overF (oppo o) nm ((k.map (fun y => nf y true)).getD 0 z32) from HE0.out true)
  have HBD := Lib.hid HBD0.out
  go_enter Tryz.func52, Tryz.ntmps52
  go_wp2_with fail
  refine (normalform_opposite.calls o (oppo o) _ (oppo_fB o)).mono ?_
  rintro e w3 ⟨rfl, hd3⟩
  obtain ⟨m3, hm3⟩ := hd3.out
  have HW := Lib.hid (show w3.heap.size = w.heap.size + 2 ∧ w3.heap[w.heap.size]? = some (.cells #[.int .i64 o, .string nm, .slice A2 a.length c2, .int .i64 f, .int .i64 t, .slice A5 k.length c5] 32 (0, 0)) ∧ w3.heap[w.heap.size + 1]? = some (.cells z6 32 (0, 0)) ∧ Below w.heap.size w w3 by
   have h := HW0.out
   subst hm3
   exact ⟨h.1, h.2.1, h.2.2.1, below_then h.2.2.2 h.2.2.2.size hd3.below⟩)
  clear hd3 hm3
  obtain ⟨Q, hQ⟩ : ∃ Q, oppo o = Q := ⟨_, rfl⟩
  obtain ⟨b0, b1, b2, b3, b4, b5, -⟩ := slot_cells HW.out.2.1
  have b6 := cell_up ((Below.refl w3.heap.size w3).alloc (Nat.le_refl _) (.cells #[] 32)) b5
  clear b0 b1 b2 b3 b4 b5
  rw [hQ] at HE ⊢
  have HQ := Lib.hid hQ
  clear hQ
  go_wp2
  have HST := Lib.hid (mp_start (fun y => nf y true) k w3 ok)
  go_loopw [8, 86] (fun v8 v86 wr => MapRel (fun y => nf y true) k w3 ok v8 v86 wr) (fun _ v86 _ => k.length - (intOf v86).toNat)
  case atStart => exact HST.out
  case round =>
   clear HST
   obtain ⟨i, g, cap, rfl, rfl, hi, hN, hBl⟩ := hrel
   have HN := Lib.hid hN
   have HBL := Lib.hid hBl
   have HBw := Lib.hid (below_then HW.out.2.2.2 HW.out.2.2.2.size hBl)
   clear hN hBl
   have HKL := Lib.hid (show k.length < 1000000 by
    have h1 := len_leavess k
    have h3 := HBD.out
    have h4 := leaves_is ⟨o, nm, a, f, t, k⟩
    dsimp only at h4
    have h6 := Nat.mul_le_mul (Nat.le_refl (leaves ⟨o, nm, a, f, t, k⟩)) (show 1 ≤ 2 + depth ⟨o, nm, a, f, t, k⟩ by omega)
    omega)
   by_cases hlt : i < k.length
   ·have hi0 : 0 ≤ (i : Int) := by omega
    have hi1 : (i : Int) < (k.length : Int) := by omega
    obtain ⟨ad, A3, c3, A6, c6, e4, q0, q1, q2, q3, q4, q5, qF⟩ := form_F HK.out HBw.out i hlt
    subst e4
    have HTM := Lib.hid (take_map (fun y => nf y true) hlt)
    have hmem : k[i] ∈ k := List.getElem_mem hlt
    obtain ⟨y, hy⟩ : ∃ y, k[i] = y := ⟨_, rfl⟩
    rw [hy] at q0 q1 q2 q3 q4 q5 qF hmem HTM
    have HAL := Lib.hid ((Below.refl wr.heap.size wr).alloc (Nat.le_refl _) (.cells #[.int .i64 y.f0, .string y.f1, .slice A3 y.f2.length c3, .int .i64 y.f3, .int .i64 y.f4, .slice A6 y.f5.length c6] 32))
    have HAS := Lib.hid (show (wr.alloc (.cells #[.int .i64 y.f0, .string y.f1, .slice A3 y.f2.length c3, .int .i64 y.f3, .int .i64 y.f4, .slice A6 y.f5.length c6] 32)).heap.size = wr.heap.size + 1 by show (wr.heap.push _).size = _; simp)
    have HBw2 := Lib.hid (below_then HBw.out HBw.out.size HAL.out)
    have HIH := Lib.hid (HREC.out y (by have := kid_lt (x := ⟨o, nm, a, f, t, k⟩) hmem; have := HSZ.out; omega) true _ _ ok (Kd.FK_step qF (fun k _ hk => HBw2.out.block k hk)) (fun k hk => Nat.lt_of_lt_of_le (HOK.out k hk) HBw2.out.size) (wf_kid HWF.out hmem) (by have := kid_lt (x := ⟨o, nm, a, f, t, k⟩) hmem; have := H200.out; omega))
    clear qF hmem hy
    go_wp2_with fail
    refine HIH.out.mono ?_
    rintro e w4 ⟨ds, rfl, hF4, hB4⟩
    obtain ⟨z, hz⟩ : ∃ z, nf y true = z := ⟨_, rfl⟩
    have HTM2 := Lib.hid (show (k.take (i + 1)).map (fun y => nf y true) = (k.take i).map (fun y => nf y true) ++ [z] by rw [← hz]; exact HTM.out)
    rw [hz] at hF4
    have HF4 := Lib.hid hF4
    have HS4 := Lib.hid hB4.size
    have HN4 := Lib.hid (Kd.N_below (Kd.N_below HN.out HAL.out) hB4)
    have HNL := Lib.hid (Kd.N_lt HN.out g rfl)
    have HB4 := Lib.hid (below_then (below_then HBL.out HBL.out.size HAL.out) (below_then HBL.out HBL.out.size HAL.out).size hB4)
    obtain ⟨B2, d2, B5, d5, rfl, -⟩ := k32_openF hF4
    clear hF4 hB4 hz HIH HTM q0 q1 q2 q3 q4 q5
    go_wp2_with (first | (at_builtin; go_loud (refine Kd.N_append k32 (w0 := w3) (W := w4) w3.heap.size rfl (.tmp 90) (.tmp 94) 30 32 _ 88 rfl Tryz.underlying30 info32 rfl (by decide) (by decide) (.slice (some ⟨g, 0, none⟩) i cap) ((k.take i).map (fun y => nf y true)) z [.int .i64 z.f0, .string z.f1, .slice B2 z.f2.length d2, .int .i64 z.f3, .int .i64 z.f4, .slice B5 z.f5.length d5] (OkN ok w3.heap.size) _ rfl rfl HF4.out (fun k hk => ⟨by
     rcases hk with hk | hk
     ·exact Or.inl hk
     ·exact Or.inr (by have := HAS.out; have := HBL.out.size; omega), fun e => by
     have h1 := Kd.N_base HN.out k e.symm
     rcases hk with hk | hk
     ·have := HOK.out k hk; have := HW.out.1; omega
     ·have := HAS.out; have := HNL.out; have e2 : k = g := Option.some.inj e; omega⟩) (fun k hk => Or.inr (by have := HB4.out.size; omega)) HN4.out HB4.out HB4.out.size (by rw [List.length_map, List.length_take]; have := HKL.out; omega) ?_); intro v9 w9 hr9 hb9 hg9 hat9; rw [← HTM2.out] at hr9; have HNX := Lib.hid (mp_next hlt rfl hr9 hb9 hat9); clear hr9 hb9 hg9 hat9) | fail)
    go_roundw
    case rel => exact HNX.out
    case measure => have := HKL.out; simp [intOf]; omega
   ·have hil : i = k.length := by omega
    subst hil
    clear hlt hi
    have hN2 := HN.out
    rw [List.take_length] at hN2
    obtain ⟨ps, hrow, hmap⟩ := row_of_N hN2
    have HROW := Lib.hid hrow
    have hpl : ps.length = k.length := by rw [← List.length_map (f := fun p : S32 × List Value => p.1), hmap, List.length_map]
    have hp0 : 0 < ps.length := by have := HK1.out; omega
    obtain ⟨P2, p2, P5, p5, ex, x0, x1, x2, x3, x4, x5⟩ := row_at hrow 0 hp0
    have hz0 : ps[0].1 = (k.map (fun y => nf y true)).getD 0 z32 := by rw [← hmap]; simp [List.getD_eq_getElem?_getD, hp0]
    have HFY := Lib.hid (hrow.fk _ (List.getElem_mem hp0))
    rw [ex] at HFY
    obtain ⟨y, hy⟩ : ∃ y, ps[0].1 = y := ⟨_, rfl⟩
    rw [hy] at x0 x1 x2 x3 x4 x5 HFY hz0
    have HZ0 := Lib.hid hz0
    have HYC := Lib.hid (show ∀ W, Below wr.heap.size wr W → (W.cell? ⟨g, 0, none⟩ = some (.int .i64 y.f0) ∧ W.cell? ⟨g, 0 + 1, none⟩ = some (.string y.f1) ∧ W.cell? ⟨g, 0 + 2, none⟩ = some (.slice P2 y.f2.length p2) ∧ W.cell? ⟨g, 0 + 3, none⟩ = some (.int .i64 y.f3) ∧ W.cell? ⟨g, 0 + 4, none⟩ = some (.int .i64 y.f4) ∧ W.cell? ⟨g, 0 + 5, none⟩ = some (.slice P5 y.f5.length p5)) from fun W hW => ⟨cell_up hW (by simpa using x0), cell_up hW (by simpa using x1), cell_up hW (by simpa using x2), cell_up hW (by simpa using x3), cell_up hW (by simpa using x4), cell_up hW (by simpa using x5)⟩)
    have HBX := Lib.hid (show ∀ W, Below wr.heap.size wr W → W.cell? ⟨w.heap.size, 1, none⟩ = some (.string nm) from fun W hW => cell_up hW (cell_up HBL.out (blk_cell HW.out.2.1 1)))
    have r5 : (Q == (5 : Int)) = false := by have := HQN.out; have := HQ.out; unfold oppo at this; simp; omega
    have r6 : (Q == (6 : Int)) = false := by have := HQN.out; have := HQ.out; unfold oppo at this; simp; omega
    have i0 : (0 : Int) < (k.length : Int) := by have := HK1.out; omega
    have i1 : 0 < k.length := by have := HK1.out; omega
    clear ex hz0 hy hpl hmap hrow hN2 x0 x1 x2 x3 x4 x5
    go_wp2
    refine start_ (n := 8) (S := fun w' => Below wr.heap.size wr w') (ds := [7]) #[false, false, false, false, false, false, false, false] (by kernel_rfl) rfl rfl (Below.drew (Below.refl _ _)) (fun hHeld => ?_)
    generalize wr.drew = w5 at hHeld ⊢
    refine pure_ (i := 0) (N := (some 106)) (v := ?_) (a' := ?_) #[true, false, false, false, false, false, false, false] rfl rfl (by kernel_rfl) (fun _ _ _ h => h) (Or.inl ⟨by rfl, ?_⟩) ?_ ?_
    rotate_left
    ·intro w'
     go_simp
     with_reducible rfl
    rotate_left
    ·simp only [Act.put, List.setIfInBounds_toArray, List.set_cons_zero, List.set_cons_succ]
     rfl
    refine pure_ (i := 1) (N := (some 107)) (v := ?_) (a' := ?_) #[true, true, false, false, false, false, false, false] rfl rfl (by kernel_rfl) (fun _ _ _ h => h) (Or.inl ⟨by rfl, ?_⟩) ?_ ?_
    rotate_left
    ·intro w'
     go_simp
     with_reducible rfl
    rotate_left
    ·simp only [Act.put, List.setIfInBounds_toArray, List.set_cons_zero, List.set_cons_succ]
     rfl
    refine take_ (i := 2) (N := (some 108)) (v := ?_) (a' := ?_) #[true, true, true, false, false, false, false, false] rfl rfl (by kernel_rfl) (fun _ _ _ h => h) (Or.inl ⟨by rfl, ?_⟩) hHeld ?_ ?_
    rotate_left
    ·rintro w' s0
     have k5 := HBX.out _ s0
     go_simp
     with_reducible rfl
    rotate_left
    ·simp only [Act.put, List.setIfInBounds_toArray, List.set_cons_zero, List.set_cons_succ]
     rfl
    refine pure_ (i := 3) (N := (some 109)) (v := ?_) (a' := ?_) #[true, true, true, true, false, false, false, false] rfl rfl (by kernel_rfl) (fun _ _ _ h => h) (Or.inl ⟨by rfl, ?_⟩) ?_ ?_
    rotate_left
    ·intro w'
     go_simp
     with_reducible rfl
    rotate_left
    ·simp only [Act.put, List.setIfInBounds_toArray, List.set_cons_zero, List.set_cons_succ]
     rfl
    refine pure_ (i := 4) (N := (some 110)) (v := ?_) (a' := ?_) #[true, true, true, true, true, false, false, false] rfl rfl (by kernel_rfl) (fun _ _ _ h => h) (Or.inl ⟨by rfl, ?_⟩) ?_ ?_
    rotate_left
    ·intro w'
     go_simp
     with_reducible rfl
    rotate_left
    ·simp only [Act.put, List.setIfInBounds_toArray, List.set_cons_zero, List.set_cons_succ]
     rfl
    refine take_ (i := 5) (N := (some 111)) (v := ?_) (a' := ?_) #[true, true, true, true, true, true, false, false] rfl rfl (by kernel_rfl) (fun _ _ _ h => h) (Or.inl ⟨by rfl, ?_⟩) hHeld ?_ ?_
    rotate_left
    ·rintro w' s0
     obtain ⟨k0, k1, k2, k3, k4, k5⟩ := HYC.out _ s0
     go_simp
     with_reducible rfl
    rotate_left
    ·simp only [Act.put, List.setIfInBounds_toArray, List.set_cons_zero, List.set_cons_succ]
     rfl
    refine one_ (i := 6) (N := (some 112)) #[true, true, true, true, true, true, true, false] rfl rfl (by kernel_rfl) (by decide) (fun K hK => ?_)
    go_simp
    refine (over_any Q nm (Kd.FK_step (Kd.FK_bound HFY.out) (fun k _ hk => hHeld.block k hk)) (fun k hk => Nat.lt_of_lt_of_le hk.2 hHeld.size) (by rw [HZ0.out]; exact HSZ0.out true)).mono ?_
    rintro e w6 ⟨ds, rfl, hF6, hB6⟩
    have HB6 := Lib.hid (below_then hHeld hHeld.size hB6)
    have HS5 := Lib.hid hHeld.size
    have HBw6 := Lib.hid (below_then HBw.out HBw.out.size (below_then hHeld hHeld.size hB6))
    have HSB := Lib.hid (((below_then HBL.out HBL.out.size (below_then hHeld hHeld.size hB6)).block (w.heap.size + 1) (by rw [HW.out.1]; omega)).trans HW.out.2.2.1)
    obtain ⟨z, hz⟩ : ∃ z, overF Q nm y = z := ⟨_, rfl⟩
    have HE2 := Lib.hid (show nf ⟨o, nm, a, f, t, k⟩ true = z by rw [HE.out, ← HZ0.out]; exact hz)
    rw [hz] at hF6
    have HF6 := Lib.hid hF6
    obtain ⟨B2, d2, B5, d5, rfl, -⟩ := k32_openF hF6
    obtain ⟨y0, y1, y2, y3, y4, y5, f0, f1, f2, f3, f4, f5⟩ := slot_cells HSB.out
    clear hF6 hB6 hz
    refine hK.out _ _ HB6.out (fun hHeld => ?_)
    clear hK K
    (try simp only [Act.put, List.setIfInBounds_toArray, List.set_cons_zero, List.set_cons_succ])
    refine last_ (i := 7) (N := none) #[true, true, true, true, true, true, true, true] rfl rfl (by kernel_rfl) (by decide) (fun K hK => ?_)
    go_simp
    refine hK.out _ _ ?_
    clear hK K
    (try simp only [Act.put, List.setIfInBounds_toArray, List.set_cons_zero, List.set_cons_succ])
    refine done_ (by kernel_rfl) ?_
    go_wp2
    refine bodyPost_ret (res_slot rfl _ _ _ _ _ _ _ _ _ rfl (six_blk HSB.out _ _ _ _ _ _)) rfl ?_
    rw [HE2.out]
    exact slot_done HF6.out HBw6.out (by omega) (fun k hk => by
     have h1 := HW.out.1
     have h2 := HBL.out.size
     have h3 := HS5.out
     rcases hk with ⟨⟨hk | hk, _⟩, _⟩ | hk
     ·have := HOK.out k hk; omega
     ·omega
     ·omega) (fun k hk => by
     have h1 := HW.out.1
     have h2 := HBL.out.size
     have h3 := HS5.out
     rcases hk with ⟨⟨hk | hk, _⟩, _⟩ | hk
     ·exact Or.inl hk
     ·exact Or.inr (by omega)
     ·exact Or.inr (by omega))
theorem wf_args {x : S32} (h : Wf x) : x.f2.length ≤ 3 := by
 obtain ⟨v, hv⟩ := h
 rw [formed_is, Bool.and_eq_true] at hv
 have h1 := hv.1
 unfold fieldsF at h1
 repeat' split at h1
 all_goals simp only [beq_iff_eq, Bool.and_eq_true, decide_eq_true_eq, Bool.false_eq_true] at h1
 all_goals omega
theorem len_two {l : List S32} (h : l.length = 2) : ∃ y z, l = [y, z] := by
 match l, h with
 | [y, z], _ => exact ⟨y, z, rfl⟩
theorem nr_all : ∀ n, NrTo n
 | 0 => fun x h => absurd h (Nat.not_lt_zero _)
 | n + 1 => by
  have hrec := nr_all n
  rintro ⟨o, nm, a, f, t, k⟩ hx neg w cs ok hF hok hwf h200
  have hs := wf_shape hwf
  have ha := wf_args hwf
  dsimp only at hs ha
  have hkid : ∀ y ∈ k, size y < n ∧ Wf y ∧ size y ≤ 200 := fun y hy => by
   have h1 := kid_lt (x := ⟨o, nm, a, f, t, k⟩) hy
   exact ⟨by omega, wf_kid hwf hy, by omega⟩
  by_cases h12 : o = 1 ∨ o = 2
  ·exact nr_const h12 neg hF hok
  ·by_cases h3 : o = 3
   ·subst h3
    exact nr_atom neg (by omega) hF hok
   ·by_cases h4 : o = 4
    ·subst h4
     obtain ⟨y, rfl⟩ := List.length_eq_one_iff.1 (hs.2.2.1 (by omega))
     obtain ⟨b1, b2, b3⟩ := hkid y (by simp)
     exact nr_not hrec b1 b2 b3 neg hF hok
    ·by_cases h7 : o = 7
     ·subst h7
      obtain ⟨y, z, rfl⟩ := len_two (hs.2.2.2.1 rfl)
      obtain ⟨b1, b2, b3⟩ := hkid y (by simp)
      obtain ⟨d1, d2, d3⟩ := hkid z (by simp)
      exact nr_imp hrec b1 d1 b2 d2 b3 d3 neg hF hok
     ·by_cases h10 : o = 10
      ·subst h10
       obtain ⟨y, rfl⟩ := List.length_eq_one_iff.1 (hs.2.2.1 (by omega))
       obtain ⟨b1, b2, b3⟩ := hkid y (by simp)
       exact nr_dur hrec b1 b2 b3 neg hF hok
      ·by_cases h56 : o = 5 ∨ o = 6
       ·exact nr_A hrec h56 hx hwf h200 neg hF hok
       ·exact nr_B hrec (by omega) hx hwf h200 neg hF hok
theorem nr_any {x : S32} {w : World} {cs : List Value} {ok : Nat → Prop} (neg : Bool) (hF : Kd.FK k32 w ok x cs) (hok : ∀ k, ok k → k < w.heap.size) (hwf : Wf x) (h200 : size x ≤ 200) :
  Calls Tryz.prog 52 #[.agg cs.toArray, .bool neg] w fun e w' => Fr w w' ok (nf x neg) e := nr_all (size x + 1) x (by omega) neg w cs ok hF hok hwf h200
theorem one_blk (w : World) (X : Array Value) : (w.alloc (.cells X 32)).heap[w.heap.size]? = some (.cells X 32 (0, 0)) ∧ Below w.heap.size w (w.alloc (.cells X 32)) := ⟨blk_new w _, (Below.refl _ _).alloc (Nat.le_refl _) _⟩
theorem drawn_blk {W W' : World} {b : Nat} {o : Obj} (h : Drawn0 W W') (hb : W.heap[b]? = some o) : W'.heap[b]? = some o := by
 obtain ⟨m, rfl⟩ := h.out
 exact hb
theorem binds_f (o : Int) : formula_binds.f o = some (decide (o = 8) || (o == 9)) := by
 unfold formula_binds.f
 by_cases h : o = 8
 ·rw [if_pos h]; simp [h]
 ·rw [if_neg h]; simp [h]
theorem cells_of {w : World} {s : Nat} {c0 c1 c2 c3 c4 c5 : Value} (h : w.heap[s]? = some (.cells #[c0, c1, c2, c3, c4, c5] 32 (0, 0))) :
  w.cell? ⟨s, 0, none⟩ = some c0 ∧ w.cell? ⟨s, 1, none⟩ = some c1 ∧ w.cell? ⟨s, 2, none⟩ = some c2 ∧ w.cell? ⟨s, 3, none⟩ = some c3 ∧ w.cell? ⟨s, 4, none⟩ = some c4 ∧ w.cell? ⟨s, 5, none⟩ = some c5 :=
 ⟨blk_cell h 0, blk_cell h 1, blk_cell h 2, blk_cell h 3, blk_cell h 4, blk_cell h 5⟩
set_option maxRecDepth 1000000 in
set_option maxHeartbeats 4000000 in
theorem fd1 {nm : ByteArray} {a : List S84} {f t : Int} {k : List S32} {w : World} {A2 A5 : Option Addr} {c2 c5 : Nat} (v : Int) (hk5 : k.length ≤ 9223372036854775807) (ha5 : a.length ≤ 9223372036854775807) (hnm : nm.size ≤ 100) :
  Calls Tryz.prog 110 #[.agg #[.int .i64 1, .string nm, .slice A2 a.length c2, .int .i64 f, .int .i64 t, .slice A5 k.length c5], .int .i64 v] w fun e w' => e = .returned (.bool (fieldsF ⟨1, nm, a, f, t, k⟩ v)) ∧ Below w.heap.size w w' := by
 have HBX := Lib.hid (one_blk w #[.int .i64 1, .string nm, .slice A2 a.length c2, .int .i64 f, .int .i64 t, .slice A5 k.length c5]).1
 have HB := Lib.hid (one_blk w #[.int .i64 1, .string nm, .slice A2 a.length c2, .int .i64 f, .int .i64 t, .slice A5 k.length c5]).2
 have HS := Lib.hid (symB_is hnm)
 clear hnm
 by_cases hf : f = 0
 ·subst hf
  by_cases ht : t = 0
  ·subst ht
   by_cases ha : a.length = 0
   ·obtain rfl := List.eq_nil_of_length_eq_zero ha
    clear ha
    by_cases hn : nm.toList = []
    ·have n1 : (nm.toList == ([] : List UInt8)) = true := beq_iff_eq.mpr hn
     have n2 : (nm.toList != ([] : List UInt8)) = false := bne_eq_false_iff_eq.mpr hn
     have HN := Lib.hid hn
     clear hn
     by_cases hk : k.length = 0
     ·have HE := Lib.hid (show fieldsF ⟨1, nm, [], 0, 0, k⟩ v = true by simp [fieldsF, HN.out, hk])
      have m1 : ((k.length : Int) == (0 : Int)) = true := beq_iff_eq.mpr (by omega)
      have m2 : (k.length == 0) = true := by simpa using hk
      have HKL := Lib.hid hk
      clear hk
      go_enter Tryz.func110, Tryz.ntmps110
      go_wp2_with fail
      refine (formula_binds.calls 1 _ _ (binds_f 1)).mono ?_
      rintro e w3 ⟨rfl, hd⟩
      have HBX := Lib.hid (drawn_blk hd HBX.out)
      have HB := Lib.hid (below_then HB.out HB.out.size hd.below)
      clear hd
      obtain ⟨k0, k1, k2, k3, k4, k5⟩ := cells_of HBX.out
      go_wp2
      go_ret
      exact ⟨by rw [HE.out]; rfl, HB.out⟩
     ·have HE := Lib.hid (show fieldsF ⟨1, nm, [], 0, 0, k⟩ v = false by simp only [fieldsF, HN.out]; simp; simpa using hk)
      have m1 : ((k.length : Int) == (0 : Int)) = false := beq_eq_false_iff_ne.mpr (by omega)
      have m2 : (k.length == 0) = false := by simpa using hk
      clear hk
      go_enter Tryz.func110, Tryz.ntmps110
      go_wp2_with fail
      refine (formula_binds.calls 1 _ _ (binds_f 1)).mono ?_
      rintro e w3 ⟨rfl, hd⟩
      have HBX := Lib.hid (drawn_blk hd HBX.out)
      have HB := Lib.hid (below_then HB.out HB.out.size hd.below)
      clear hd
      obtain ⟨k0, k1, k2, k3, k4, k5⟩ := cells_of HBX.out
      go_wp2
      go_ret
      exact ⟨by rw [HE.out]; rfl, HB.out⟩
    ·have HE := Lib.hid (show fieldsF ⟨1, nm, [], 0, 0, k⟩ v = false by simp [fieldsF, hn])
     have n1 : (nm.toList == ([] : List UInt8)) = false := beq_eq_false_iff_ne.mpr hn
     have n2 : (nm.toList != ([] : List UInt8)) = true := bne_iff_ne.mpr hn
     clear hn
     go_enter Tryz.func110, Tryz.ntmps110
     go_wp2_with fail
     refine (formula_binds.calls 1 _ _ (binds_f 1)).mono ?_
     rintro e w3 ⟨rfl, hd⟩
     have HBX := Lib.hid (drawn_blk hd HBX.out)
     have HB := Lib.hid (below_then HB.out HB.out.size hd.below)
     clear hd
     obtain ⟨k0, k1, k2, k3, k4, k5⟩ := cells_of HBX.out
     go_wp2
     go_ret
     exact ⟨by rw [HE.out]; rfl, HB.out⟩
   ·have h0 : 0 < a.length := by omega
    have HE := Lib.hid (show fieldsF ⟨1, nm, a, 0, 0, k⟩ v = false by simp [fieldsF, h0])
    have g1 : decide ((0 : Int) < (a.length : Int)) = true := decide_eq_true (by omega)
    have g2 : decide (0 < a.length) = true := decide_eq_true h0
    clear ha h0
    go_enter Tryz.func110, Tryz.ntmps110
    go_wp2
    go_ret
    exact ⟨by rw [HE.out]; rfl, HB.out⟩
  ·have HE := Lib.hid (show fieldsF ⟨1, nm, a, 0, t, k⟩ v = false by simp [fieldsF, ht])
   have g1 : (t != (0 : Int)) = true := by simpa using ht
   clear ht
   go_enter Tryz.func110, Tryz.ntmps110
   go_wp2
   go_ret
   exact ⟨by rw [HE.out]; rfl, HB.out⟩
 ·have HE := Lib.hid (show fieldsF ⟨1, nm, a, f, t, k⟩ v = false by simp [fieldsF, hf])
  have g1 : (f != (0 : Int)) = true := by simpa using hf
  clear hf
  go_enter Tryz.func110, Tryz.ntmps110
  go_wp2
  go_ret
  exact ⟨by rw [HE.out]; rfl, HB.out⟩
set_option maxRecDepth 1000000 in
set_option maxHeartbeats 4000000 in
theorem fd2 {nm : ByteArray} {a : List S84} {f t : Int} {k : List S32} {w : World} {A2 A5 : Option Addr} {c2 c5 : Nat} (v : Int) (hk5 : k.length ≤ 9223372036854775807) (ha5 : a.length ≤ 9223372036854775807) (hnm : nm.size ≤ 100) :
  Calls Tryz.prog 110 #[.agg #[.int .i64 2, .string nm, .slice A2 a.length c2, .int .i64 f, .int .i64 t, .slice A5 k.length c5], .int .i64 v] w fun e w' => e = .returned (.bool (fieldsF ⟨2, nm, a, f, t, k⟩ v)) ∧ Below w.heap.size w w' := by
 have HBX := Lib.hid (one_blk w #[.int .i64 2, .string nm, .slice A2 a.length c2, .int .i64 f, .int .i64 t, .slice A5 k.length c5]).1
 have HB := Lib.hid (one_blk w #[.int .i64 2, .string nm, .slice A2 a.length c2, .int .i64 f, .int .i64 t, .slice A5 k.length c5]).2
 have HS := Lib.hid (symB_is hnm)
 clear hnm
 by_cases hf : f = 0
 ·subst hf
  by_cases ht : t = 0
  ·subst ht
   by_cases ha : a.length = 0
   ·obtain rfl := List.eq_nil_of_length_eq_zero ha
    clear ha
    by_cases hn : nm.toList = []
    ·have n1 : (nm.toList == ([] : List UInt8)) = true := beq_iff_eq.mpr hn
     have n2 : (nm.toList != ([] : List UInt8)) = false := bne_eq_false_iff_eq.mpr hn
     have HN := Lib.hid hn
     clear hn
     by_cases hk : k.length = 0
     ·have HE := Lib.hid (show fieldsF ⟨2, nm, [], 0, 0, k⟩ v = true by simp [fieldsF, HN.out, hk])
      have m1 : ((k.length : Int) == (0 : Int)) = true := beq_iff_eq.mpr (by omega)
      have m2 : (k.length == 0) = true := by simpa using hk
      have HKL := Lib.hid hk
      clear hk
      go_enter Tryz.func110, Tryz.ntmps110
      go_wp2_with fail
      refine (formula_binds.calls 2 _ _ (binds_f 2)).mono ?_
      rintro e w3 ⟨rfl, hd⟩
      have HBX := Lib.hid (drawn_blk hd HBX.out)
      have HB := Lib.hid (below_then HB.out HB.out.size hd.below)
      clear hd
      obtain ⟨k0, k1, k2, k3, k4, k5⟩ := cells_of HBX.out
      go_wp2
      go_ret
      exact ⟨by rw [HE.out]; rfl, HB.out⟩
     ·have HE := Lib.hid (show fieldsF ⟨2, nm, [], 0, 0, k⟩ v = false by simp only [fieldsF, HN.out]; simp; simpa using hk)
      have m1 : ((k.length : Int) == (0 : Int)) = false := beq_eq_false_iff_ne.mpr (by omega)
      have m2 : (k.length == 0) = false := by simpa using hk
      clear hk
      go_enter Tryz.func110, Tryz.ntmps110
      go_wp2_with fail
      refine (formula_binds.calls 2 _ _ (binds_f 2)).mono ?_
      rintro e w3 ⟨rfl, hd⟩
      have HBX := Lib.hid (drawn_blk hd HBX.out)
      have HB := Lib.hid (below_then HB.out HB.out.size hd.below)
      clear hd
      obtain ⟨k0, k1, k2, k3, k4, k5⟩ := cells_of HBX.out
      go_wp2
      go_ret
      exact ⟨by rw [HE.out]; rfl, HB.out⟩
    ·have HE := Lib.hid (show fieldsF ⟨2, nm, [], 0, 0, k⟩ v = false by simp [fieldsF, hn])
     have n1 : (nm.toList == ([] : List UInt8)) = false := beq_eq_false_iff_ne.mpr hn
     have n2 : (nm.toList != ([] : List UInt8)) = true := bne_iff_ne.mpr hn
     clear hn
     go_enter Tryz.func110, Tryz.ntmps110
     go_wp2_with fail
     refine (formula_binds.calls 2 _ _ (binds_f 2)).mono ?_
     rintro e w3 ⟨rfl, hd⟩
     have HBX := Lib.hid (drawn_blk hd HBX.out)
     have HB := Lib.hid (below_then HB.out HB.out.size hd.below)
     clear hd
     obtain ⟨k0, k1, k2, k3, k4, k5⟩ := cells_of HBX.out
     go_wp2
     go_ret
     exact ⟨by rw [HE.out]; rfl, HB.out⟩
   ·have h0 : 0 < a.length := by omega
    have HE := Lib.hid (show fieldsF ⟨2, nm, a, 0, 0, k⟩ v = false by simp [fieldsF, h0])
    have g1 : decide ((0 : Int) < (a.length : Int)) = true := decide_eq_true (by omega)
    have g2 : decide (0 < a.length) = true := decide_eq_true h0
    clear ha h0
    go_enter Tryz.func110, Tryz.ntmps110
    go_wp2
    go_ret
    exact ⟨by rw [HE.out]; rfl, HB.out⟩
  ·have HE := Lib.hid (show fieldsF ⟨2, nm, a, 0, t, k⟩ v = false by simp [fieldsF, ht])
   have g1 : (t != (0 : Int)) = true := by simpa using ht
   clear ht
   go_enter Tryz.func110, Tryz.ntmps110
   go_wp2
   go_ret
   exact ⟨by rw [HE.out]; rfl, HB.out⟩
 ·have HE := Lib.hid (show fieldsF ⟨2, nm, a, f, t, k⟩ v = false by simp [fieldsF, hf])
  have g1 : (f != (0 : Int)) = true := by simpa using hf
  clear hf
  go_enter Tryz.func110, Tryz.ntmps110
  go_wp2
  go_ret
  exact ⟨by rw [HE.out]; rfl, HB.out⟩
set_option maxRecDepth 1000000 in
set_option maxHeartbeats 4000000 in
theorem fd4 {nm : ByteArray} {a : List S84} {f t : Int} {k : List S32} {w : World} {A2 A5 : Option Addr} {c2 c5 : Nat} (v : Int) (hk5 : k.length ≤ 9223372036854775807) (ha5 : a.length ≤ 9223372036854775807) (hnm : nm.size ≤ 100) :
  Calls Tryz.prog 110 #[.agg #[.int .i64 4, .string nm, .slice A2 a.length c2, .int .i64 f, .int .i64 t, .slice A5 k.length c5], .int .i64 v] w fun e w' => e = .returned (.bool (fieldsF ⟨4, nm, a, f, t, k⟩ v)) ∧ Below w.heap.size w w' := by
 have HBX := Lib.hid (one_blk w #[.int .i64 4, .string nm, .slice A2 a.length c2, .int .i64 f, .int .i64 t, .slice A5 k.length c5]).1
 have HB := Lib.hid (one_blk w #[.int .i64 4, .string nm, .slice A2 a.length c2, .int .i64 f, .int .i64 t, .slice A5 k.length c5]).2
 have HS := Lib.hid (symB_is hnm)
 clear hnm
 by_cases hf : f = 0
 ·subst hf
  by_cases ht : t = 0
  ·subst ht
   by_cases ha : a.length = 0
   ·obtain rfl := List.eq_nil_of_length_eq_zero ha
    clear ha
    by_cases hn : nm.toList = []
    ·have n1 : (nm.toList == ([] : List UInt8)) = true := beq_iff_eq.mpr hn
     have n2 : (nm.toList != ([] : List UInt8)) = false := bne_eq_false_iff_eq.mpr hn
     have HN := Lib.hid hn
     clear hn
     by_cases hk : k.length = 1
     ·have HE := Lib.hid (show fieldsF ⟨4, nm, [], 0, 0, k⟩ v = true by simp [fieldsF, HN.out, hk])
      have m1 : ((k.length : Int) == (1 : Int)) = true := beq_iff_eq.mpr (by omega)
      have m2 : (k.length == 1) = true := by simpa using hk
      have HKL := Lib.hid hk
      clear hk
      go_enter Tryz.func110, Tryz.ntmps110
      go_wp2_with fail
      refine (formula_binds.calls 4 _ _ (binds_f 4)).mono ?_
      rintro e w3 ⟨rfl, hd⟩
      have HBX := Lib.hid (drawn_blk hd HBX.out)
      have HB := Lib.hid (below_then HB.out HB.out.size hd.below)
      clear hd
      obtain ⟨k0, k1, k2, k3, k4, k5⟩ := cells_of HBX.out
      go_wp2
      go_ret
      exact ⟨by rw [HE.out]; rfl, HB.out⟩
     ·have HE := Lib.hid (show fieldsF ⟨4, nm, [], 0, 0, k⟩ v = false by simp only [fieldsF, HN.out]; simp; simpa using hk)
      have m1 : ((k.length : Int) == (1 : Int)) = false := beq_eq_false_iff_ne.mpr (by omega)
      have m2 : (k.length == 1) = false := by simpa using hk
      clear hk
      go_enter Tryz.func110, Tryz.ntmps110
      go_wp2_with fail
      refine (formula_binds.calls 4 _ _ (binds_f 4)).mono ?_
      rintro e w3 ⟨rfl, hd⟩
      have HBX := Lib.hid (drawn_blk hd HBX.out)
      have HB := Lib.hid (below_then HB.out HB.out.size hd.below)
      clear hd
      obtain ⟨k0, k1, k2, k3, k4, k5⟩ := cells_of HBX.out
      go_wp2
      go_ret
      exact ⟨by rw [HE.out]; rfl, HB.out⟩
    ·have HE := Lib.hid (show fieldsF ⟨4, nm, [], 0, 0, k⟩ v = false by simp [fieldsF, hn])
     have n1 : (nm.toList == ([] : List UInt8)) = false := beq_eq_false_iff_ne.mpr hn
     have n2 : (nm.toList != ([] : List UInt8)) = true := bne_iff_ne.mpr hn
     clear hn
     go_enter Tryz.func110, Tryz.ntmps110
     go_wp2_with fail
     refine (formula_binds.calls 4 _ _ (binds_f 4)).mono ?_
     rintro e w3 ⟨rfl, hd⟩
     have HBX := Lib.hid (drawn_blk hd HBX.out)
     have HB := Lib.hid (below_then HB.out HB.out.size hd.below)
     clear hd
     obtain ⟨k0, k1, k2, k3, k4, k5⟩ := cells_of HBX.out
     go_wp2
     go_ret
     exact ⟨by rw [HE.out]; rfl, HB.out⟩
   ·have h0 : 0 < a.length := by omega
    have HE := Lib.hid (show fieldsF ⟨4, nm, a, 0, 0, k⟩ v = false by simp [fieldsF, h0])
    have g1 : decide ((0 : Int) < (a.length : Int)) = true := decide_eq_true (by omega)
    have g2 : decide (0 < a.length) = true := decide_eq_true h0
    clear ha h0
    go_enter Tryz.func110, Tryz.ntmps110
    go_wp2
    go_ret
    exact ⟨by rw [HE.out]; rfl, HB.out⟩
  ·have HE := Lib.hid (show fieldsF ⟨4, nm, a, 0, t, k⟩ v = false by simp [fieldsF, ht])
   have g1 : (t != (0 : Int)) = true := by simpa using ht
   clear ht
   go_enter Tryz.func110, Tryz.ntmps110
   go_wp2
   go_ret
   exact ⟨by rw [HE.out]; rfl, HB.out⟩
 ·have HE := Lib.hid (show fieldsF ⟨4, nm, a, f, t, k⟩ v = false by simp [fieldsF, hf])
  have g1 : (f != (0 : Int)) = true := by simpa using hf
  clear hf
  go_enter Tryz.func110, Tryz.ntmps110
  go_wp2
  go_ret
  exact ⟨by rw [HE.out]; rfl, HB.out⟩
set_option maxRecDepth 1000000 in
set_option maxHeartbeats 4000000 in
theorem fd11 {nm : ByteArray} {a : List S84} {f t : Int} {k : List S32} {w : World} {A2 A5 : Option Addr} {c2 c5 : Nat} (v : Int) (hk5 : k.length ≤ 9223372036854775807) (ha5 : a.length ≤ 9223372036854775807) (hnm : nm.size ≤ 100) :
  Calls Tryz.prog 110 #[.agg #[.int .i64 11, .string nm, .slice A2 a.length c2, .int .i64 f, .int .i64 t, .slice A5 k.length c5], .int .i64 v] w fun e w' => e = .returned (.bool (fieldsF ⟨11, nm, a, f, t, k⟩ v)) ∧ Below w.heap.size w w' := by
 have HBX := Lib.hid (one_blk w #[.int .i64 11, .string nm, .slice A2 a.length c2, .int .i64 f, .int .i64 t, .slice A5 k.length c5]).1
 have HB := Lib.hid (one_blk w #[.int .i64 11, .string nm, .slice A2 a.length c2, .int .i64 f, .int .i64 t, .slice A5 k.length c5]).2
 have HS := Lib.hid (symB_is hnm)
 clear hnm
 by_cases hf : f = 0
 ·subst hf
  by_cases ht : t = 0
  ·subst ht
   by_cases ha : a.length = 0
   ·obtain rfl := List.eq_nil_of_length_eq_zero ha
    clear ha
    by_cases hn : nm.toList = []
    ·have n1 : (nm.toList == ([] : List UInt8)) = true := beq_iff_eq.mpr hn
     have n2 : (nm.toList != ([] : List UInt8)) = false := bne_eq_false_iff_eq.mpr hn
     have HN := Lib.hid hn
     clear hn
     by_cases hk : k.length = 1
     ·have HE := Lib.hid (show fieldsF ⟨11, nm, [], 0, 0, k⟩ v = true by simp [fieldsF, HN.out, hk])
      have m1 : ((k.length : Int) == (1 : Int)) = true := beq_iff_eq.mpr (by omega)
      have m2 : (k.length == 1) = true := by simpa using hk
      have HKL := Lib.hid hk
      clear hk
      go_enter Tryz.func110, Tryz.ntmps110
      go_wp2_with fail
      refine (formula_binds.calls 11 _ _ (binds_f 11)).mono ?_
      rintro e w3 ⟨rfl, hd⟩
      have HBX := Lib.hid (drawn_blk hd HBX.out)
      have HB := Lib.hid (below_then HB.out HB.out.size hd.below)
      clear hd
      obtain ⟨k0, k1, k2, k3, k4, k5⟩ := cells_of HBX.out
      go_wp2
      go_ret
      exact ⟨by rw [HE.out]; rfl, HB.out⟩
     ·have HE := Lib.hid (show fieldsF ⟨11, nm, [], 0, 0, k⟩ v = false by simp only [fieldsF, HN.out]; simp; simpa using hk)
      have m1 : ((k.length : Int) == (1 : Int)) = false := beq_eq_false_iff_ne.mpr (by omega)
      have m2 : (k.length == 1) = false := by simpa using hk
      clear hk
      go_enter Tryz.func110, Tryz.ntmps110
      go_wp2_with fail
      refine (formula_binds.calls 11 _ _ (binds_f 11)).mono ?_
      rintro e w3 ⟨rfl, hd⟩
      have HBX := Lib.hid (drawn_blk hd HBX.out)
      have HB := Lib.hid (below_then HB.out HB.out.size hd.below)
      clear hd
      obtain ⟨k0, k1, k2, k3, k4, k5⟩ := cells_of HBX.out
      go_wp2
      go_ret
      exact ⟨by rw [HE.out]; rfl, HB.out⟩
    ·have HE := Lib.hid (show fieldsF ⟨11, nm, [], 0, 0, k⟩ v = false by simp [fieldsF, hn])
     have n1 : (nm.toList == ([] : List UInt8)) = false := beq_eq_false_iff_ne.mpr hn
     have n2 : (nm.toList != ([] : List UInt8)) = true := bne_iff_ne.mpr hn
     clear hn
     go_enter Tryz.func110, Tryz.ntmps110
     go_wp2_with fail
     refine (formula_binds.calls 11 _ _ (binds_f 11)).mono ?_
     rintro e w3 ⟨rfl, hd⟩
     have HBX := Lib.hid (drawn_blk hd HBX.out)
     have HB := Lib.hid (below_then HB.out HB.out.size hd.below)
     clear hd
     obtain ⟨k0, k1, k2, k3, k4, k5⟩ := cells_of HBX.out
     go_wp2
     go_ret
     exact ⟨by rw [HE.out]; rfl, HB.out⟩
   ·have h0 : 0 < a.length := by omega
    have HE := Lib.hid (show fieldsF ⟨11, nm, a, 0, 0, k⟩ v = false by simp [fieldsF, h0])
    have g1 : decide ((0 : Int) < (a.length : Int)) = true := decide_eq_true (by omega)
    have g2 : decide (0 < a.length) = true := decide_eq_true h0
    clear ha h0
    go_enter Tryz.func110, Tryz.ntmps110
    go_wp2
    go_ret
    exact ⟨by rw [HE.out]; rfl, HB.out⟩
  ·have HE := Lib.hid (show fieldsF ⟨11, nm, a, 0, t, k⟩ v = false by simp [fieldsF, ht])
   have g1 : (t != (0 : Int)) = true := by simpa using ht
   clear ht
   go_enter Tryz.func110, Tryz.ntmps110
   go_wp2
   go_ret
   exact ⟨by rw [HE.out]; rfl, HB.out⟩
 ·have HE := Lib.hid (show fieldsF ⟨11, nm, a, f, t, k⟩ v = false by simp [fieldsF, hf])
  have g1 : (f != (0 : Int)) = true := by simpa using hf
  clear hf
  go_enter Tryz.func110, Tryz.ntmps110
  go_wp2
  go_ret
  exact ⟨by rw [HE.out]; rfl, HB.out⟩
set_option maxRecDepth 1000000 in
set_option maxHeartbeats 4000000 in
theorem fd12 {nm : ByteArray} {a : List S84} {f t : Int} {k : List S32} {w : World} {A2 A5 : Option Addr} {c2 c5 : Nat} (v : Int) (hk5 : k.length ≤ 9223372036854775807) (ha5 : a.length ≤ 9223372036854775807) (hnm : nm.size ≤ 100) :
  Calls Tryz.prog 110 #[.agg #[.int .i64 12, .string nm, .slice A2 a.length c2, .int .i64 f, .int .i64 t, .slice A5 k.length c5], .int .i64 v] w fun e w' => e = .returned (.bool (fieldsF ⟨12, nm, a, f, t, k⟩ v)) ∧ Below w.heap.size w w' := by
 have HBX := Lib.hid (one_blk w #[.int .i64 12, .string nm, .slice A2 a.length c2, .int .i64 f, .int .i64 t, .slice A5 k.length c5]).1
 have HB := Lib.hid (one_blk w #[.int .i64 12, .string nm, .slice A2 a.length c2, .int .i64 f, .int .i64 t, .slice A5 k.length c5]).2
 have HS := Lib.hid (symB_is hnm)
 clear hnm
 by_cases hf : f = 0
 ·subst hf
  by_cases ht : t = 0
  ·subst ht
   by_cases ha : a.length = 0
   ·obtain rfl := List.eq_nil_of_length_eq_zero ha
    clear ha
    by_cases hn : nm.toList = []
    ·have n1 : (nm.toList == ([] : List UInt8)) = true := beq_iff_eq.mpr hn
     have n2 : (nm.toList != ([] : List UInt8)) = false := bne_eq_false_iff_eq.mpr hn
     have HN := Lib.hid hn
     clear hn
     by_cases hk : k.length = 1
     ·have HE := Lib.hid (show fieldsF ⟨12, nm, [], 0, 0, k⟩ v = true by simp [fieldsF, HN.out, hk])
      have m1 : ((k.length : Int) == (1 : Int)) = true := beq_iff_eq.mpr (by omega)
      have m2 : (k.length == 1) = true := by simpa using hk
      have HKL := Lib.hid hk
      clear hk
      go_enter Tryz.func110, Tryz.ntmps110
      go_wp2_with fail
      refine (formula_binds.calls 12 _ _ (binds_f 12)).mono ?_
      rintro e w3 ⟨rfl, hd⟩
      have HBX := Lib.hid (drawn_blk hd HBX.out)
      have HB := Lib.hid (below_then HB.out HB.out.size hd.below)
      clear hd
      obtain ⟨k0, k1, k2, k3, k4, k5⟩ := cells_of HBX.out
      go_wp2
      go_ret
      exact ⟨by rw [HE.out]; rfl, HB.out⟩
     ·have HE := Lib.hid (show fieldsF ⟨12, nm, [], 0, 0, k⟩ v = false by simp only [fieldsF, HN.out]; simp; simpa using hk)
      have m1 : ((k.length : Int) == (1 : Int)) = false := beq_eq_false_iff_ne.mpr (by omega)
      have m2 : (k.length == 1) = false := by simpa using hk
      clear hk
      go_enter Tryz.func110, Tryz.ntmps110
      go_wp2_with fail
      refine (formula_binds.calls 12 _ _ (binds_f 12)).mono ?_
      rintro e w3 ⟨rfl, hd⟩
      have HBX := Lib.hid (drawn_blk hd HBX.out)
      have HB := Lib.hid (below_then HB.out HB.out.size hd.below)
      clear hd
      obtain ⟨k0, k1, k2, k3, k4, k5⟩ := cells_of HBX.out
      go_wp2
      go_ret
      exact ⟨by rw [HE.out]; rfl, HB.out⟩
    ·have HE := Lib.hid (show fieldsF ⟨12, nm, [], 0, 0, k⟩ v = false by simp [fieldsF, hn])
     have n1 : (nm.toList == ([] : List UInt8)) = false := beq_eq_false_iff_ne.mpr hn
     have n2 : (nm.toList != ([] : List UInt8)) = true := bne_iff_ne.mpr hn
     clear hn
     go_enter Tryz.func110, Tryz.ntmps110
     go_wp2_with fail
     refine (formula_binds.calls 12 _ _ (binds_f 12)).mono ?_
     rintro e w3 ⟨rfl, hd⟩
     have HBX := Lib.hid (drawn_blk hd HBX.out)
     have HB := Lib.hid (below_then HB.out HB.out.size hd.below)
     clear hd
     obtain ⟨k0, k1, k2, k3, k4, k5⟩ := cells_of HBX.out
     go_wp2
     go_ret
     exact ⟨by rw [HE.out]; rfl, HB.out⟩
   ·have h0 : 0 < a.length := by omega
    have HE := Lib.hid (show fieldsF ⟨12, nm, a, 0, 0, k⟩ v = false by simp [fieldsF, h0])
    have g1 : decide ((0 : Int) < (a.length : Int)) = true := decide_eq_true (by omega)
    have g2 : decide (0 < a.length) = true := decide_eq_true h0
    clear ha h0
    go_enter Tryz.func110, Tryz.ntmps110
    go_wp2
    go_ret
    exact ⟨by rw [HE.out]; rfl, HB.out⟩
  ·have HE := Lib.hid (show fieldsF ⟨12, nm, a, 0, t, k⟩ v = false by simp [fieldsF, ht])
   have g1 : (t != (0 : Int)) = true := by simpa using ht
   clear ht
   go_enter Tryz.func110, Tryz.ntmps110
   go_wp2
   go_ret
   exact ⟨by rw [HE.out]; rfl, HB.out⟩
 ·have HE := Lib.hid (show fieldsF ⟨12, nm, a, f, t, k⟩ v = false by simp [fieldsF, hf])
  have g1 : (f != (0 : Int)) = true := by simpa using hf
  clear hf
  go_enter Tryz.func110, Tryz.ntmps110
  go_wp2
  go_ret
  exact ⟨by rw [HE.out]; rfl, HB.out⟩
set_option maxRecDepth 1000000 in
set_option maxHeartbeats 4000000 in
theorem fd5 {nm : ByteArray} {a : List S84} {f t : Int} {k : List S32} {w : World} {A2 A5 : Option Addr} {c2 c5 : Nat} (v : Int) (hk5 : k.length ≤ 9223372036854775807) (ha5 : a.length ≤ 9223372036854775807) (hnm : nm.size ≤ 100) :
  Calls Tryz.prog 110 #[.agg #[.int .i64 5, .string nm, .slice A2 a.length c2, .int .i64 f, .int .i64 t, .slice A5 k.length c5], .int .i64 v] w fun e w' => e = .returned (.bool (fieldsF ⟨5, nm, a, f, t, k⟩ v)) ∧ Below w.heap.size w w' := by
 have HBX := Lib.hid (one_blk w #[.int .i64 5, .string nm, .slice A2 a.length c2, .int .i64 f, .int .i64 t, .slice A5 k.length c5]).1
 have HB := Lib.hid (one_blk w #[.int .i64 5, .string nm, .slice A2 a.length c2, .int .i64 f, .int .i64 t, .slice A5 k.length c5]).2
 have HS := Lib.hid (symB_is hnm)
 clear hnm
 by_cases hf : f = 0
 ·subst hf
  by_cases ht : t = 0
  ·subst ht
   by_cases ha : a.length = 0
   ·obtain rfl := List.eq_nil_of_length_eq_zero ha
    clear ha
    by_cases hn : nm.toList = []
    ·have n1 : (nm.toList == ([] : List UInt8)) = true := beq_iff_eq.mpr hn
     have n2 : (nm.toList != ([] : List UInt8)) = false := bne_eq_false_iff_eq.mpr hn
     have HN := Lib.hid hn
     clear hn
     have HE := Lib.hid (show fieldsF ⟨5, nm, [], 0, 0, k⟩ v = true by simp [fieldsF, HN.out])
     go_enter Tryz.func110, Tryz.ntmps110
     go_wp2_with fail
     refine (formula_binds.calls 5 _ _ (binds_f 5)).mono ?_
     rintro e w3 ⟨rfl, hd⟩
     have HBX := Lib.hid (drawn_blk hd HBX.out)
     have HB := Lib.hid (below_then HB.out HB.out.size hd.below)
     clear hd
     obtain ⟨k0, k1, k2, k3, k4, k5⟩ := cells_of HBX.out
     go_wp2
     go_ret
     exact ⟨by rw [HE.out]; rfl, HB.out⟩
    ·have HE := Lib.hid (show fieldsF ⟨5, nm, [], 0, 0, k⟩ v = false by simp [fieldsF, hn])
     have n1 : (nm.toList == ([] : List UInt8)) = false := beq_eq_false_iff_ne.mpr hn
     have n2 : (nm.toList != ([] : List UInt8)) = true := bne_iff_ne.mpr hn
     clear hn
     go_enter Tryz.func110, Tryz.ntmps110
     go_wp2_with fail
     refine (formula_binds.calls 5 _ _ (binds_f 5)).mono ?_
     rintro e w3 ⟨rfl, hd⟩
     have HBX := Lib.hid (drawn_blk hd HBX.out)
     have HB := Lib.hid (below_then HB.out HB.out.size hd.below)
     clear hd
     obtain ⟨k0, k1, k2, k3, k4, k5⟩ := cells_of HBX.out
     go_wp2
     go_ret
     exact ⟨by rw [HE.out]; rfl, HB.out⟩
   ·have h0 : 0 < a.length := by omega
    have HE := Lib.hid (show fieldsF ⟨5, nm, a, 0, 0, k⟩ v = false by simp [fieldsF, h0])
    have g1 : decide ((0 : Int) < (a.length : Int)) = true := decide_eq_true (by omega)
    have g2 : decide (0 < a.length) = true := decide_eq_true h0
    clear ha h0
    go_enter Tryz.func110, Tryz.ntmps110
    go_wp2
    go_ret
    exact ⟨by rw [HE.out]; rfl, HB.out⟩
  ·have HE := Lib.hid (show fieldsF ⟨5, nm, a, 0, t, k⟩ v = false by simp [fieldsF, ht])
   have g1 : (t != (0 : Int)) = true := by simpa using ht
   clear ht
   go_enter Tryz.func110, Tryz.ntmps110
   go_wp2
   go_ret
   exact ⟨by rw [HE.out]; rfl, HB.out⟩
 ·have HE := Lib.hid (show fieldsF ⟨5, nm, a, f, t, k⟩ v = false by simp [fieldsF, hf])
  have g1 : (f != (0 : Int)) = true := by simpa using hf
  clear hf
  go_enter Tryz.func110, Tryz.ntmps110
  go_wp2
  go_ret
  exact ⟨by rw [HE.out]; rfl, HB.out⟩
set_option maxRecDepth 1000000 in
set_option maxHeartbeats 4000000 in
theorem fd6 {nm : ByteArray} {a : List S84} {f t : Int} {k : List S32} {w : World} {A2 A5 : Option Addr} {c2 c5 : Nat} (v : Int) (hk5 : k.length ≤ 9223372036854775807) (ha5 : a.length ≤ 9223372036854775807) (hnm : nm.size ≤ 100) :
  Calls Tryz.prog 110 #[.agg #[.int .i64 6, .string nm, .slice A2 a.length c2, .int .i64 f, .int .i64 t, .slice A5 k.length c5], .int .i64 v] w fun e w' => e = .returned (.bool (fieldsF ⟨6, nm, a, f, t, k⟩ v)) ∧ Below w.heap.size w w' := by
 have HBX := Lib.hid (one_blk w #[.int .i64 6, .string nm, .slice A2 a.length c2, .int .i64 f, .int .i64 t, .slice A5 k.length c5]).1
 have HB := Lib.hid (one_blk w #[.int .i64 6, .string nm, .slice A2 a.length c2, .int .i64 f, .int .i64 t, .slice A5 k.length c5]).2
 have HS := Lib.hid (symB_is hnm)
 clear hnm
 by_cases hf : f = 0
 ·subst hf
  by_cases ht : t = 0
  ·subst ht
   by_cases ha : a.length = 0
   ·obtain rfl := List.eq_nil_of_length_eq_zero ha
    clear ha
    by_cases hn : nm.toList = []
    ·have n1 : (nm.toList == ([] : List UInt8)) = true := beq_iff_eq.mpr hn
     have n2 : (nm.toList != ([] : List UInt8)) = false := bne_eq_false_iff_eq.mpr hn
     have HN := Lib.hid hn
     clear hn
     have HE := Lib.hid (show fieldsF ⟨6, nm, [], 0, 0, k⟩ v = true by simp [fieldsF, HN.out])
     go_enter Tryz.func110, Tryz.ntmps110
     go_wp2_with fail
     refine (formula_binds.calls 6 _ _ (binds_f 6)).mono ?_
     rintro e w3 ⟨rfl, hd⟩
     have HBX := Lib.hid (drawn_blk hd HBX.out)
     have HB := Lib.hid (below_then HB.out HB.out.size hd.below)
     clear hd
     obtain ⟨k0, k1, k2, k3, k4, k5⟩ := cells_of HBX.out
     go_wp2
     go_ret
     exact ⟨by rw [HE.out]; rfl, HB.out⟩
    ·have HE := Lib.hid (show fieldsF ⟨6, nm, [], 0, 0, k⟩ v = false by simp [fieldsF, hn])
     have n1 : (nm.toList == ([] : List UInt8)) = false := beq_eq_false_iff_ne.mpr hn
     have n2 : (nm.toList != ([] : List UInt8)) = true := bne_iff_ne.mpr hn
     clear hn
     go_enter Tryz.func110, Tryz.ntmps110
     go_wp2_with fail
     refine (formula_binds.calls 6 _ _ (binds_f 6)).mono ?_
     rintro e w3 ⟨rfl, hd⟩
     have HBX := Lib.hid (drawn_blk hd HBX.out)
     have HB := Lib.hid (below_then HB.out HB.out.size hd.below)
     clear hd
     obtain ⟨k0, k1, k2, k3, k4, k5⟩ := cells_of HBX.out
     go_wp2
     go_ret
     exact ⟨by rw [HE.out]; rfl, HB.out⟩
   ·have h0 : 0 < a.length := by omega
    have HE := Lib.hid (show fieldsF ⟨6, nm, a, 0, 0, k⟩ v = false by simp [fieldsF, h0])
    have g1 : decide ((0 : Int) < (a.length : Int)) = true := decide_eq_true (by omega)
    have g2 : decide (0 < a.length) = true := decide_eq_true h0
    clear ha h0
    go_enter Tryz.func110, Tryz.ntmps110
    go_wp2
    go_ret
    exact ⟨by rw [HE.out]; rfl, HB.out⟩
  ·have HE := Lib.hid (show fieldsF ⟨6, nm, a, 0, t, k⟩ v = false by simp [fieldsF, ht])
   have g1 : (t != (0 : Int)) = true := by simpa using ht
   clear ht
   go_enter Tryz.func110, Tryz.ntmps110
   go_wp2
   go_ret
   exact ⟨by rw [HE.out]; rfl, HB.out⟩
 ·have HE := Lib.hid (show fieldsF ⟨6, nm, a, f, t, k⟩ v = false by simp [fieldsF, hf])
  have g1 : (f != (0 : Int)) = true := by simpa using hf
  clear hf
  go_enter Tryz.func110, Tryz.ntmps110
  go_wp2
  go_ret
  exact ⟨by rw [HE.out]; rfl, HB.out⟩
set_option maxRecDepth 1000000 in
set_option maxHeartbeats 4000000 in
theorem fd7 {nm : ByteArray} {a : List S84} {f t : Int} {k : List S32} {w : World} {A2 A5 : Option Addr} {c2 c5 : Nat} (v : Int) (hk5 : k.length ≤ 9223372036854775807) (ha5 : a.length ≤ 9223372036854775807) (hnm : nm.size ≤ 100) :
  Calls Tryz.prog 110 #[.agg #[.int .i64 7, .string nm, .slice A2 a.length c2, .int .i64 f, .int .i64 t, .slice A5 k.length c5], .int .i64 v] w fun e w' => e = .returned (.bool (fieldsF ⟨7, nm, a, f, t, k⟩ v)) ∧ Below w.heap.size w w' := by
 have HBX := Lib.hid (one_blk w #[.int .i64 7, .string nm, .slice A2 a.length c2, .int .i64 f, .int .i64 t, .slice A5 k.length c5]).1
 have HB := Lib.hid (one_blk w #[.int .i64 7, .string nm, .slice A2 a.length c2, .int .i64 f, .int .i64 t, .slice A5 k.length c5]).2
 have HS := Lib.hid (symB_is hnm)
 clear hnm
 by_cases hf : f = 0
 ·subst hf
  by_cases ht : t = 0
  ·subst ht
   by_cases ha : a.length = 0
   ·obtain rfl := List.eq_nil_of_length_eq_zero ha
    clear ha
    by_cases hn : nm.toList = []
    ·have n1 : (nm.toList == ([] : List UInt8)) = true := beq_iff_eq.mpr hn
     have n2 : (nm.toList != ([] : List UInt8)) = false := bne_eq_false_iff_eq.mpr hn
     have HN := Lib.hid hn
     clear hn
     by_cases hk : k.length = 2
     ·have HE := Lib.hid (show fieldsF ⟨7, nm, [], 0, 0, k⟩ v = true by simp [fieldsF, HN.out, hk])
      have m1 : ((k.length : Int) == (2 : Int)) = true := beq_iff_eq.mpr (by omega)
      have m2 : (k.length == 2) = true := by simpa using hk
      have HKL := Lib.hid hk
      clear hk
      go_enter Tryz.func110, Tryz.ntmps110
      go_wp2_with fail
      refine (formula_binds.calls 7 _ _ (binds_f 7)).mono ?_
      rintro e w3 ⟨rfl, hd⟩
      have HBX := Lib.hid (drawn_blk hd HBX.out)
      have HB := Lib.hid (below_then HB.out HB.out.size hd.below)
      clear hd
      obtain ⟨k0, k1, k2, k3, k4, k5⟩ := cells_of HBX.out
      go_wp2
      go_ret
      exact ⟨by rw [HE.out]; rfl, HB.out⟩
     ·have HE := Lib.hid (show fieldsF ⟨7, nm, [], 0, 0, k⟩ v = false by simp only [fieldsF, HN.out]; simp; simpa using hk)
      have m1 : ((k.length : Int) == (2 : Int)) = false := beq_eq_false_iff_ne.mpr (by omega)
      have m2 : (k.length == 2) = false := by simpa using hk
      clear hk
      go_enter Tryz.func110, Tryz.ntmps110
      go_wp2_with fail
      refine (formula_binds.calls 7 _ _ (binds_f 7)).mono ?_
      rintro e w3 ⟨rfl, hd⟩
      have HBX := Lib.hid (drawn_blk hd HBX.out)
      have HB := Lib.hid (below_then HB.out HB.out.size hd.below)
      clear hd
      obtain ⟨k0, k1, k2, k3, k4, k5⟩ := cells_of HBX.out
      go_wp2
      go_ret
      exact ⟨by rw [HE.out]; rfl, HB.out⟩
    ·have HE := Lib.hid (show fieldsF ⟨7, nm, [], 0, 0, k⟩ v = false by simp [fieldsF, hn])
     have n1 : (nm.toList == ([] : List UInt8)) = false := beq_eq_false_iff_ne.mpr hn
     have n2 : (nm.toList != ([] : List UInt8)) = true := bne_iff_ne.mpr hn
     clear hn
     go_enter Tryz.func110, Tryz.ntmps110
     go_wp2_with fail
     refine (formula_binds.calls 7 _ _ (binds_f 7)).mono ?_
     rintro e w3 ⟨rfl, hd⟩
     have HBX := Lib.hid (drawn_blk hd HBX.out)
     have HB := Lib.hid (below_then HB.out HB.out.size hd.below)
     clear hd
     obtain ⟨k0, k1, k2, k3, k4, k5⟩ := cells_of HBX.out
     go_wp2
     go_ret
     exact ⟨by rw [HE.out]; rfl, HB.out⟩
   ·have h0 : 0 < a.length := by omega
    have HE := Lib.hid (show fieldsF ⟨7, nm, a, 0, 0, k⟩ v = false by simp [fieldsF, h0])
    have g1 : decide ((0 : Int) < (a.length : Int)) = true := decide_eq_true (by omega)
    have g2 : decide (0 < a.length) = true := decide_eq_true h0
    clear ha h0
    go_enter Tryz.func110, Tryz.ntmps110
    go_wp2
    go_ret
    exact ⟨by rw [HE.out]; rfl, HB.out⟩
  ·have HE := Lib.hid (show fieldsF ⟨7, nm, a, 0, t, k⟩ v = false by simp [fieldsF, ht])
   have g1 : (t != (0 : Int)) = true := by simpa using ht
   clear ht
   go_enter Tryz.func110, Tryz.ntmps110
   go_wp2
   go_ret
   exact ⟨by rw [HE.out]; rfl, HB.out⟩
 ·have HE := Lib.hid (show fieldsF ⟨7, nm, a, f, t, k⟩ v = false by simp [fieldsF, hf])
  have g1 : (f != (0 : Int)) = true := by simpa using hf
  clear hf
  go_enter Tryz.func110, Tryz.ntmps110
  go_wp2
  go_ret
  exact ⟨by rw [HE.out]; rfl, HB.out⟩
end Go.Proofs.YtbahnpdgaoedmaaGreatDoor.Mm
