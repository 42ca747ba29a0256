/- Part 8 of the proof of MemoryForms: Mfs, Mnr, Mna, Mni, Mnd. -/
import Derived.Test.YtbahnpdgaoedmaaGreatDoorCO7
import Derived.Test.YtbahnpdgaoedmaaGreatDoorCO5
import Derived.Test.YtbahnpdgaoedmaaGreatDoorCO3
import Derived.Test.YtbahnpdgaoedmaaGreatDoorCO6
namespace Go.Proofs.YtbahnpdgaoedmaaGreatDoor.Mm
open Go.RowKit Go.Proofs.YtbahnpdgaoedmaaGreatDoorW.PrintWords Go.Proofs.YtbahnpdgaoedmaaGreatDoorW.PrintLast Go.Proofs.YtbahnpdgaoedmaaGreatDoorW.PrintMore Go.Proofs.YtbahnpdgaoedmaaGreatDoor.PMemoryExact
set_option linter.unusedSimpArgs false
set_option linter.unusedVariables false
theorem wrap_small {n : Int} (h0 : -9223372036854775808 ≤ n) (h1 : n ≤ 9223372036854775807) : wrap64 n = n := by unfold wrap64; omega
abbrev szF (k : Nat) (x : S32) : Option Int := formula_Size.f k x.f0 x.f1 x.f2 x.f3 x.f4 x.f5
abbrev dpF (k : Nat) (x : S32) : Option Int := formula_Depth.f k x.f0 x.f1 x.f2 x.f3 x.f4 x.f5
theorem rd_at {l : List S32} {i : Nat} (h : i < l.length) : rd_T32 l (i : Int) = l[i] := by simp [rd_T32, h]
theorem size_l0 {l : List S32} (hl : l.length < 1000000) (hk : ∀ y ∈ l, ∀ k, 2 * size y ≤ k → szF k y = some (size y : Int)) : ∀ (n i k : Nat) (acc : Int), n = l.length - i → i ≤ l.length → 2 * size.sizes (l.drop i) + 1 ≤ k → 0 ≤ acc → acc + size.sizes (l.drop i) < 1000000000 → formula_Size.l0 k acc l (l.length : Int) (i : Int) = some (acc + size.sizes (l.drop i))
 | 0, i, k, acc, hn, hi, hf, h0, h1 => by
  obtain ⟨k, rfl⟩ : ∃ j, k = j + 1 := ⟨k - 1, by omega⟩
  have : i = l.length := by omega
  subst this
  simp [formula_Size.l0, size.sizes]
 | n + 1, i, k, acc, hn, hi, hf, h0, h1 => by
  obtain ⟨k, rfl⟩ : ∃ j, k = j + 1 := ⟨k - 1, by omega⟩
  have hlt : i < l.length := by omega
  have hd : l.drop i = l[i] :: l.drop (i + 1) := List.drop_eq_getElem_cons hlt
  rw [hd] at hf h1 ⊢
  simp only [size.sizes] at hf h1 ⊢
  have hp : 1 ≤ size l[i] := by rw [size_is]; omega
  have h2 := hk l[i] (List.getElem_mem hlt) k (by omega)
  unfold formula_Size.l0
  rw [if_pos (by omega), if_pos (by omega), if_pos (by omega), rd_at hlt]
  rw [show formula_Size.f k l[i].f0 l[i].f1 l[i].f2 l[i].f3 l[i].f4 l[i].f5 = some (size l[i] : Int) from h2]
  simp only [Option.bind_some]
  rw [wrap_small (by omega) (by omega), wrap_small (by omega) (by omega)]
  have := size_l0 hl hk n (i + 1) k (acc + size l[i]) (by omega) (by omega) (by omega) (by omega) (by omega)
  rw [show ((i + 1 : Nat) : Int) = (i : Int) + 1 by omega] at this
  rw [this]
  congr 1
  omega
theorem szF_is : ∀ (n : Nat) (x : S32), size x ≤ n → size x < 1000000 → ∀ k, 2 * size x ≤ k → szF k x = some (size x : Int)
 | 0, x, h, _, _, _ => by have := size_is x; omega
 | n + 1, x, h, hs, k, hk => by
  have hx := size_is x
  obtain ⟨k, rfl⟩ : ∃ j, k = j + 1 := ⟨k - 1, by omega⟩
  have hlen : x.f5.length ≤ size.sizes x.f5 := by
   have := len_leavess x.f5
   have := leavess_sizes x.f5
   omega
  have := size_l0 (l := x.f5) (by omega) (fun y hy j hj => szF_is n y (by have := sizes_le _ _ hy; omega) (by have := sizes_le _ _ hy; omega) j hj) x.f5.length 0 k 1 (by omega) (by omega) (by rw [List.drop_zero]; omega) (by omega) (by rw [List.drop_zero]; omega)
  unfold szF formula_Size.f
  rw [show ((0 : Nat) : Int) = 0 from rfl, List.drop_zero] at this
  rw [this, hx]
  congr 1
theorem depth_l0 {l : List S32} (hl : l.length < 1000000) (hk : ∀ y ∈ l, ∀ k, 2 * size y ≤ k → dpF k y = some (depth y : Int)) : ∀ (n i k : Nat) (acc : Int), n = l.length - i → i ≤ l.length → 2 * size.sizes (l.drop i) + 1 ≤ k → 0 ≤ acc → acc < 1000000000 → depth.depths l < 1000000000 → formula_Depth.l0 k acc l (l.length : Int) (i : Int) = some (max acc (depth.depths (l.drop i)) + 1)
 | 0, i, k, acc, hn, hi, hf, h0, h1, h3 => by
  obtain ⟨k, rfl⟩ : ∃ j, k = j + 1 := ⟨k - 1, by omega⟩
  have : i = l.length := by omega
  subst this
  simp only [formula_Depth.l0, depth.depths, List.drop_length]
  rw [if_neg (by omega), wrap_small (by omega) (by omega)]
  congr 1
  omega
 | n + 1, i, k, acc, hn, hi, hf, h0, h1, h3 => by
  obtain ⟨k, rfl⟩ : ∃ j, k = j + 1 := ⟨k - 1, by omega⟩
  have hlt : i < l.length := by omega
  have hd : l.drop i = l[i] :: l.drop (i + 1) := List.drop_eq_getElem_cons hlt
  rw [hd] at hf ⊢
  simp only [size.sizes, depth.depths] at hf ⊢
  have hp : 1 ≤ size l[i] := by rw [size_is]; omega
  have h2 := hk l[i] (List.getElem_mem hlt) k (by omega)
  have h4 := depths_mem (List.getElem_mem hlt)
  unfold formula_Depth.l0
  rw [if_pos (by omega), if_pos (by omega), if_pos (by omega), rd_at hlt]
  rw [show formula_Depth.f k l[i].f0 l[i].f1 l[i].f2 l[i].f3 l[i].f4 l[i].f5 = some (depth l[i] : Int) from h2]
  simp only [Option.bind_some]
  rw [wrap_small (n := (i : Int) + 1) (by omega) (by omega)]
  have hm : mx acc (depth l[i] : Int) = max acc (depth l[i] : Int) := by unfold mx; split <;> omega
  have := depth_l0 hl hk n (i + 1) k (max acc (depth l[i] : Int)) (by omega) (by omega) (by omega) (by omega) (by omega) h3
  rw [show ((i + 1 : Nat) : Int) = (i : Int) + 1 by omega] at this
  rw [hm, this]
  congr 1
  omega
theorem dpF_is : ∀ (n : Nat) (x : S32), size x ≤ n → size x < 1000000 → ∀ k, 2 * size x ≤ k → dpF k x = some (depth x : Int)
 | 0, x, h, _, _, _ => by have := size_is x; omega
 | n + 1, x, h, hs, k, hk => by
  have hx := size_is x
  have hd := depth_is x
  obtain ⟨k, rfl⟩ : ∃ j, k = j + 1 := ⟨k - 1, by omega⟩
  have hlen : x.f5.length ≤ size.sizes x.f5 := by
   have := len_leavess x.f5
   have := leavess_sizes x.f5
   omega
  have hdl := depths_sizes x.f5
  have := depth_l0 (l := x.f5) (by omega) (fun y hy j hj => dpF_is n y (by have := sizes_le _ _ hy; omega) (by have := sizes_le _ _ hy; omega) j hj) x.f5.length 0 k 0 (by omega) (by omega) (by rw [List.drop_zero]; omega) (by omega) (by omega) (by omega)
  unfold dpF formula_Depth.f
  rw [show ((0 : Nat) : Int) = 0 from rfl, List.drop_zero] at this
  rw [this, hd]
  congr 1
  omega
/-- symbol and reference, as they answer. -/
def symB (s : ByteArray) : Bool := (formula_symbol.f 102 s).getD false
def refOk (v : Int) (r : S84) : Bool := (formula_reference.f 102 r.f0 r.f1 r.f2 v).getD false
def momOk (n : Int) : Bool := decide (-1 ≤ n) && decide (n ≤ 1439999999)
theorem first_some (c : Int) : ∃ b, formula_first.f c = some b := by unfold formula_first.f; split <;> exact ⟨_, rfl⟩
theorem rest_some (c : Int) : ∃ b, formula_rest.f c = some b := by
 obtain ⟨b, hb⟩ := first_some c
 unfold formula_rest.f
 rw [hb]
 simp only [Option.bind_some]
 repeat' split
 all_goals exact ⟨_, rfl⟩
theorem symbol_l0 (s : ByteArray) (hs : s.size ≤ 100) : ∀ (k : Nat) (i : Int), 0 ≤ i → i ≤ 101 → 102 - i ≤ k → ∃ b, formula_symbol.l0 k s i = some b
 | 0, i, h0, h1, h => by omega
 | k + 1, i, h0, h1, h => by
  unfold formula_symbol.l0
  by_cases c : i < (s.size : Int)
  ·rw [if_pos c, if_pos h0]
   obtain ⟨b, hb⟩ := rest_some (bt s i)
   rw [hb]
   simp only [Option.bind_some]
   split
   ·rw [wrap_small (by omega) (by omega)]
    exact symbol_l0 s hs k (i + 1) (by omega) (by omega) (by omega)
   ·exact ⟨_, rfl⟩
  ·rw [if_neg c]
   split
   ·exact ⟨_, rfl⟩
   ·rename_i hne
    have : 0 < (s.size : Int) := by
     have h2 : s.size ≠ 0 := fun e => hne (by
      obtain ⟨d⟩ := s
      have h3 : d = #[] := Array.eq_empty_of_size_eq_zero e
      subst h3
      unfold ByteArray.toList
      rw [ByteArray.toList.loop]
      simp
      exact fun h => absurd h (by decide))
     omega
    rw [if_pos this]
    obtain ⟨b, hb⟩ := first_some (bt s 0)
    rw [hb]
    exact ⟨_, rfl⟩
theorem symB_is {s : ByteArray} (hs : s.size ≤ 100) : formula_symbol.f 102 s = some (symB s) := by
 obtain ⟨b, hb⟩ := symbol_l0 s hs 102 1 (by omega) (by omega) (by omega)
 have : formula_symbol.f 102 s = some b := hb
 unfold symB
 rw [this]
 rfl
theorem refOk_is {r : S84} (v : Int) (hs : r.f2.size ≤ 100) : formula_reference.f 102 r.f0 r.f1 r.f2 v = some (refOk v r) := by
 have : ∃ b, formula_reference.f 102 r.f0 r.f1 r.f2 v = some b := by
  unfold formula_reference.f
  rw [symB_is hs]
  simp only [Option.bind_some]
  repeat' split
  all_goals exact ⟨_, rfl⟩
 obtain ⟨b, hb⟩ := this
 unfold refOk
 rw [hb]
 rfl
theorem momOk_is (n : Int) : formula_moment.f n = some (momOk n) := by
 unfold formula_moment.f momOk
 by_cases h : -1 ≤ n
 ·rw [if_pos h]; simp [h]
 ·rw [if_neg h]; simp [h]
/-- formula.fields -/
def fieldsF (x : S32) (v : Int) : Bool :=
 if x.f0 ≠ 10 ∧ (x.f3 ≠ 0 ∨ x.f4 ≠ 0) then false
 else if x.f0 ≠ 3 ∧ 0 < x.f2.length then false
 else if x.f0 ≠ 3 ∧ ¬ (x.f0 = 8 ∨ x.f0 = 9) ∧ x.f1.toList ≠ [] then false
 else if x.f0 = 1 ∨ x.f0 = 2 then x.f5.length == 0
 else if x.f0 = 3 then x.f2.all (refOk v) && (x.f5.length == 0 && decide (1 ≤ x.f2.length) && decide (x.f2.length ≤ 3) && symB x.f1)
 else if x.f0 = 4 ∨ x.f0 = 11 ∨ x.f0 = 12 then x.f5.length == 1
 else if x.f0 = 5 ∨ x.f0 = 6 then true
 else if x.f0 = 7 then x.f5.length == 2
 else if x.f0 = 8 ∨ x.f0 = 9 then x.f5.length == 1 && symB x.f1
 else if x.f0 = 10 then x.f5.length == 1 && momOk x.f3 && momOk x.f4
 else false
def vin (o v : Int) : Int := if o = 8 ∨ o = 9 then v + 1 else v
mutual
/-- formula.formed -/
def formedF : S32 → Int → Bool
 | ⟨o, n, a, f, t, k⟩, v => fieldsF ⟨o, n, a, f, t, k⟩ v && formedFs k (vin o v)
def formedFs : List S32 → Int → Bool
 | [], _ => true
 | x :: r, v => formedF x v && formedFs r v
end
theorem formed_is (x : S32) (v : Int) : formedF x v = (fieldsF x v && formedFs x.f5 (vin x.f0 v)) := by
 obtain ⟨o, n, a, f, t, k⟩ := x
 rw [formedF]
theorem formedFs_all : ∀ (l : List S32) (v : Int), formedFs l v = l.all (fun x => formedF x v)
 | [], v => by simp [formedFs]
 | x :: l, v => by simp [formedFs, formedFs_all l v]
def validF (x : S32) : Bool := decide (size x ≤ 200) && decide (depth x ≤ 32) && formedF x 1099511627776
/-- Well formed, for some number of variables. -/
def Wf (x : S32) : Prop := ∃ v, formedF x v = true
theorem wf_kid {x y : S32} (h : Wf x) (hy : y ∈ x.f5) : Wf y := by
 obtain ⟨v, hv⟩ := h
 rw [formed_is, Bool.and_eq_true, formedFs_all, List.all_eq_true] at hv
 exact ⟨_, hv.2 y hy⟩
theorem wf_shape {x : S32} (h : Wf x) : 1 ≤ x.f0 ∧ x.f0 ≤ 12 ∧ (x.f0 = 4 ∨ x.f0 = 8 ∨ x.f0 = 9 ∨ x.f0 = 10 ∨ x.f0 = 11 ∨ x.f0 = 12 → x.f5.length = 1) ∧ (x.f0 = 7 → x.f5.length = 2) ∧ (x.f0 = 3 → x.f5.length = 0) := by
 obtain ⟨v, hv⟩ := h
 rw [formed_is, Bool.and_eq_true] at hv
 have h1 := hv.1
 unfold fieldsF at h1
 repeat' split at h1
 all_goals simp only [beq_iff_eq, Bool.and_eq_true, decide_eq_true_eq, Bool.false_eq_true] at h1
 all_goals refine ⟨by omega, by omega, fun _ => by omega, fun _ => by omega, fun _ => by omega⟩
theorem valid_wf {x : S32} (h : validF x = true) : Wf x ∧ size x ≤ 200 ∧ depth x ≤ 32 := by
 unfold validF at h
 simp only [Bool.and_eq_true, decide_eq_true_eq] at h
 exact ⟨⟨_, h.2⟩, h.1.1, h.1.2⟩
/-- What normal owes, below a size. -/
def NrTo (n : Nat) : Prop := ∀ (x : S32), size x < n → ∀ (neg : Bool) (w : World) (cs : List Value) (ok : Nat → Prop), Kd.FK k32 w ok x cs → (∀ k, ok k → k < w.heap.size) → Wf x → size x ≤ 200 →
 Calls Tryz.prog 52 #[.agg cs.toArray, .bool neg] w fun e w' => Fr w w' ok (nf x neg) e
theorem nf_sz {x : S32} (neg : Bool) (h : size x ≤ 200) : leaves (nf x neg) * (2 + depth (nf x neg)) < 1000000 := by
 have h1 := nf_bound x neg
 have h2 := depth_size x
 have h3 := Nat.mul_le_mul (show leaves (nf x neg) ≤ 400 by omega) (show 2 + depth (nf x neg) ≤ 500 by omega)
 omega
theorem add_0 (ad : Addr) : ad.add (0 * 6) = ad := by cases ad; simp [Addr.add]
set_option maxRecDepth 1000000 in
set_option maxHeartbeats 4000000 in
theorem nr_const {o : Int} (ho : o = 1 ∨ o = 2) {nm : ByteArray} {a : List S84} {f t : Int} {k : List S32} {w : World} {cs : List Value} {ok : Nat → Prop} (neg : Bool) (hF : Kd.FK k32 w ok ⟨o, nm, a, f, t, k⟩ cs) (hok : ∀ k, ok k → k < w.heap.size) :
  Calls Tryz.prog 52 #[.agg cs.toArray, .bool neg] w fun e w' => Fr w w' ok (nf ⟨o, nm, a, f, t, k⟩ neg) e := by
 obtain ⟨A2, c2, A5, c5, rfl, -⟩ := k32_openF hF
 have HOK := Lib.hid hok
 have HE0 := Lib.hid (show nf ⟨o, nm, a, f, t, k⟩ neg = const ((o == 1) != neg) by rw [nf, if_pos ho])
 have HW := Lib.hid (box_slot w #[.int .i64 o, .string nm, .slice A2 a.length c2, .int .i64 f, .int .i64 t, .slice A5 k.length c5])
 clear hF hok
 dsimp only at *
 rcases ho with rfl | rfl
 ·cases neg with
  | true =>
   have HE := Lib.hid (show nf ⟨1, nm, a, f, t, k⟩ true = const false from HE0.out)
   have HC := Lib.hid (const_any ((w.alloc (.cells #[.int .i64 1, .string nm, .slice A2 a.length c2, .int .i64 f, .int .i64 t, .slice A5 k.length c5] 32)).alloc (.cells z6 32)) false ok)
   go_enter Tryz.func52, Tryz.ntmps52
   go_wp2_with fail
   refine HC.out.mono ?_
   rintro e w4 ⟨ds, rfl, hF4, hB4⟩
   have HSB := Lib.hid ((hB4.block (w.heap.size + 1) (by rw [HW.out.1]; omega)).trans HW.out.2.2.1)
   have HB4 := Lib.hid (below_then HW.out.2.2.2 HW.out.2.2.2.size hB4)
   rw [HW.out.1] at hF4
   obtain ⟨z, hz⟩ : ∃ z, const false = z := ⟨_, rfl⟩
   rw [hz] at hF4 HE
   have HF4 := Lib.hid hF4
   obtain ⟨B2, d2, B5, d5, rfl, -⟩ := k32_openF hF4
   obtain ⟨y0, y1, y2, y3, y4, y5, f0, f1, f2, f3, f4, f5⟩ := slot_cells HSB.out
   clear hF4 hB4 hz
   go_wp2
   refine bodyPost_ret (res_slot rfl _ _ _ _ _ _ _ _ _ rfl (six_blk HSB.out _ _ _ _ _ _)) rfl ?_
   rw [HE.out]
   exact slot_done HF4.out HB4.out (by omega) (fun k hk => by
    rcases hk with hk | hk
    ·have := HOK.out k hk; omega
    ·omega) (fun k hk => by
    rcases hk with hk | hk
    ·exact Or.inl hk
    ·exact Or.inr (by omega))
  | false =>
   have HE := Lib.hid (show nf ⟨1, nm, a, f, t, k⟩ false = const true from HE0.out)
   have HC := Lib.hid (const_any ((w.alloc (.cells #[.int .i64 1, .string nm, .slice A2 a.length c2, .int .i64 f, .int .i64 t, .slice A5 k.length c5] 32)).alloc (.cells z6 32)) true ok)
   go_enter Tryz.func52, Tryz.ntmps52
   go_wp2_with fail
   refine HC.out.mono ?_
   rintro e w4 ⟨ds, rfl, hF4, hB4⟩
   have HSB := Lib.hid ((hB4.block (w.heap.size + 1) (by rw [HW.out.1]; omega)).trans HW.out.2.2.1)
   have HB4 := Lib.hid (below_then HW.out.2.2.2 HW.out.2.2.2.size hB4)
   rw [HW.out.1] at hF4
   obtain ⟨z, hz⟩ : ∃ z, const true = z := ⟨_, rfl⟩
   rw [hz] at hF4 HE
   have HF4 := Lib.hid hF4
   obtain ⟨B2, d2, B5, d5, rfl, -⟩ := k32_openF hF4
   obtain ⟨y0, y1, y2, y3, y4, y5, f0, f1, f2, f3, f4, f5⟩ := slot_cells HSB.out
   clear hF4 hB4 hz
   go_wp2
   refine bodyPost_ret (res_slot rfl _ _ _ _ _ _ _ _ _ rfl (six_blk HSB.out _ _ _ _ _ _)) rfl ?_
   rw [HE.out]
   exact slot_done HF4.out HB4.out (by omega) (fun k hk => by
    rcases hk with hk | hk
    ·have := HOK.out k hk; omega
    ·omega) (fun k hk => by
    rcases hk with hk | hk
    ·exact Or.inl hk
    ·exact Or.inr (by omega))
 ·cases neg with
  | true =>
   have HE := Lib.hid (show nf ⟨2, nm, a, f, t, k⟩ true = const true from HE0.out)
   have HC := Lib.hid (const_any ((w.alloc (.cells #[.int .i64 2, .string nm, .slice A2 a.length c2, .int .i64 f, .int .i64 t, .slice A5 k.length c5] 32)).alloc (.cells z6 32)) true ok)
   go_enter Tryz.func52, Tryz.ntmps52
   go_wp2_with fail
   refine HC.out.mono ?_
   rintro e w4 ⟨ds, rfl, hF4, hB4⟩
   have HSB := Lib.hid ((hB4.block (w.heap.size + 1) (by rw [HW.out.1]; omega)).trans HW.out.2.2.1)
   have HB4 := Lib.hid (below_then HW.out.2.2.2 HW.out.2.2.2.size hB4)
   rw [HW.out.1] at hF4
   obtain ⟨z, hz⟩ : ∃ z, const true = z := ⟨_, rfl⟩
   rw [hz] at hF4 HE
   have HF4 := Lib.hid hF4
   obtain ⟨B2, d2, B5, d5, rfl, -⟩ := k32_openF hF4
   obtain ⟨y0, y1, y2, y3, y4, y5, f0, f1, f2, f3, f4, f5⟩ := slot_cells HSB.out
   clear hF4 hB4 hz
   go_wp2
   refine bodyPost_ret (res_slot rfl _ _ _ _ _ _ _ _ _ rfl (six_blk HSB.out _ _ _ _ _ _)) rfl ?_
   rw [HE.out]
   exact slot_done HF4.out HB4.out (by omega) (fun k hk => by
    rcases hk with hk | hk
    ·have := HOK.out k hk; omega
    ·omega) (fun k hk => by
    rcases hk with hk | hk
    ·exact Or.inl hk
    ·exact Or.inr (by omega))
  | false =>
   have HE := Lib.hid (show nf ⟨2, nm, a, f, t, k⟩ false = const false from HE0.out)
   have HC := Lib.hid (const_any ((w.alloc (.cells #[.int .i64 2, .string nm, .slice A2 a.length c2, .int .i64 f, .int .i64 t, .slice A5 k.length c5] 32)).alloc (.cells z6 32)) false ok)
   go_enter Tryz.func52, Tryz.ntmps52
   go_wp2_with fail
   refine HC.out.mono ?_
   rintro e w4 ⟨ds, rfl, hF4, hB4⟩
   have HSB := Lib.hid ((hB4.block (w.heap.size + 1) (by rw [HW.out.1]; omega)).trans HW.out.2.2.1)
   have HB4 := Lib.hid (below_then HW.out.2.2.2 HW.out.2.2.2.size hB4)
   rw [HW.out.1] at hF4
   obtain ⟨z, hz⟩ : ∃ z, const false = z := ⟨_, rfl⟩
   rw [hz] at hF4 HE
   have HF4 := Lib.hid hF4
   obtain ⟨B2, d2, B5, d5, rfl, -⟩ := k32_openF hF4
   obtain ⟨y0, y1, y2, y3, y4, y5, f0, f1, f2, f3, f4, f5⟩ := slot_cells HSB.out
   clear hF4 hB4 hz
   go_wp2
   refine bodyPost_ret (res_slot rfl _ _ _ _ _ _ _ _ _ rfl (six_blk HSB.out _ _ _ _ _ _)) rfl ?_
   rw [HE.out]
   exact slot_done HF4.out HB4.out (by omega) (fun k hk => by
    rcases hk with hk | hk
    ·have := HOK.out k hk; omega
    ·omega) (fun k hk => by
    rcases hk with hk | hk
    ·exact Or.inl hk
    ·exact Or.inr (by omega))
set_option maxRecDepth 1000000 in
set_option maxHeartbeats 4000000 in
theorem nr_not {n : Nat} (hrec : NrTo n) {nm : ByteArray} {a : List S84} {f t : Int} {y : S32} (hsz : size y < n) (hwf : Wf y) (h200 : size y ≤ 200) {w : World} {cs : List Value} {ok : Nat → Prop} (neg : Bool) (hF : Kd.FK k32 w ok ⟨4, nm, a, f, t, [y]⟩ cs) (hok : ∀ k, ok k → k < w.heap.size) :
  Calls Tryz.prog 52 #[.agg cs.toArray, .bool neg] w fun e w' => Fr w w' ok (nf ⟨4, nm, a, f, t, [y]⟩ neg) e := by
 obtain ⟨A2, c2, A5, c5, rfl, _, _, l5, g5⟩ := k32_openF hF
 have HOK := Lib.hid hok
 have HE := Lib.hid (show nf ⟨4, nm, a, f, t, [y]⟩ neg = nf y (!neg) by rw [nf, if_neg (by omega), if_neg (by omega), if_pos rfl]; simp [nfs])
 have HW := Lib.hid (box_slot w #[.int .i64 4, .string nm, .slice A2 a.length c2, .int .i64 f, .int .i64 t, .slice A5 1 c5])
 obtain ⟨ad, A3, c3, A6, c6, e4, q0, q1, q2, q3, q4, q5, qF⟩ := form_F g5 HW.out.2.2.2 0 (by simp)
 simp only [List.getElem_cons_zero] at q0 q1 q2 q3 q4 q5 qF
 rw [add_0] at q0 q1 q2 q3 q4 q5
 subst e4
 have HIH := Lib.hid (hrec y hsz (!neg) _ _ ok (Kd.FK_step qF (fun k _ hk => HW.out.2.2.2.block k hk)) (fun k hk => Nat.lt_of_lt_of_le (HOK.out k hk) HW.out.2.2.2.size) hwf h200)
 clear hF hok g5 qF hrec hsz hwf h200 l5
 dsimp only [List.length_cons, List.length_nil] at *
 go_enter Tryz.func52, Tryz.ntmps52
 go_wp2_with fail
 refine HIH.out.mono ?_
 rintro e w4 ⟨ds, rfl, hF4, hB4⟩
 have HSB := Lib.hid ((hB4.block (w.heap.size + 1) (by rw [HW.out.1]; omega)).trans HW.out.2.2.1)
 have HB4 := Lib.hid (below_then HW.out.2.2.2 HW.out.2.2.2.size hB4)
 rw [HW.out.1] at hF4
 obtain ⟨z, hz⟩ : ∃ z, nf y (!neg) = z := ⟨_, rfl⟩
 rw [hz] at hF4 HE
 have HF4 := Lib.hid hF4
 obtain ⟨B2, d2, B5, d5, rfl, -⟩ := k32_openF hF4
 obtain ⟨y0, y1, y2, y3, y4, y5, f0, f1, f2, f3, f4, f5⟩ := slot_cells HSB.out
 clear hF4 hB4 hz
 go_wp2
 refine bodyPost_ret (res_slot rfl _ _ _ _ _ _ _ _ _ rfl (six_blk HSB.out _ _ _ _ _ _)) rfl ?_
 rw [HE.out]
 exact slot_done HF4.out HB4.out (by omega) (fun k hk => by
  rcases hk with hk | hk
  ·have := HOK.out k hk; omega
  ·omega) (fun k hk => by
  rcases hk with hk | hk
  ·exact Or.inl hk
  ·exact Or.inr (by omega))
set_option maxRecDepth 1000000 in
set_option maxHeartbeats 4000000 in
theorem nr_atom {nm : ByteArray} {a : List S84} {f t : Int} {k : List S32} {w : World} {cs : List Value} {ok : Nat → Prop} (neg : Bool) (ha : a.length < 1000000) (hF : Kd.FK k32 w ok ⟨3, nm, a, f, t, k⟩ cs) (hok : ∀ k, ok k → k < w.heap.size) :
  Calls Tryz.prog 52 #[.agg cs.toArray, .bool neg] w fun e w' => Fr w w' ok (nf ⟨3, nm, a, f, t, k⟩ neg) e := by
 obtain ⟨A2, c2, A5, c5, rfl, _, g2, l5, g5⟩ := k32_openF hF
 have HOK := Lib.hid hok
 have HG5 := Lib.hid g5
 have HL5 := Lib.hid l5
 have HW := Lib.hid (box_slot w #[.int .i64 3, .string nm, .slice A2 a.length c2, .int .i64 f, .int .i64 t, .slice A5 k.length c5])
 have HC := Lib.hid (clone_any (c := c2) (Kd.F_step g2 (fun k _ hk => HW.out.2.2.2.block k hk)) (fun k hk => Nat.lt_of_lt_of_le (HOK.out k hk) HW.out.2.2.2.size) ha)
 clear hF hok g2 g5 l5 ha
 dsimp only at *
 cases neg with
 | false =>
  have HE := Lib.hid (show nf ⟨3, nm, a, f, t, k⟩ false = ⟨3, nm, a, f, t, k⟩ by rw [nf, if_neg (by omega), if_pos rfl]; simp)
  go_enter Tryz.func52, Tryz.ntmps52
  go_wp2_with fail
  refine HC.out.mono ?_
  rintro e w4 ⟨A9, c9, rfl, hl9, hF9, hB9⟩
  have HB4 := Lib.hid (below_then HW.out.2.2.2 HW.out.2.2.2.size hB9)
  have HBX := Lib.hid ((hB9.block w.heap.size (by rw [HW.out.1]; omega)).trans HW.out.2.1)
  have HSB := Lib.hid ((hB9.block (w.heap.size + 1) (by rw [HW.out.1]; omega)).trans HW.out.2.2.1)
  rw [HW.out.1] at hF9
  have HF9 := Lib.hid hF9
  have HL9 := Lib.hid hl9
  obtain ⟨b0, b1, b2, b3, b4, b5, h0, h1, h2, h3, h4, h5⟩ := slot_cells HBX.out
  obtain ⟨y0, y1, y2, y3, y4, y5, f0, f1, f2, f3, f4, f5⟩ := slot_cells HSB.out
  have H5 := Lib.hid (show (w4.setCell ⟨w.heap.size, 2, none⟩ (.slice A9 a.length c9)).heap[w.heap.size + 1]? = some (.cells z6 32 (0, 0)) from (Below.heap_setCell _ _ _ _ (by show w.heap.size + 1 ≠ w.heap.size; omega)).trans HSB.out)
  have HB5 := Lib.hid (HB4.out.setCell (p := ⟨w.heap.size, 2, none⟩) (Nat.le_refl _) (.slice A9 a.length c9))
  have HF5 := Lib.hid (show Kd.FK k32 (w4.setCell ⟨w.heap.size, 2, none⟩ (.slice A9 a.length c9)) (OkN ok (w.heap.size + 2)) ⟨3, nm, a, f, t, k⟩ [.int .i64 3, .string nm, .slice A9 a.length c9, .int .i64 f, .int .i64 t, .slice A5 k.length c5] from
   k32_mkF _ _ ⟨3, nm, a, f, t, k⟩ HL9.out (Kd.F_step HF9.out (fun k hk _ => Below.heap_setCell _ _ _ _ (by
    show k ≠ w.heap.size
    rcases hk with hk | hk
    ·have := HOK.out k hk; omega
    ·omega))) HL5.out (Kd.F_mono (Kd.F_step HG5.out (fun k _ hk => HB5.out.block k hk)) (fun k hk => Or.inl hk)))
  clear hF9 hB9 hl9
  go_wp2
  refine bodyPost_ret (res_slot rfl _ _ _ _ _ _ _ _ _ rfl (six_blk H5.out _ _ _ _ _ _)) rfl ?_
  rw [HE.out]
  exact slot_done HF5.out HB5.out (by omega) (fun k hk => by
   rcases hk with hk | hk
   ·have := HOK.out k hk; omega
   ·omega) (fun k hk => by
   rcases hk with hk | hk
   ·exact Or.inl hk
   ·exact Or.inr (by omega))
 | true =>
  have HE := Lib.hid (show nf ⟨3, nm, a, f, t, k⟩ true = ⟨4, eStr, [], 0, 0, [⟨3, nm, a, f, t, k⟩]⟩ by rw [nf, if_neg (by omega), if_pos rfl]; simp)
  go_enter Tryz.func52, Tryz.ntmps52
  go_wp2_with fail
  refine HC.out.mono ?_
  rintro e w4 ⟨A9, c9, rfl, hl9, hF9, hB9⟩
  have HB4 := Lib.hid (below_then HW.out.2.2.2 HW.out.2.2.2.size hB9)
  have HBX := Lib.hid ((hB9.block w.heap.size (by rw [HW.out.1]; omega)).trans HW.out.2.1)
  have HSB := Lib.hid ((hB9.block (w.heap.size + 1) (by rw [HW.out.1]; omega)).trans HW.out.2.2.1)
  rw [HW.out.1] at hF9
  have HF9 := Lib.hid hF9
  have HL9 := Lib.hid hl9
  obtain ⟨b0, b1, b2, b3, b4, b5, h0, h1, h2, h3, h4, h5⟩ := slot_cells HBX.out
  obtain ⟨y0, y1, y2, y3, y4, y5, f0, f1, f2, f3, f4, f5⟩ := slot_cells HSB.out
  have H5 := Lib.hid (show (w4.setCell ⟨w.heap.size, 2, none⟩ (.slice A9 a.length c9)).heap[w.heap.size + 1]? = some (.cells z6 32 (0, 0)) from (Below.heap_setCell _ _ _ _ (by show w.heap.size + 1 ≠ w.heap.size; omega)).trans HSB.out)
  have HB5 := Lib.hid (HB4.out.setCell (p := ⟨w.heap.size, 2, none⟩) (Nat.le_refl _) (.slice A9 a.length c9))
  have HF5 := Lib.hid (show Kd.FK k32 (w4.setCell ⟨w.heap.size, 2, none⟩ (.slice A9 a.length c9)) (OkN ok (w.heap.size + 2)) ⟨3, nm, a, f, t, k⟩ [.int .i64 3, .string nm, .slice A9 a.length c9, .int .i64 f, .int .i64 t, .slice A5 k.length c5] from
   k32_mkF _ _ ⟨3, nm, a, f, t, k⟩ HL9.out (Kd.F_step HF9.out (fun k hk _ => Below.heap_setCell _ _ _ _ (by
    show k ≠ w.heap.size
    rcases hk with hk | hk
    ·have := HOK.out k hk; omega
    ·omega))) HL5.out (Kd.F_mono (Kd.F_step HG5.out (fun k _ hk => HB5.out.block k hk)) (fun k hk => Or.inl hk)))
  clear hF9 hB9 hl9
  have hsz5 : (w4.setCell ⟨w.heap.size, 2, none⟩ (.slice A9 a.length c9)).heap.size = w4.heap.size := by simp [World.setCell]
  have HA5 := Lib.hid ((Below.refl (w4.setCell ⟨w.heap.size, 2, none⟩ (.slice A9 a.length c9)).heap.size (w4.setCell ⟨w.heap.size, 2, none⟩ (.slice A9 a.length c9))).alloc (Nat.le_refl _) (.cells #[.int .i64 3, .string nm, .slice A9 a.length c9, .int .i64 f, .int .i64 t, .slice A5 k.length c5] 32))
  have H6 := Lib.hid ((HA5.out.block (w.heap.size + 1) (by rw [hsz5]; have := HB4.out.size; exact blk_lt HSB.out)).trans H5.out)
  have HB6 := Lib.hid (below_then HB5.out HB5.out.size HA5.out)
  have HNB := Lib.hid (blk_new (w4.setCell ⟨w.heap.size, 2, none⟩ (.slice A9 a.length c9)) (.cells #[.int .i64 3, .string nm, .slice A9 a.length c9, .int .i64 f, .int .i64 t, .slice A5 k.length c5] 32))
  rw [hsz5] at HNB
  have H4S := Lib.hid (show w.heap.size + 2 ≤ w4.heap.size by have := blk_lt HSB.out; omega)
  have HR6 := Lib.hid (row_one HNB.out (Kd.FK_step (Kd.FK_bound HF5.out) (fun k _ hk => HA5.out.block k hk)) (fun k hk => by have := hk.2; rw [hsz5] at this; omega))
  have HMY := Lib.hid (slot_many (s := w.heap.size + 1) (ok := ok) 4 ⟨#[]⟩ 0 0 HR6.out HB6.out (by omega) (by have := H4S.out; omega) (by have := H4S.out; omega) (fun k hk => by
   rcases hk.1 with hk | hk
   ·have := HOK.out k hk; omega
   ·omega) (fun k hk => by
   rcases hk.1 with hk | hk
   ·exact Or.inl hk
   ·exact Or.inr (by omega)) _ rfl)
  obtain ⟨z0, z1, z2, z3, z4, z5, e0, e1, e2, e3, e4, e5⟩ := slot_cells H6.out
  clear hsz5
  go_wp2
  refine bodyPost_ret (res_slot rfl _ _ _ _ _ _ _ _ _ rfl (six_blk H6.out _ _ _ _ _ _)) rfl ?_
  rw [HE.out]
  exact HMY.out
theorem add_6 (ad : Addr) : ad.add (1 * 6) = ⟨ad.block, ad.off + 6, none⟩ := by cases ad; simp [Addr.add]
/-- A row of two. -/
theorem row_two {W : World} {b : Nat} {ok : Nat → Prop} {x y : S32} {cs ds : List Value} (hb : W.heap[b]? = some (.cells (cs ++ ds).toArray 32 (0, 0))) (hx : Kd.FK k32 W ok x cs) (hy : Kd.FK k32 W ok y ds) (hne : ∀ k, ok k → k ≠ b) : RowAt W b ok 2 [(x, cs), (y, ds)] := by
 have hl : cs.length = 6 := k32.K_len (Kd.FK_now hx)
 have hl2 : ds.length = 6 := k32.K_len (Kd.FK_now hy)
 refine ⟨⟨_, hb, by simp [hl, hl2]⟩, by simp, by decide, hne, fun p hp => ?_, fun i hi j u hu => ?_⟩
 ·simp at hp
  rcases hp with rfl | rfl
  ·exact hx
  ·exact hy
 ·rw [blk_cell hb]
  have hi2 : i < 2 := by simpa using hi
  have h01 : i = 0 ∨ i = 1 := by omega
  rcases h01 with rfl | rfl
  ·simp only [List.getElem_cons_zero] at hu
   have := (List.getElem?_eq_some_iff.1 hu).1
   simp only [Nat.zero_mul, Nat.zero_add, List.getElem?_toArray]
   rw [List.getElem?_append_left (by omega)]
   exact hu
  ·simp only [List.getElem_cons_succ, List.getElem_cons_zero] at hu
   simp only [List.getElem?_toArray]
   rw [List.getElem?_append_right (by omega), hl, show 1 * 6 + j - 6 = j by omega]
   exact hu
theorem join_two {w : World} {ok : Nat → Prop} {x y : S32} {cs ds : List Value} (hx : Kd.FK k32 w ok x cs) (hy : Kd.FK k32 w ok y ds) (hsz : size.sizes [x, y] < 1000000) (op : Int) (hop : op = 5 ∨ op = 6) :
  Calls Tryz.prog 80 #[.int .i64 op, .slice (some ⟨w.heap.size, 0, none⟩) 2 2] (w.alloc (.cells (cs ++ ds).toArray 32)) fun e w' => Fr (w.alloc (.cells (cs ++ ds).toArray 32)) w' (fun k => (ok k ∧ k < w.heap.size) ∨ k = w.heap.size) (join op [x, y]) e := by
 have hB := (Below.refl w.heap.size w).alloc (Nat.le_refl _) (.cells (cs ++ ds).toArray 32)
 have hb := blk_new w (.cells (cs ++ ds).toArray 32)
 have hR := row_two hb (Kd.FK_step (Kd.FK_bound hx) (fun k _ hk => hB.block k hk)) (Kd.FK_step (Kd.FK_bound hy) (fun k _ hk => hB.block k hk)) (fun k hk => by have := hk.2; omega)
 exact join_any (c := 2) hop hR.F (fun k hk => by
  have hs : (w.alloc (.cells (cs ++ ds).toArray 32)).heap.size = w.heap.size + 1 := by show (w.heap.push _).size = _; simp
  rw [hs]
  rcases hk with hk | rfl
  ·have := hk.2; omega
  ·omega) hsz
set_option maxRecDepth 1000000 in
set_option maxHeartbeats 4000000 in
theorem nr_imp {n : Nat} (hrec : NrTo n) {nm : ByteArray} {a : List S84} {f t : Int} {y x : S32} (hy : size y < n) (hx : size x < n) (hwy : Wf y) (hwx : Wf x) (hy2 : size y ≤ 200) (hx2 : size x ≤ 200) {w : World} {cs : List Value} {ok : Nat → Prop} (neg : Bool) (hF : Kd.FK k32 w ok ⟨7, nm, a, f, t, [y, x]⟩ cs) (hok : ∀ k, ok k → k < w.heap.size) :
  Calls Tryz.prog 52 #[.agg cs.toArray, .bool neg] w fun e w' => Fr w w' ok (nf ⟨7, nm, a, f, t, [y, x]⟩ neg) e := by
 obtain ⟨A2, c2, A5, c5, rfl, _, _, l5, g5⟩ := k32_openF hF
 have HOK := Lib.hid hok
 have HE0 := Lib.hid (show ∀ neg, nf ⟨7, nm, a, f, t, [y, x]⟩ neg = join (if neg then 5 else 6) [nf y (!neg), nf x neg] from fun neg => by rw [nf, if_neg (by omega), if_neg (by omega), if_neg (by omega), if_pos rfl]; simp [nfs])
 have HW := Lib.hid (box_slot w #[.int .i64 7, .string nm, .slice A2 a.length c2, .int .i64 f, .int .i64 t, .slice A5 2 c5])
 obtain ⟨W1, hW1⟩ : ∃ W1, (w.alloc (.cells #[.int .i64 7, .string nm, .slice A2 a.length c2, .int .i64 f, .int .i64 t, .slice A5 2 c5] 32)).alloc (.cells z6 32) = W1 := ⟨_, rfl⟩
 rw [hW1] at HW
 obtain ⟨ad, A3, c3, A6, c6, e4, q0, q1, q2, q3, q4, q5, qF⟩ := form_F g5 HW.out.2.2.2 0 (by simp)
 obtain ⟨ad', A7, c7, A8, c8, e5, r0, r1, r2, r3, r4, r5, rF⟩ := form_F g5 HW.out.2.2.2 1 (by simp)
 simp only [List.getElem_cons_zero, List.getElem_cons_succ] at q0 q1 q2 q3 q4 q5 qF r0 r1 r2 r3 r4 r5 rF
 rw [add_0] at q0 q1 q2 q3 q4 q5
 subst e4
 injection e5 with e5
 subst e5
 have HBX := Lib.hid (show ∀ W, Below W1.heap.size W1 W → W.cell? ⟨w.heap.size, 5, none⟩ = some (.slice (some ad) 2 c5) from fun W hW => cell_up hW (blk_cell HW.out.2.1 5))
 have HYC := Lib.hid (show ∀ W, Below W1.heap.size W1 W → (W.cell? ad = some (.int .i64 y.f0) ∧ W.cell? ⟨ad.block, ad.off + 1, none⟩ = some (.string y.f1) ∧ W.cell? ⟨ad.block, ad.off + 2, none⟩ = some (.slice A3 y.f2.length c3) ∧ W.cell? ⟨ad.block, ad.off + 3, none⟩ = some (.int .i64 y.f3) ∧ W.cell? ⟨ad.block, ad.off + 4, none⟩ = some (.int .i64 y.f4) ∧ W.cell? ⟨ad.block, ad.off + 5, none⟩ = some (.slice A6 y.f5.length c6)) from fun W hW => ⟨cell_up hW q0, cell_up hW q1, cell_up hW q2, cell_up hW q3, cell_up hW q4, cell_up hW q5⟩)
 have HXC := Lib.hid (show ∀ W, Below W1.heap.size W1 W → (W.cell? ⟨ad.block, ad.off + 6, none⟩ = some (.int .i64 x.f0) ∧ W.cell? ⟨ad.block, ad.off + 6 + 1, none⟩ = some (.string x.f1) ∧ W.cell? ⟨ad.block, ad.off + 6 + 2, none⟩ = some (.slice A7 x.f2.length c7) ∧ W.cell? ⟨ad.block, ad.off + 6 + 3, none⟩ = some (.int .i64 x.f3) ∧ W.cell? ⟨ad.block, ad.off + 6 + 4, none⟩ = some (.int .i64 x.f4) ∧ W.cell? ⟨ad.block, ad.off + 6 + 5, none⟩ = some (.slice A8 x.f5.length c8)) from fun W hW => ⟨cell_up hW (add_6 ad ▸ r0), cell_up hW r1, cell_up hW r2, cell_up hW r3, cell_up hW r4, cell_up hW r5⟩)
 have HY := Lib.hid (show ∀ neg W, Below W1.heap.size W1 W → Calls Tryz.prog 52 #[.agg #[.int .i64 y.f0, .string y.f1, .slice A3 y.f2.length c3, .int .i64 y.f3, .int .i64 y.f4, .slice A6 y.f5.length c6], .bool neg] W fun e w' => Fr W w' ok (nf y neg) e from fun neg W hW =>
  have hB := below_then HW.out.2.2.2 HW.out.2.2.2.size hW
  hrec y hy neg W _ ok (Kd.FK_step qF (fun k _ hk => hB.block k hk)) (fun k hk => Nat.lt_of_lt_of_le (HOK.out k hk) hB.size) hwy hy2)
 have HX := Lib.hid (show ∀ neg W, Below W1.heap.size W1 W → Calls Tryz.prog 52 #[.agg #[.int .i64 x.f0, .string x.f1, .slice A7 x.f2.length c7, .int .i64 x.f3, .int .i64 x.f4, .slice A8 x.f5.length c8], .bool neg] W fun e w' => Fr W w' ok (nf x neg) e from fun neg W hW =>
  have hB := below_then HW.out.2.2.2 HW.out.2.2.2.size hW
  hrec x hx neg W _ ok (Kd.FK_step rF (fun k _ hk => hB.block k hk)) (fun k hk => Nat.lt_of_lt_of_le (HOK.out k hk) hB.size) hwx hx2)
 have HNS := Lib.hid (show size.sizes [nf y (!neg), nf x neg] < 1000000 by
  have h1 := sizes_ld [nf y (!neg), nf x neg]
  have h2 := two_bound (nf y (!neg)) (nf x neg)
  have h3 := nf_bound y (!neg)
  have h4 := nf_bound x neg
  have h5 := depth_size y
  have h6 := depth_size x
  have h7 := Nat.mul_le_mul (show leaves.leavess [nf y (!neg), nf x neg] ≤ 800 by omega) (show depth.depths [nf y (!neg), nf x neg] ≤ 500 by omega)
  omega)
 clear hF hok g5 qF rF hrec hy hx hwy hwx hy2 hx2 l5 q0 q1 q2 q3 q4 q5 r0 r1 r2 r3 r4 r5
 have HW1 := Lib.hid hW1
 clear hW1
 dsimp only [List.length_cons, List.length_nil] at *
 cases neg with
 | false =>
  have HE := Lib.hid (show nf ⟨7, nm, a, f, t, [y, x]⟩ false = join 6 [nf y true, nf x false] from HE0.out false)
  go_enter Tryz.func52, Tryz.ntmps52
  go_wp2_with fail
  rw [HW1.out]
  refine start_ (n := 17) (S := fun w' => Below W1.heap.size W1 w') (ds := [16]) #[false, false, false, false, false, false, false, false, false, false, false, false, false, false, false, false, false] (by kernel_rfl) rfl rfl (Below.drew (Below.refl _ _)) (fun hHeld => ?_)
  generalize W1.drew = w3 at hHeld ⊢
  refine pure_ (i := 0) (N := (some 45)) (v := ?_) (a' := ?_) #[true, false, false, false, false, false, false, false, false, false, false, false, false, false, false, false, false] rfl rfl (by kernel_rfl) (fun _ _ _ h => h) (Or.inl ⟨by rfl, ?_⟩) ?_ ?_
  rotate_left
  ·intro w'
   go_simp
   with_reducible rfl
  rotate_left
  ·simp only [Act.put, List.setIfInBounds_toArray, List.set_cons_zero, List.set_cons_succ]
   rfl
  refine pure_ (i := 1) (N := (some 46)) (v := ?_) (a' := ?_) #[true, true, false, false, false, false, false, false, false, false, false, false, false, false, false, false, false] rfl rfl (by kernel_rfl) (fun _ _ _ h => h) (Or.inl ⟨by rfl, ?_⟩) ?_ ?_
  rotate_left
  ·intro w'
   go_simp
   with_reducible rfl
  rotate_left
  ·simp only [Act.put, List.setIfInBounds_toArray, List.set_cons_zero, List.set_cons_succ]
   rfl
  refine take_ (i := 2) (N := (some 47)) (v := ?_) (a' := ?_) #[true, true, true, false, false, false, false, false, false, false, false, false, false, false, false, false, false] rfl rfl (by kernel_rfl) (fun _ _ _ h => h) (Or.inl ⟨by rfl, ?_⟩) hHeld ?_ ?_
  rotate_left
  ·rintro w' s0
   have k5 := HBX.out _ s0
   go_simp
   with_reducible rfl
  rotate_left
  ·simp only [Act.put, List.setIfInBounds_toArray, List.set_cons_zero, List.set_cons_succ]
   rfl
  refine pure_ (i := 3) (N := (some 48)) (v := ?_) (a' := ?_) #[true, true, true, true, false, false, false, false, false, false, false, false, false, false, false, false, false] rfl rfl (by kernel_rfl) (fun _ _ _ h => h) (Or.inl ⟨by rfl, ?_⟩) ?_ ?_
  rotate_left
  ·intro w'
   go_simp
   with_reducible rfl
  rotate_left
  ·simp only [Act.put, List.setIfInBounds_toArray, List.set_cons_zero, List.set_cons_succ]
   rfl
  refine take_ (i := 4) (N := (some 49)) (v := ?_) (a' := ?_) #[true, true, true, true, true, false, false, false, false, false, false, false, false, false, false, false, false] rfl rfl (by kernel_rfl) (fun _ _ _ h => h) (Or.inl ⟨by rfl, ?_⟩) hHeld ?_ ?_
  rotate_left
  ·rintro w' s0
   obtain ⟨k0, k1, k2, k3, k4, k5⟩ := HYC.out _ s0
   go_simp
   with_reducible rfl
  rotate_left
  ·simp only [Act.put, List.setIfInBounds_toArray, List.set_cons_zero, List.set_cons_succ]
   rfl
  refine pure_ (i := 5) (N := (some 50)) (v := ?_) (a' := ?_) #[true, true, true, true, true, true, false, false, false, false, false, false, false, false, false, false, false] rfl rfl (by kernel_rfl) (fun _ _ _ h => h) (Or.inl ⟨by rfl, ?_⟩) ?_ ?_
  rotate_left
  ·intro w'
   go_simp
   with_reducible rfl
  rotate_left
  ·simp only [Act.put, List.setIfInBounds_toArray, List.set_cons_zero, List.set_cons_succ]
   rfl
  refine pure_ (i := 6) (N := (some 51)) (v := ?_) (a' := ?_) #[true, true, true, true, true, true, true, false, false, false, false, false, false, false, false, false, false] rfl rfl (by kernel_rfl) (fun _ _ _ h => h) (Or.inl ⟨by rfl, ?_⟩) ?_ ?_
  rotate_left
  ·intro w'
   go_simp
   with_reducible rfl
  rotate_left
  ·simp only [Act.put, List.setIfInBounds_toArray, List.set_cons_zero, List.set_cons_succ]
   rfl
  refine pure_ (i := 8) (N := (some 53)) (v := ?_) (a' := ?_) #[true, true, true, true, true, true, true, false, true, false, false, false, false, false, false, false, false] rfl rfl (by kernel_rfl) (fun _ _ _ h => h) (Or.inl ⟨by rfl, ?_⟩) ?_ ?_
  rotate_left
  ·intro w'
   go_simp
   with_reducible rfl
  rotate_left
  ·simp only [Act.put, List.setIfInBounds_toArray, List.set_cons_zero, List.set_cons_succ]
   rfl
  refine take_ (i := 9) (N := (some 54)) (v := ?_) (a' := ?_) #[true, true, true, true, true, true, true, false, true, true, false, false, false, false, false, false, false] rfl rfl (by kernel_rfl) (fun _ _ _ h => h) (Or.inl ⟨by rfl, ?_⟩) hHeld ?_ ?_
  rotate_left
  ·rintro w' s0
   have k5 := HBX.out _ s0
   go_simp
   with_reducible rfl
  rotate_left
  ·simp only [Act.put, List.setIfInBounds_toArray, List.set_cons_zero, List.set_cons_succ]
   rfl
  refine pure_ (i := 10) (N := (some 55)) (v := ?_) (a' := ?_) #[true, true, true, true, true, true, true, false, true, true, true, false, false, false, false, false, false] rfl rfl (by kernel_rfl) (fun _ _ _ h => h) (Or.inl ⟨by rfl, ?_⟩) ?_ ?_
  rotate_left
  ·intro w'
   go_simp
   with_reducible rfl
  rotate_left
  ·simp only [Act.put, List.setIfInBounds_toArray, List.set_cons_zero, List.set_cons_succ]
   rfl
  refine take_ (i := 11) (N := (some 56)) (v := ?_) (a' := ?_) #[true, true, true, true, true, true, true, false, true, true, true, true, false, false, false, false, false] rfl rfl (by kernel_rfl) (fun _ _ _ h => h) (Or.inl ⟨by rfl, ?_⟩) hHeld ?_ ?_
  rotate_left
  ·rintro w' s0
   obtain ⟨k0, k1, k2, k3, k4, k5⟩ := HXC.out _ s0
   go_simp
   with_reducible rfl
  rotate_left
  ·simp only [Act.put, List.setIfInBounds_toArray, List.set_cons_zero, List.set_cons_succ]
   rfl
  refine pure_ (i := 12) (N := (some 57)) (v := ?_) (a' := ?_) #[true, true, true, true, true, true, true, false, true, true, true, true, true, false, false, false, false] rfl rfl (by kernel_rfl) (fun _ _ _ h => h) (Or.inl ⟨by rfl, ?_⟩) ?_ ?_
  rotate_left
  ·intro w'
   go_simp
   with_reducible rfl
  rotate_left
  ·simp only [Act.put, List.setIfInBounds_toArray, List.set_cons_zero, List.set_cons_succ]
   rfl
  refine one_ (i := 7) (N := (some 52)) #[true, true, true, true, true, true, true, true, true, true, true, true, true, false, false, false, false] rfl rfl (by kernel_rfl) (by decide) (fun K hK => ?_)
  go_simp
  refine (HY.out true w3 hHeld).mono ?_
  rintro e w4 ⟨ds, rfl, hF4, hB4⟩
  have HB4 := Lib.hid (below_then hHeld hHeld.size hB4)
  have HF4 := Lib.hid (Kd.FK_mono (ok' := OkN ok W1.heap.size) hF4 (fun k hk => hk.imp id (Nat.le_trans hHeld.size)))
  clear hF4
  refine hK.out _ _ HB4.out (fun hHeld => ?_)
  clear hK K
  (try simp only [Act.put, List.setIfInBounds_toArray, List.set_cons_zero, List.set_cons_succ])
  refine one_ (i := 13) (N := (some 58)) #[true, true, true, true, true, true, true, true, true, true, true, true, true, true, false, false, false] rfl rfl (by kernel_rfl) (by decide) (fun K hK => ?_)
  go_simp
  refine (HX.out false w4 hHeld).mono ?_
  rintro e w5 ⟨es, rfl, hF5, hB5⟩
  have HB5 := Lib.hid (below_then hHeld hHeld.size hB5)
  have HF5 := Lib.hid (Kd.FK_mono (ok' := OkN ok W1.heap.size) hF5 (fun k hk => hk.imp id (Nat.le_trans hHeld.size)))
  have HF45 := Lib.hid (Kd.FK_step HF4.out (fun k _ hk => hB5.block k hk))
  clear hF5
  obtain ⟨B2, d2, B5, d5, rfl, -⟩ := k32_openF HF45.out
  obtain ⟨D2, g2, D5, g5, rfl, -⟩ := k32_openF HF5.out
  refine hK.out _ _ HB5.out (fun hHeld => ?_)
  clear hK K
  (try simp only [Act.put, List.setIfInBounds_toArray, List.set_cons_zero, List.set_cons_succ])
  refine one_ (i := 14) (N := (some 59)) #[true, true, true, true, true, true, true, true, true, true, true, true, true, true, true, false, false] rfl rfl (by kernel_rfl) (by decide) (fun K hK => ?_)
  go_simp
  have HJN := Lib.hid (join_two (w := w5) HF45.out HF5.out HNS.out)
  refine hK.out _ _ (hHeld.alloc hHeld.size _) (fun hHeld => ?_)
  clear hK K
  (try simp only [Act.put, List.setIfInBounds_toArray, List.set_cons_zero, List.set_cons_succ])
  refine one_ (i := 15) (N := (some 60)) #[true, true, true, true, true, true, true, true, true, true, true, true, true, true, true, true, false] rfl rfl (by kernel_rfl) (by decide) (fun K hK => ?_)
  go_simp
  refine (HJN.out 6 (by omega)).mono ?_
  rintro e w7 ⟨js, rfl, hF7, hB7⟩
  have HB7 := Lib.hid (below_then hHeld hHeld.size hB7)
  have HSB := Lib.hid ((HB7.out.block (w.heap.size + 1) (by rw [HW.out.1]; omega)).trans HW.out.2.2.1)
  obtain ⟨z, hz⟩ : ∃ z, join 6 [nf y true, nf x false] = z := ⟨_, rfl⟩
  rw [hz] at hF7 HE
  have HF7 := Lib.hid (Kd.FK_mono (ok' := OkN ok W1.heap.size) hF7 (fun k hk => by
   rcases hk with (hk | rfl) | hk
   ·exact hk.1
   ·exact Or.inr HB5.out.size
   ·exact Or.inr (Nat.le_trans hHeld.size hk)))
  obtain ⟨G2, i2, G5, i5, rfl, -⟩ := k32_openF hF7
  obtain ⟨y0, y1, y2, y3, y4, y5, f0, f1, f2, f3, f4, f5⟩ := slot_cells HSB.out
  clear hF7 hB7 hz
  refine hK.out _ _ HB7.out (fun hHeld => ?_)
  clear hK K
  (try simp only [Act.put, List.setIfInBounds_toArray, List.set_cons_zero, List.set_cons_succ])
  refine last_ (i := 16) (N := none) #[true, true, true, true, true, true, true, true, true, true, true, true, true, true, true, true, true] rfl rfl (by kernel_rfl) (by decide) (fun K hK => ?_)
  go_simp
  refine hK.out _ _ ?_
  clear hK K
  (try simp only [Act.put, List.setIfInBounds_toArray, List.set_cons_zero, List.set_cons_succ])
  refine done_ (by kernel_rfl) ?_
  go_wp2
  refine bodyPost_ret (res_slot rfl _ _ _ _ _ _ _ _ _ rfl (six_blk HSB.out _ _ _ _ _ _)) rfl ?_
  rw [HE.out]
  exact slot_done HF7.out (below_then HW.out.2.2.2 HW.out.2.2.2.size HB7.out) (by omega) (fun k hk => by
   have h1 := HW.out.1
   rcases hk with hk | hk
   ·have := HOK.out k hk; omega
   ·omega) (fun k hk => by
   have h1 := HW.out.1
   rcases hk with hk | hk
   ·exact Or.inl hk
   ·exact Or.inr (by omega))
 | true =>
  have HE := Lib.hid (show nf ⟨7, nm, a, f, t, [y, x]⟩ true = join 5 [nf y false, nf x true] from HE0.out true)
  go_enter Tryz.func52, Tryz.ntmps52
  go_wp2_with fail
  rw [HW1.out]
  refine start_ (n := 17) (S := fun w' => Below W1.heap.size W1 w') (ds := [16]) #[false, false, false, false, false, false, false, false, false, false, false, false, false, false, false, false, false] (by kernel_rfl) rfl rfl (Below.drew (Below.refl _ _)) (fun hHeld => ?_)
  generalize W1.drew = w3 at hHeld ⊢
  refine pure_ (i := 0) (N := (some 45)) (v := ?_) (a' := ?_) #[true, false, false, false, false, false, false, false, false, false, false, false, false, false, false, false, false] rfl rfl (by kernel_rfl) (fun _ _ _ h => h) (Or.inl ⟨by rfl, ?_⟩) ?_ ?_
  rotate_left
  ·intro w'
   go_simp
   with_reducible rfl
  rotate_left
  ·simp only [Act.put, List.setIfInBounds_toArray, List.set_cons_zero, List.set_cons_succ]
   rfl
  refine pure_ (i := 1) (N := (some 46)) (v := ?_) (a' := ?_) #[true, true, false, false, false, false, false, false, false, false, false, false, false, false, false, false, false] rfl rfl (by kernel_rfl) (fun _ _ _ h => h) (Or.inl ⟨by rfl, ?_⟩) ?_ ?_
  rotate_left
  ·intro w'
   go_simp
   with_reducible rfl
  rotate_left
  ·simp only [Act.put, List.setIfInBounds_toArray, List.set_cons_zero, List.set_cons_succ]
   rfl
  refine take_ (i := 2) (N := (some 47)) (v := ?_) (a' := ?_) #[true, true, true, false, false, false, false, false, false, false, false, false, false, false, false, false, false] rfl rfl (by kernel_rfl) (fun _ _ _ h => h) (Or.inl ⟨by rfl, ?_⟩) hHeld ?_ ?_
  rotate_left
  ·rintro w' s0
   have k5 := HBX.out _ s0
   go_simp
   with_reducible rfl
  rotate_left
  ·simp only [Act.put, List.setIfInBounds_toArray, List.set_cons_zero, List.set_cons_succ]
   rfl
  refine pure_ (i := 3) (N := (some 48)) (v := ?_) (a' := ?_) #[true, true, true, true, false, false, false, false, false, false, false, false, false, false, false, false, false] rfl rfl (by kernel_rfl) (fun _ _ _ h => h) (Or.inl ⟨by rfl, ?_⟩) ?_ ?_
  rotate_left
  ·intro w'
   go_simp
   with_reducible rfl
  rotate_left
  ·simp only [Act.put, List.setIfInBounds_toArray, List.set_cons_zero, List.set_cons_succ]
   rfl
  refine take_ (i := 4) (N := (some 49)) (v := ?_) (a' := ?_) #[true, true, true, true, true, false, false, false, false, false, false, false, false, false, false, false, false] rfl rfl (by kernel_rfl) (fun _ _ _ h => h) (Or.inl ⟨by rfl, ?_⟩) hHeld ?_ ?_
  rotate_left
  ·rintro w' s0
   obtain ⟨k0, k1, k2, k3, k4, k5⟩ := HYC.out _ s0
   go_simp
   with_reducible rfl
  rotate_left
  ·simp only [Act.put, List.setIfInBounds_toArray, List.set_cons_zero, List.set_cons_succ]
   rfl
  refine pure_ (i := 5) (N := (some 50)) (v := ?_) (a' := ?_) #[true, true, true, true, true, true, false, false, false, false, false, false, false, false, false, false, false] rfl rfl (by kernel_rfl) (fun _ _ _ h => h) (Or.inl ⟨by rfl, ?_⟩) ?_ ?_
  rotate_left
  ·intro w'
   go_simp
   with_reducible rfl
  rotate_left
  ·simp only [Act.put, List.setIfInBounds_toArray, List.set_cons_zero, List.set_cons_succ]
   rfl
  refine pure_ (i := 6) (N := (some 51)) (v := ?_) (a' := ?_) #[true, true, true, true, true, true, true, false, false, false, false, false, false, false, false, false, false] rfl rfl (by kernel_rfl) (fun _ _ _ h => h) (Or.inl ⟨by rfl, ?_⟩) ?_ ?_
  rotate_left
  ·intro w'
   go_simp
   with_reducible rfl
  rotate_left
  ·simp only [Act.put, List.setIfInBounds_toArray, List.set_cons_zero, List.set_cons_succ]
   rfl
  refine pure_ (i := 8) (N := (some 53)) (v := ?_) (a' := ?_) #[true, true, true, true, true, true, true, false, true, false, false, false, false, false, false, false, false] rfl rfl (by kernel_rfl) (fun _ _ _ h => h) (Or.inl ⟨by rfl, ?_⟩) ?_ ?_
  rotate_left
  ·intro w'
   go_simp
   with_reducible rfl
  rotate_left
  ·simp only [Act.put, List.setIfInBounds_toArray, List.set_cons_zero, List.set_cons_succ]
   rfl
  refine take_ (i := 9) (N := (some 54)) (v := ?_) (a' := ?_) #[true, true, true, true, true, true, true, false, true, true, false, false, false, false, false, false, false] rfl rfl (by kernel_rfl) (fun _ _ _ h => h) (Or.inl ⟨by rfl, ?_⟩) hHeld ?_ ?_
  rotate_left
  ·rintro w' s0
   have k5 := HBX.out _ s0
   go_simp
   with_reducible rfl
  rotate_left
  ·simp only [Act.put, List.setIfInBounds_toArray, List.set_cons_zero, List.set_cons_succ]
   rfl
  refine pure_ (i := 10) (N := (some 55)) (v := ?_) (a' := ?_) #[true, true, true, true, true, true, true, false, true, true, true, false, false, false, false, false, false] rfl rfl (by kernel_rfl) (fun _ _ _ h => h) (Or.inl ⟨by rfl, ?_⟩) ?_ ?_
  rotate_left
  ·intro w'
   go_simp
   with_reducible rfl
  rotate_left
  ·simp only [Act.put, List.setIfInBounds_toArray, List.set_cons_zero, List.set_cons_succ]
   rfl
  refine take_ (i := 11) (N := (some 56)) (v := ?_) (a' := ?_) #[true, true, true, true, true, true, true, false, true, true, true, true, false, false, false, false, false] rfl rfl (by kernel_rfl) (fun _ _ _ h => h) (Or.inl ⟨by rfl, ?_⟩) hHeld ?_ ?_
  rotate_left
  ·rintro w' s0
   obtain ⟨k0, k1, k2, k3, k4, k5⟩ := HXC.out _ s0
   go_simp
   with_reducible rfl
  rotate_left
  ·simp only [Act.put, List.setIfInBounds_toArray, List.set_cons_zero, List.set_cons_succ]
   rfl
  refine pure_ (i := 12) (N := (some 57)) (v := ?_) (a' := ?_) #[true, true, true, true, true, true, true, false, true, true, true, true, true, false, false, false, false] rfl rfl (by kernel_rfl) (fun _ _ _ h => h) (Or.inl ⟨by rfl, ?_⟩) ?_ ?_
  rotate_left
  ·intro w'
   go_simp
   with_reducible rfl
  rotate_left
  ·simp only [Act.put, List.setIfInBounds_toArray, List.set_cons_zero, List.set_cons_succ]
   rfl
  refine one_ (i := 7) (N := (some 52)) #[true, true, true, true, true, true, true, true, true, true, true, true, true, false, false, false, false] rfl rfl (by kernel_rfl) (by decide) (fun K hK => ?_)
  go_simp
  refine (HY.out false w3 hHeld).mono ?_
  rintro e w4 ⟨ds, rfl, hF4, hB4⟩
  have HB4 := Lib.hid (below_then hHeld hHeld.size hB4)
  have HF4 := Lib.hid (Kd.FK_mono (ok' := OkN ok W1.heap.size) hF4 (fun k hk => hk.imp id (Nat.le_trans hHeld.size)))
  clear hF4
  refine hK.out _ _ HB4.out (fun hHeld => ?_)
  clear hK K
  (try simp only [Act.put, List.setIfInBounds_toArray, List.set_cons_zero, List.set_cons_succ])
  refine one_ (i := 13) (N := (some 58)) #[true, true, true, true, true, true, true, true, true, true, true, true, true, true, false, false, false] rfl rfl (by kernel_rfl) (by decide) (fun K hK => ?_)
  go_simp
  refine (HX.out true w4 hHeld).mono ?_
  rintro e w5 ⟨es, rfl, hF5, hB5⟩
  have HB5 := Lib.hid (below_then hHeld hHeld.size hB5)
  have HF5 := Lib.hid (Kd.FK_mono (ok' := OkN ok W1.heap.size) hF5 (fun k hk => hk.imp id (Nat.le_trans hHeld.size)))
  have HF45 := Lib.hid (Kd.FK_step HF4.out (fun k _ hk => hB5.block k hk))
  clear hF5
  obtain ⟨B2, d2, B5, d5, rfl, -⟩ := k32_openF HF45.out
  obtain ⟨D2, g2, D5, g5, rfl, -⟩ := k32_openF HF5.out
  refine hK.out _ _ HB5.out (fun hHeld => ?_)
  clear hK K
  (try simp only [Act.put, List.setIfInBounds_toArray, List.set_cons_zero, List.set_cons_succ])
  refine one_ (i := 14) (N := (some 59)) #[true, true, true, true, true, true, true, true, true, true, true, true, true, true, true, false, false] rfl rfl (by kernel_rfl) (by decide) (fun K hK => ?_)
  go_simp
  have HJN := Lib.hid (join_two (w := w5) HF45.out HF5.out HNS.out)
  refine hK.out _ _ (hHeld.alloc hHeld.size _) (fun hHeld => ?_)
  clear hK K
  (try simp only [Act.put, List.setIfInBounds_toArray, List.set_cons_zero, List.set_cons_succ])
  refine one_ (i := 15) (N := (some 60)) #[true, true, true, true, true, true, true, true, true, true, true, true, true, true, true, true, false] rfl rfl (by kernel_rfl) (by decide) (fun K hK => ?_)
  go_simp
  refine (HJN.out 5 (by omega)).mono ?_
  rintro e w7 ⟨js, rfl, hF7, hB7⟩
  have HB7 := Lib.hid (below_then hHeld hHeld.size hB7)
  have HSB := Lib.hid ((HB7.out.block (w.heap.size + 1) (by rw [HW.out.1]; omega)).trans HW.out.2.2.1)
  obtain ⟨z, hz⟩ : ∃ z, join 5 [nf y false, nf x true] = z := ⟨_, rfl⟩
  rw [hz] at hF7 HE
  have HF7 := Lib.hid (Kd.FK_mono (ok' := OkN ok W1.heap.size) hF7 (fun k hk => by
   rcases hk with (hk | rfl) | hk
   ·exact hk.1
   ·exact Or.inr HB5.out.size
   ·exact Or.inr (Nat.le_trans hHeld.size hk)))
  obtain ⟨G2, i2, G5, i5, rfl, -⟩ := k32_openF hF7
  obtain ⟨y0, y1, y2, y3, y4, y5, f0, f1, f2, f3, f4, f5⟩ := slot_cells HSB.out
  clear hF7 hB7 hz
  refine hK.out _ _ HB7.out (fun hHeld => ?_)
  clear hK K
  (try simp only [Act.put, List.setIfInBounds_toArray, List.set_cons_zero, List.set_cons_succ])
  refine last_ (i := 16) (N := none) #[true, true, true, true, true, true, true, true, true, true, true, true, true, true, true, true, true] rfl rfl (by kernel_rfl) (by decide) (fun K hK => ?_)
  go_simp
  refine hK.out _ _ ?_
  clear hK K
  (try simp only [Act.put, List.setIfInBounds_toArray, List.set_cons_zero, List.set_cons_succ])
  refine done_ (by kernel_rfl) ?_
  go_wp2
  refine bodyPost_ret (res_slot rfl _ _ _ _ _ _ _ _ _ rfl (six_blk HSB.out _ _ _ _ _ _)) rfl ?_
  rw [HE.out]
  exact slot_done HF7.out (below_then HW.out.2.2.2 HW.out.2.2.2.size HB7.out) (by omega) (fun k hk => by
   have h1 := HW.out.1
   rcases hk with hk | hk
   ·have := HOK.out k hk; omega
   ·omega) (fun k hk => by
   have h1 := HW.out.1
   rcases hk with hk | hk
   ·exact Or.inl hk
   ·exact Or.inr (by omega))
theorem six_size (w : World) (s : Nat) (c0 c1 c2 c3 c4 c5 : Value) : (six w s c0 c1 c2 c3 c4 c5).heap.size = w.heap.size := by simp [six, World.setCell]
set_option maxRecDepth 1000000 in
set_option maxHeartbeats 4000000 in
theorem nr_dur {n : Nat} (hrec : NrTo n) {nm : ByteArray} {a : List S84} {f t : Int} {y : S32} (hy : size y < n) (hwy : Wf y) (hy2 : size y ≤ 200) {w : World} {cs : List Value} {ok : Nat → Prop} (neg : Bool) (hF : Kd.FK k32 w ok ⟨10, nm, a, f, t, [y]⟩ cs) (hok : ∀ k, ok k → k < w.heap.size) :
  Calls Tryz.prog 52 #[.agg cs.toArray, .bool neg] w fun e w' => Fr w w' ok (nf ⟨10, nm, a, f, t, [y]⟩ neg) e := by
 obtain ⟨A2, c2, A5, c5, rfl, _, _, l5, g5⟩ := k32_openF hF
 have HOK := Lib.hid hok
 have HE := Lib.hid (show nf ⟨10, nm, a, f, t, [y]⟩ neg = if neg then inverseF (duringF f t (nf y false)) else duringF f t (nf y false) by rw [nf, if_neg (by omega), if_neg (by omega), if_neg (by omega), if_neg (by omega), if_pos rfl]; simp [nfs])
 have HW := Lib.hid (box_slot w #[.int .i64 10, .string nm, .slice A2 a.length c2, .int .i64 f, .int .i64 t, .slice A5 1 c5])
 obtain ⟨W1, hW1⟩ : ∃ W1, (w.alloc (.cells #[.int .i64 10, .string nm, .slice A2 a.length c2, .int .i64 f, .int .i64 t, .slice A5 1 c5] 32)).alloc (.cells z6 32) = W1 := ⟨_, rfl⟩
 rw [hW1] at HW
 obtain ⟨ad, A3, c3, A6, c6, e4, q0, q1, q2, q3, q4, q5, qF⟩ := form_F g5 HW.out.2.2.2 0 (by simp)
 simp only [List.getElem_cons_zero] at q0 q1 q2 q3 q4 q5 qF
 rw [add_0] at q0 q1 q2 q3 q4 q5
 subst e4
 have HBX := Lib.hid (show ∀ W, Below W1.heap.size W1 W → W.cell? ⟨w.heap.size, 5, none⟩ = some (.slice (some ad) 1 c5) from fun W hW => cell_up hW (blk_cell HW.out.2.1 5))
 have HB3 := Lib.hid (show ∀ W, Below W1.heap.size W1 W → W.cell? ⟨w.heap.size, 3, none⟩ = some (.int .i64 f) from fun W hW => cell_up hW (blk_cell HW.out.2.1 3))
 have HB4X := Lib.hid (show ∀ W, Below W1.heap.size W1 W → W.cell? ⟨w.heap.size, 4, none⟩ = some (.int .i64 t) from fun W hW => cell_up hW (blk_cell HW.out.2.1 4))
 have HYC := Lib.hid (show ∀ W, Below W1.heap.size W1 W → (W.cell? ad = some (.int .i64 y.f0) ∧ W.cell? ⟨ad.block, ad.off + 1, none⟩ = some (.string y.f1) ∧ W.cell? ⟨ad.block, ad.off + 2, none⟩ = some (.slice A3 y.f2.length c3) ∧ W.cell? ⟨ad.block, ad.off + 3, none⟩ = some (.int .i64 y.f3) ∧ W.cell? ⟨ad.block, ad.off + 4, none⟩ = some (.int .i64 y.f4) ∧ W.cell? ⟨ad.block, ad.off + 5, none⟩ = some (.slice A6 y.f5.length c6)) from fun W hW => ⟨cell_up hW q0, cell_up hW q1, cell_up hW q2, cell_up hW q3, cell_up hW q4, cell_up hW q5⟩)
 have HY := Lib.hid (show ∀ neg W, Below W1.heap.size W1 W → Calls Tryz.prog 52 #[.agg #[.int .i64 y.f0, .string y.f1, .slice A3 y.f2.length c3, .int .i64 y.f3, .int .i64 y.f4, .slice A6 y.f5.length c6], .bool neg] W fun e w' => Fr W w' ok (nf y neg) e from fun neg W hW =>
  have hB := below_then HW.out.2.2.2 HW.out.2.2.2.size hW
  hrec y hy neg W _ ok (Kd.FK_step qF (fun k _ hk => hB.block k hk)) (fun k hk => Nat.lt_of_lt_of_le (HOK.out k hk) hB.size) hwy hy2)
 have HNS := Lib.hid (nf_sz (x := y) false hy2)
 have HNZ := Lib.hid (show leaves (duringF f t (nf y false)) * (2 + depth (duringF f t (nf y false))) < 1000000 by
  have h1 := duringF_bound f t (nf y false)
  have h3 := nf_bound y false
  have h5 := depth_size y
  have h7 := Nat.mul_le_mul (show leaves (duringF f t (nf y false)) ≤ 400 by omega) (show 2 + depth (duringF f t (nf y false)) ≤ 500 by omega)
  omega)
 clear hF hok g5 qF hrec hy hwy hy2 l5 q0 q1 q2 q3 q4 q5
 have HW1 := Lib.hid hW1
 clear hW1
 dsimp only [List.length_cons, List.length_nil] at *
 go_enter Tryz.func52, Tryz.ntmps52
 go_wp2_with fail
 rw [HW1.out]
 refine start_ (n := 12) (S := fun w' => Below W1.heap.size W1 w') (ds := []) #[false, false, false, false, false, false, false, false, false, false, false, false] (by kernel_rfl) rfl rfl (Below.drew (Below.refl _ _)) (fun hHeld => ?_)
 generalize W1.drew = w3 at hHeld ⊢
 refine pure_ (i := 0) (N := (some 63)) (v := ?_) (a' := ?_) #[true, false, false, false, false, false, false, false, false, false, false, false] rfl rfl (by kernel_rfl) (fun _ _ _ h => h) (Or.inl ⟨by rfl, ?_⟩) ?_ ?_
 rotate_left
 ·intro w'
  go_simp
  with_reducible rfl
 rotate_left
 ·simp only [Act.put, List.setIfInBounds_toArray, List.set_cons_zero, List.set_cons_succ]
  rfl
 refine take_ (i := 1) (N := (some 64)) (v := ?_) (a' := ?_) #[true, true, false, false, false, false, false, false, false, false, false, false] rfl rfl (by kernel_rfl) (fun _ _ _ h => h) (Or.inl ⟨by rfl, ?_⟩) hHeld ?_ ?_
 rotate_left
 ·rintro w' s0
  have k5 := HB3.out _ s0
  go_simp
  with_reducible rfl
 rotate_left
 ·simp only [Act.put, List.setIfInBounds_toArray, List.set_cons_zero, List.set_cons_succ]
  rfl
 refine pure_ (i := 2) (N := (some 65)) (v := ?_) (a' := ?_) #[true, true, true, false, false, false, false, false, false, false, false, false] rfl rfl (by kernel_rfl) (fun _ _ _ h => h) (Or.inl ⟨by rfl, ?_⟩) ?_ ?_
 rotate_left
 ·intro w'
  go_simp
  with_reducible rfl
 rotate_left
 ·simp only [Act.put, List.setIfInBounds_toArray, List.set_cons_zero, List.set_cons_succ]
  rfl
 refine take_ (i := 3) (N := (some 66)) (v := ?_) (a' := ?_) #[true, true, true, true, false, false, false, false, false, false, false, false] rfl rfl (by kernel_rfl) (fun _ _ _ h => h) (Or.inl ⟨by rfl, ?_⟩) hHeld ?_ ?_
 rotate_left
 ·rintro w' s0
  have k5 := HB4X.out _ s0
  go_simp
  with_reducible rfl
 rotate_left
 ·simp only [Act.put, List.setIfInBounds_toArray, List.set_cons_zero, List.set_cons_succ]
  rfl
 refine pure_ (i := 4) (N := (some 67)) (v := ?_) (a' := ?_) #[true, true, true, true, true, false, false, false, false, false, false, false] rfl rfl (by kernel_rfl) (fun _ _ _ h => h) (Or.inl ⟨by rfl, ?_⟩) ?_ ?_
 rotate_left
 ·intro w'
  go_simp
  with_reducible rfl
 rotate_left
 ·simp only [Act.put, List.setIfInBounds_toArray, List.set_cons_zero, List.set_cons_succ]
  rfl
 refine take_ (i := 5) (N := (some 68)) (v := ?_) (a' := ?_) #[true, true, true, true, true, true, false, false, false, false, false, false] rfl rfl (by kernel_rfl) (fun _ _ _ h => h) (Or.inl ⟨by rfl, ?_⟩) hHeld ?_ ?_
 rotate_left
 ·rintro w' s0
  have k5 := HBX.out _ s0
  go_simp
  with_reducible rfl
 rotate_left
 ·simp only [Act.put, List.setIfInBounds_toArray, List.set_cons_zero, List.set_cons_succ]
  rfl
 refine pure_ (i := 6) (N := (some 69)) (v := ?_) (a' := ?_) #[true, true, true, true, true, true, true, false, false, false, false, false] rfl rfl (by kernel_rfl) (fun _ _ _ h => h) (Or.inl ⟨by rfl, ?_⟩) ?_ ?_
 rotate_left
 ·intro w'
  go_simp
  with_reducible rfl
 rotate_left
 ·simp only [Act.put, List.setIfInBounds_toArray, List.set_cons_zero, List.set_cons_succ]
  rfl
 refine take_ (i := 7) (N := (some 70)) (v := ?_) (a' := ?_) #[true, true, true, true, true, true, true, true, false, false, false, false] rfl rfl (by kernel_rfl) (fun _ _ _ h => h) (Or.inl ⟨by rfl, ?_⟩) hHeld ?_ ?_
 rotate_left
 ·rintro w' s0
  obtain ⟨k0, k1, k2, k3, k4, k5⟩ := HYC.out _ s0
  go_simp
  with_reducible rfl
 rotate_left
 ·simp only [Act.put, List.setIfInBounds_toArray, List.set_cons_zero, List.set_cons_succ]
  rfl
 refine two_ (i := 8) (j := 10) (Ni := (some 71)) (Nj := (some 6)) #[true, true, true, true, true, true, true, true, true, false, false, false] #[true, true, true, true, true, true, true, true, false, false, true, false] rfl rfl rfl rfl (by kernel_rfl) (by decide) (by decide) (fun K hK => ?_) (fun K hK => ?_)
 ·go_simp
  refine (HY.out false _ hHeld).mono ?_
  rintro e w4 ⟨ds, rfl, hF4, hB4⟩
  have HB4 := Lib.hid (below_then hHeld hHeld.size hB4)
  have HFY := Lib.hid (Kd.FK_bound hF4)
  have HY1 := Lib.hid (show ∀ k, (OkN ok w3.heap.size k ∧ k < w4.heap.size) → OkN ok W1.heap.size k from fun k hk => hk.1.imp id (Nat.le_trans hHeld.size))
  clear hF4
  obtain ⟨B2, d2, B5, d5, rfl, -⟩ := k32_openF HFY.out
  refine hK.out _ _ HB4.out (fun hHeld => ?_)
  clear hK K
  (try simp only [Act.put, List.setIfInBounds_toArray, List.set_cons_zero, List.set_cons_succ])
  refine two_ (i := 9) (j := 10) (Ni := (some 72)) (Nj := (some 6)) #[true, true, true, true, true, true, true, true, true, true, false, false] #[true, true, true, true, true, true, true, true, true, false, true, false] rfl rfl rfl rfl (by kernel_rfl) (by decide) (by decide) (fun K hK => ?_) (fun K hK => ?_)
  ·go_simp
   have hd := during_any (w := w4) f t HFY.out (fun k hk => Nat.lt_of_lt_of_le hk.2 (by first | exact Nat.le_refl _ | (show _ ≤ (w4.heap.push _).size; simp))) HNS.out
   refine hd.mono ?_
   rintro e w6 ⟨es, rfl, hF6, hB6⟩
   have HB6 := Lib.hid (below_then hHeld hHeld.size hB6)
   have HFZ := Lib.hid (Kd.FK_bound hF6)
   obtain ⟨z, hz⟩ : ∃ z, duringF f t (nf y false) = z := ⟨_, rfl⟩
   rw [hz] at HFZ HE HNZ
   have HZ1 := Lib.hid (show ∀ k, (OkN (fun k => (OkN ok w3.heap.size k ∧ k < w4.heap.size)) w4.heap.size k ∧ k < w6.heap.size) → OkN ok W1.heap.size k from fun k hk => hk.1.elim (HY1.out k) (fun h => Or.inr (Nat.le_trans hHeld.size h)))
   clear hF6 hd hz
   obtain ⟨D2, i2, D5, i5, rfl, -⟩ := k32_openF HFZ.out
   refine hK.out _ _ HB6.out (fun hHeld => ?_)
   clear hK K
   (try simp only [Act.put, List.setIfInBounds_toArray, List.set_cons_zero, List.set_cons_succ])
   refine one_ (i := 10) (N := (some 6)) #[true, true, true, true, true, true, true, true, true, true, true, false] rfl rfl (by kernel_rfl) (by decide) (fun K hK => ?_)
   go_simp
   have HS6 := Lib.hid (blk_new w6 (.cells z6 32))
   have HSZ6 := Lib.hid (show W1.heap.size ≤ w6.heap.size from hHeld.size)
   have HSA6 := Lib.hid (show (w6.alloc (.cells z6 32)).heap.size = w6.heap.size + 1 by show (w6.heap.push _).size = _; simp)
   refine hK.out _ _ (hHeld.alloc hHeld.size _) (fun hHeld => ?_)
   clear hK K
   (try simp only [Act.put, List.setIfInBounds_toArray, List.set_cons_zero, List.set_cons_succ])
   refine one_ (i := 11) (N := none) #[true, true, true, true, true, true, true, true, true, true, true, true] rfl rfl (by kernel_rfl) (by decide) (fun K hK => ?_)
   go_simp
   refine hK.out _ _ (HB6.out.alloc HB6.out.size _) (fun hHeld => ?_)
   clear hK K
   (try simp only [Act.put, List.setIfInBounds_toArray, List.set_cons_zero, List.set_cons_succ])
   refine done_ (by kernel_rfl) ?_
   have HG5 := Lib.hid (blk_new w6 (.cells #[.int .i64 z.f0, .string z.f1, .slice D2 z.f2.length i2, .int .i64 z.f3, .int .i64 z.f4, .slice D5 z.f5.length i5] 32))
   have HFW := Lib.hid (Kd.FK_below HFZ.out ((Below.refl w6.heap.size w6).alloc (Nat.le_refl _) (.cells #[.int .i64 z.f0, .string z.f1, .slice D2 z.f2.length i2, .int .i64 z.f3, .int .i64 z.f4, .slice D5 z.f5.length i5] 32)))
   have HLW := Lib.hid (show ∀ k, (fun k => OkN (fun k => (OkN ok w3.heap.size k ∧ k < w4.heap.size)) w4.heap.size k ∧ k < w6.heap.size) k → k < (w6.alloc (.cells #[.int .i64 z.f0, .string z.f1, .slice D2 z.f2.length i2, .int .i64 z.f3, .int .i64 z.f4, .slice D5 z.f5.length i5] 32)).heap.size from fun k hk => Nat.lt_of_lt_of_le hk.2 (by show _ ≤ (w6.heap.push _).size; simp))
   have HHD := Lib.hid (show Below W1.heap.size W1 (w6.alloc (.cells #[.int .i64 z.f0, .string z.f1, .slice D2 z.f2.length i2, .int .i64 z.f3, .int .i64 z.f4, .slice D5 z.f5.length i5] 32)) from hHeld)
   clear hHeld
   generalize (w6.alloc (.cells #[.int .i64 z.f0, .string z.f1, .slice D2 z.f2.length i2, .int .i64 z.f3, .int .i64 z.f4, .slice D5 z.f5.length i5] 32)) = W5 at HG5 HFW HLW HHD ⊢
   obtain ⟨b6, hb6⟩ : ∃ b, w6.heap.size = b := ⟨_, rfl⟩
   rw [hb6] at HG5 ⊢
   have HZ1 := Lib.hid (show ∀ k, (fun k => OkN (fun k => (OkN ok w3.heap.size k ∧ k < w4.heap.size)) w4.heap.size k ∧ k < w6.heap.size) k → OkN ok W1.heap.size k from HZ1.out)
   generalize (fun k => OkN (fun k => (OkN ok w3.heap.size k ∧ k < w4.heap.size)) w4.heap.size k ∧ k < w6.heap.size) = Q at HFW HLW HZ1
   have HSB := Lib.hid ((HHD.out.block (w.heap.size + 1) (by rw [HW.out.1]; omega)).trans HW.out.2.2.1)
   have HBW5 := Lib.hid (below_then HW.out.2.2.2 HW.out.2.2.2.size HHD.out)
   have HIV := Lib.hid (inv_any (size z + 1) z (by omega) W5 _ Q HFW.out HLW.out HNZ.out)
   obtain ⟨x0, x1, x2, x3, x4, x5, -⟩ := slot_cells HG5.out
   obtain ⟨y0, y1, y2, y3, y4, y5, f0, f1, f2, f3, f4, f5⟩ := slot_cells HSB.out
   have hb6w := Lib.hid hb6
   clear hb6
   cases neg with
   | false =>
    have HE2 := Lib.hid (show nf ⟨10, nm, a, f, t, [y]⟩ false = z from HE.out)
    go_wp2
    refine bodyPost_ret (res_slot rfl _ _ _ _ _ _ _ _ _ rfl (six_blk HSB.out _ _ _ _ _ _)) rfl ?_
    rw [HE2.out]
    exact slot_done HFW.out HBW5.out (by omega) (fun k hk => by
     have h1 := HW.out.1
     rcases HZ1.out k hk with h | h
     ·have := HOK.out k h; omega
     ·omega) (fun k hk => (HZ1.out k hk).imp id (fun h => by have := HW.out.1; omega))
   | true =>
    have HE2 := Lib.hid (show nf ⟨10, nm, a, f, t, [y]⟩ true = inverseF z from HE.out)
    go_wp2_with fail
    refine HIV.out.mono ?_
    rintro e w7 ⟨vs, rfl, hF7, hB7⟩
    have HB7 := Lib.hid (below_then HBW5.out HBW5.out.size hB7)
    have HSB7 := Lib.hid ((hB7.block _ (blk_lt HSB.out)).trans HSB.out)
    obtain ⟨v, hv⟩ : ∃ v, inverseF z = v := ⟨_, rfl⟩
    rw [hv] at hF7 HE2
    have HF7 := Lib.hid hF7
    obtain ⟨G2, j2, G5, j5, rfl, -⟩ := k32_openF hF7
    clear y0 y1 y2 y3 y4 y5 f0 f1 f2 f3 f4 f5 x0 x1 x2 x3 x4 x5 hF7 hB7 hv
    obtain ⟨y0, y1, y2, y3, y4, y5, f0, f1, f2, f3, f4, f5⟩ := slot_cells HSB7.out
    go_wp2
    refine bodyPost_ret (res_slot rfl _ _ _ _ _ _ _ _ _ rfl (six_blk HSB7.out _ _ _ _ _ _)) rfl ?_
    rw [HE2.out]
    exact slot_done HF7.out HB7.out (by omega) (fun k hk => by
     have h1 := HW.out.1
     rcases hk with hk | hk
     ·rcases HZ1.out k hk with h | h
      ·have := HOK.out k h; omega
      ·omega
     ·have := HHD.out.size; omega) (fun k hk => by
     have h1 := HW.out.1
     rcases hk with hk | hk
     ·exact (HZ1.out k hk).imp id (fun h => by omega)
     ·exact Or.inr (by have := HHD.out.size; omega))
  ·go_simp
   have HS6 := Lib.hid (blk_new w4 (.cells z6 32))
   have HSZ6 := Lib.hid (show W1.heap.size ≤ w4.heap.size from hHeld.size)
   have HSA6 := Lib.hid (show (w4.alloc (.cells z6 32)).heap.size = w4.heap.size + 1 by show (w4.heap.push _).size = _; simp)
   have HFY := Lib.hid (Kd.FK_below HFY.out ((Below.refl w4.heap.size w4).alloc (Nat.le_refl _) (.cells z6 32)))
   have HY3 := Lib.hid (show ∀ k, (OkN ok w3.heap.size k ∧ k < w4.heap.size) → k ≠ w4.heap.size from fun k hk => Nat.ne_of_lt hk.2)
   refine hK.out _ _ (hHeld.alloc hHeld.size _) (fun hHeld => ?_)
   clear hK K
   (try simp only [Act.put, List.setIfInBounds_toArray, List.set_cons_zero, List.set_cons_succ])
   refine one_ (i := 9) (N := (some 72)) #[true, true, true, true, true, true, true, true, true, true, true, false] rfl rfl (by kernel_rfl) (by decide) (fun K hK => ?_)
   go_simp
   have hd := during_any (w := (w4.alloc (.cells z6 32))) f t HFY.out (fun k hk => Nat.lt_of_lt_of_le hk.2 (by first | exact Nat.le_refl _ | (show _ ≤ (w4.heap.push _).size; simp))) HNS.out
   refine hd.mono ?_
   rintro e w6 ⟨es, rfl, hF6, hB6⟩
   have HB6 := Lib.hid (below_then hHeld hHeld.size hB6)
   have HFZ := Lib.hid (Kd.FK_bound hF6)
   obtain ⟨z, hz⟩ : ∃ z, duringF f t (nf y false) = z := ⟨_, rfl⟩
   rw [hz] at HFZ HE HNZ
   have HZ1 := Lib.hid (show ∀ k, (OkN (fun k => (OkN ok w3.heap.size k ∧ k < w4.heap.size)) (w4.alloc (.cells z6 32)).heap.size k ∧ k < w6.heap.size) → OkN ok W1.heap.size k from fun k hk => hk.1.elim (HY1.out k) (fun h => Or.inr (Nat.le_trans hHeld.size h)))
   have HS6 := Lib.hid ((hB6.block _ (blk_lt HS6.out)).trans HS6.out)
   have HZ3 := Lib.hid (show ∀ k, (OkN (fun k => (OkN ok w3.heap.size k ∧ k < w4.heap.size)) (w4.alloc (.cells z6 32)).heap.size k ∧ k < w6.heap.size) → k ≠ w4.heap.size from fun k hk => hk.1.elim (HY3.out k) (fun h => by have := HSA6.out; have := HB4.out.size; omega))
   clear hF6 hd hz
   obtain ⟨D2, i2, D5, i5, rfl, -⟩ := k32_openF HFZ.out
   refine hK.out _ _ HB6.out (fun hHeld => ?_)
   clear hK K
   (try simp only [Act.put, List.setIfInBounds_toArray, List.set_cons_zero, List.set_cons_succ])
   refine one_ (i := 11) (N := none) #[true, true, true, true, true, true, true, true, true, true, true, true] rfl rfl (by kernel_rfl) (by decide) (fun K hK => ?_)
   obtain ⟨y0, y1, y2, y3, y4, y5, f0, f1, f2, f3, f4, f5⟩ := slot_cells HS6.out
   go_simp
   clear y0 y1 y2 y3 y4 y5 f0 f1 f2 f3 f4 f5
   refine hK.out _ _ (six_below _ _ _ _ _ _ hHeld HSZ6.out) (fun hHeld => ?_)
   clear hK K
   (try simp only [Act.put, List.setIfInBounds_toArray, List.set_cons_zero, List.set_cons_succ])
   refine done_ (by kernel_rfl) ?_
   have HG5 := Lib.hid (show ((((((w6.setCell ⟨w4.heap.size, 0, none⟩ (.int .i64 z.f0)).setCell ⟨w4.heap.size, 1, none⟩ (.string z.f1)).setCell ⟨w4.heap.size, 2, none⟩ (.slice D2 z.f2.length i2)).setCell ⟨w4.heap.size, 3, none⟩ (.int .i64 z.f3)).setCell ⟨w4.heap.size, 4, none⟩ (.int .i64 z.f4)).setCell ⟨w4.heap.size, 5, none⟩ (.slice D5 z.f5.length i5)).heap[w4.heap.size]? = some (.cells #[.int .i64 z.f0, .string z.f1, .slice D2 z.f2.length i2, .int .i64 z.f3, .int .i64 z.f4, .slice D5 z.f5.length i5] 32 (0, 0)) from six_blk HS6.out (.int .i64 z.f0) (.string z.f1) (.slice D2 z.f2.length i2) (.int .i64 z.f3) (.int .i64 z.f4) (.slice D5 z.f5.length i5))
   have HFW := Lib.hid (show Kd.FK k32 ((((((w6.setCell ⟨w4.heap.size, 0, none⟩ (.int .i64 z.f0)).setCell ⟨w4.heap.size, 1, none⟩ (.string z.f1)).setCell ⟨w4.heap.size, 2, none⟩ (.slice D2 z.f2.length i2)).setCell ⟨w4.heap.size, 3, none⟩ (.int .i64 z.f3)).setCell ⟨w4.heap.size, 4, none⟩ (.int .i64 z.f4)).setCell ⟨w4.heap.size, 5, none⟩ (.slice D5 z.f5.length i5)) (fun k => OkN (fun k => (OkN ok w3.heap.size k ∧ k < w4.heap.size)) (w4.alloc (.cells z6 32)).heap.size k ∧ k < w6.heap.size) z [.int .i64 z.f0, .string z.f1, .slice D2 z.f2.length i2, .int .i64 z.f3, .int .i64 z.f4, .slice D5 z.f5.length i5] from Kd.FK_step HFZ.out (fun k hk _ => six_far (.int .i64 z.f0) (.string z.f1) (.slice D2 z.f2.length i2) (.int .i64 z.f3) (.int .i64 z.f4) (.slice D5 z.f5.length i5) k (HZ3.out k hk)))
   have HLW := Lib.hid (show ∀ k, (fun k => OkN (fun k => (OkN ok w3.heap.size k ∧ k < w4.heap.size)) (w4.alloc (.cells z6 32)).heap.size k ∧ k < w6.heap.size) k → k < ((((((w6.setCell ⟨w4.heap.size, 0, none⟩ (.int .i64 z.f0)).setCell ⟨w4.heap.size, 1, none⟩ (.string z.f1)).setCell ⟨w4.heap.size, 2, none⟩ (.slice D2 z.f2.length i2)).setCell ⟨w4.heap.size, 3, none⟩ (.int .i64 z.f3)).setCell ⟨w4.heap.size, 4, none⟩ (.int .i64 z.f4)).setCell ⟨w4.heap.size, 5, none⟩ (.slice D5 z.f5.length i5)).heap.size from fun k hk => Nat.lt_of_lt_of_le hk.2 (Nat.le_of_eq (six_size ..).symm))
   have HHD := Lib.hid (show Below W1.heap.size W1 ((((((w6.setCell ⟨w4.heap.size, 0, none⟩ (.int .i64 z.f0)).setCell ⟨w4.heap.size, 1, none⟩ (.string z.f1)).setCell ⟨w4.heap.size, 2, none⟩ (.slice D2 z.f2.length i2)).setCell ⟨w4.heap.size, 3, none⟩ (.int .i64 z.f3)).setCell ⟨w4.heap.size, 4, none⟩ (.int .i64 z.f4)).setCell ⟨w4.heap.size, 5, none⟩ (.slice D5 z.f5.length i5)) from hHeld)
   clear hHeld
   generalize ((((((w6.setCell ⟨w4.heap.size, 0, none⟩ (.int .i64 z.f0)).setCell ⟨w4.heap.size, 1, none⟩ (.string z.f1)).setCell ⟨w4.heap.size, 2, none⟩ (.slice D2 z.f2.length i2)).setCell ⟨w4.heap.size, 3, none⟩ (.int .i64 z.f3)).setCell ⟨w4.heap.size, 4, none⟩ (.int .i64 z.f4)).setCell ⟨w4.heap.size, 5, none⟩ (.slice D5 z.f5.length i5)) = W5 at HG5 HFW HLW HHD ⊢
   obtain ⟨b6, hb6⟩ : ∃ b, w4.heap.size = b := ⟨_, rfl⟩
   rw [hb6] at HG5 ⊢
   have HZ1 := Lib.hid (show ∀ k, (fun k => OkN (fun k => (OkN ok w3.heap.size k ∧ k < w4.heap.size)) (w4.alloc (.cells z6 32)).heap.size k ∧ k < w6.heap.size) k → OkN ok W1.heap.size k from HZ1.out)
   generalize (fun k => OkN (fun k => (OkN ok w3.heap.size k ∧ k < w4.heap.size)) (w4.alloc (.cells z6 32)).heap.size k ∧ k < w6.heap.size) = Q at HFW HLW HZ1
   have HSB := Lib.hid ((HHD.out.block (w.heap.size + 1) (by rw [HW.out.1]; omega)).trans HW.out.2.2.1)
   have HBW5 := Lib.hid (below_then HW.out.2.2.2 HW.out.2.2.2.size HHD.out)
   have HIV := Lib.hid (inv_any (size z + 1) z (by omega) W5 _ Q HFW.out HLW.out HNZ.out)
   obtain ⟨x0, x1, x2, x3, x4, x5, -⟩ := slot_cells HG5.out
   obtain ⟨y0, y1, y2, y3, y4, y5, f0, f1, f2, f3, f4, f5⟩ := slot_cells HSB.out
   have hb6w := Lib.hid hb6
   clear hb6
   cases neg with
   | false =>
    have HE2 := Lib.hid (show nf ⟨10, nm, a, f, t, [y]⟩ false = z from HE.out)
    go_wp2
    refine bodyPost_ret (res_slot rfl _ _ _ _ _ _ _ _ _ rfl (six_blk HSB.out _ _ _ _ _ _)) rfl ?_
    rw [HE2.out]
    exact slot_done HFW.out HBW5.out (by omega) (fun k hk => by
     have h1 := HW.out.1
     rcases HZ1.out k hk with h | h
     ·have := HOK.out k h; omega
     ·omega) (fun k hk => (HZ1.out k hk).imp id (fun h => by have := HW.out.1; omega))
   | true =>
    have HE2 := Lib.hid (show nf ⟨10, nm, a, f, t, [y]⟩ true = inverseF z from HE.out)
    go_wp2_with fail
    refine HIV.out.mono ?_
    rintro e w7 ⟨vs, rfl, hF7, hB7⟩
    have HB7 := Lib.hid (below_then HBW5.out HBW5.out.size hB7)
    have HSB7 := Lib.hid ((hB7.block _ (blk_lt HSB.out)).trans HSB.out)
    obtain ⟨v, hv⟩ : ∃ v, inverseF z = v := ⟨_, rfl⟩
    rw [hv] at hF7 HE2
    have HF7 := Lib.hid hF7
    obtain ⟨G2, j2, G5, j5, rfl, -⟩ := k32_openF hF7
    clear y0 y1 y2 y3 y4 y5 f0 f1 f2 f3 f4 f5 x0 x1 x2 x3 x4 x5 hF7 hB7 hv
    obtain ⟨y0, y1, y2, y3, y4, y5, f0, f1, f2, f3, f4, f5⟩ := slot_cells HSB7.out
    go_wp2
    refine bodyPost_ret (res_slot rfl _ _ _ _ _ _ _ _ _ rfl (six_blk HSB7.out _ _ _ _ _ _)) rfl ?_
    rw [HE2.out]
    exact slot_done HF7.out HB7.out (by omega) (fun k hk => by
     have h1 := HW.out.1
     rcases hk with hk | hk
     ·rcases HZ1.out k hk with h | h
      ·have := HOK.out k h; omega
      ·omega
     ·have := HHD.out.size; omega) (fun k hk => by
     have h1 := HW.out.1
     rcases hk with hk | hk
     ·exact (HZ1.out k hk).imp id (fun h => by omega)
     ·exact Or.inr (by have := HHD.out.size; omega))
 ·go_simp
  have HS6 := Lib.hid (blk_new w3 (.cells z6 32))
  have HSZ6 := Lib.hid (show W1.heap.size ≤ w3.heap.size from hHeld.size)
  have HSA6 := Lib.hid (show (w3.alloc (.cells z6 32)).heap.size = w3.heap.size + 1 by show (w3.heap.push _).size = _; simp)
  refine hK.out _ _ (hHeld.alloc hHeld.size _) (fun hHeld => ?_)
  clear hK K
  (try simp only [Act.put, List.setIfInBounds_toArray, List.set_cons_zero, List.set_cons_succ])
  refine one_ (i := 8) (N := (some 71)) #[true, true, true, true, true, true, true, true, true, false, true, false] rfl rfl (by kernel_rfl) (by decide) (fun K hK => ?_)
  go_simp
  refine (HY.out false _ hHeld).mono ?_
  rintro e w4 ⟨ds, rfl, hF4, hB4⟩
  have HB4 := Lib.hid (below_then hHeld hHeld.size hB4)
  have HFY := Lib.hid (Kd.FK_bound hF4)
  have HY1 := Lib.hid (show ∀ k, (OkN ok (w3.alloc (.cells z6 32)).heap.size k ∧ k < w4.heap.size) → OkN ok W1.heap.size k from fun k hk => hk.1.imp id (Nat.le_trans hHeld.size))
  clear hF4
  obtain ⟨B2, d2, B5, d5, rfl, -⟩ := k32_openF HFY.out
  have HS6 := Lib.hid ((hB4.block _ (blk_lt HS6.out)).trans HS6.out)
  have HY3 := Lib.hid (show ∀ k, (OkN ok (w3.alloc (.cells z6 32)).heap.size k ∧ k < w4.heap.size) → k ≠ w3.heap.size from fun k hk => by
   rcases hk.1 with h | h
   ·have := HOK.out k h; have := HW.out.1; have := HSZ6.out; omega
   ·have := HSA6.out; omega)
  refine hK.out _ _ HB4.out (fun hHeld => ?_)
  clear hK K
  (try simp only [Act.put, List.setIfInBounds_toArray, List.set_cons_zero, List.set_cons_succ])
  refine one_ (i := 9) (N := (some 72)) #[true, true, true, true, true, true, true, true, true, true, true, false] rfl rfl (by kernel_rfl) (by decide) (fun K hK => ?_)
  go_simp
  have HW4 := Lib.hid (show w3.heap.size < w4.heap.size from blk_lt HS6.out)
  have hd := during_any (w := w4) f t HFY.out (fun k hk => Nat.lt_of_lt_of_le hk.2 (by first | exact Nat.le_refl _ | (show _ ≤ (w4.heap.push _).size; simp))) HNS.out
  refine hd.mono ?_
  rintro e w6 ⟨es, rfl, hF6, hB6⟩
  have HB6 := Lib.hid (below_then hHeld hHeld.size hB6)
  have HFZ := Lib.hid (Kd.FK_bound hF6)
  obtain ⟨z, hz⟩ : ∃ z, duringF f t (nf y false) = z := ⟨_, rfl⟩
  rw [hz] at HFZ HE HNZ
  have HZ1 := Lib.hid (show ∀ k, (OkN (fun k => (OkN ok (w3.alloc (.cells z6 32)).heap.size k ∧ k < w4.heap.size)) w4.heap.size k ∧ k < w6.heap.size) → OkN ok W1.heap.size k from fun k hk => hk.1.elim (HY1.out k) (fun h => Or.inr (Nat.le_trans hHeld.size h)))
  have HS6 := Lib.hid ((hB6.block _ (blk_lt HS6.out)).trans HS6.out)
  have HZ3 := Lib.hid (show ∀ k, (OkN (fun k => (OkN ok (w3.alloc (.cells z6 32)).heap.size k ∧ k < w4.heap.size)) w4.heap.size k ∧ k < w6.heap.size) → k ≠ w3.heap.size from fun k hk => hk.1.elim (HY3.out k) (fun h => by have := HSA6.out; have := HB4.out.size; have := HW4.out; omega))
  clear hF6 hd hz
  obtain ⟨D2, i2, D5, i5, rfl, -⟩ := k32_openF HFZ.out
  refine hK.out _ _ HB6.out (fun hHeld => ?_)
  clear hK K
  (try simp only [Act.put, List.setIfInBounds_toArray, List.set_cons_zero, List.set_cons_succ])
  refine one_ (i := 11) (N := none) #[true, true, true, true, true, true, true, true, true, true, true, true] rfl rfl (by kernel_rfl) (by decide) (fun K hK => ?_)
  obtain ⟨y0, y1, y2, y3, y4, y5, f0, f1, f2, f3, f4, f5⟩ := slot_cells HS6.out
  go_simp
  clear y0 y1 y2 y3 y4 y5 f0 f1 f2 f3 f4 f5
  refine hK.out _ _ (six_below _ _ _ _ _ _ hHeld HSZ6.out) (fun hHeld => ?_)
  clear hK K
  (try simp only [Act.put, List.setIfInBounds_toArray, List.set_cons_zero, List.set_cons_succ])
  refine done_ (by kernel_rfl) ?_
  have HG5 := Lib.hid (show ((((((w6.setCell ⟨w3.heap.size, 0, none⟩ (.int .i64 z.f0)).setCell ⟨w3.heap.size, 1, none⟩ (.string z.f1)).setCell ⟨w3.heap.size, 2, none⟩ (.slice D2 z.f2.length i2)).setCell ⟨w3.heap.size, 3, none⟩ (.int .i64 z.f3)).setCell ⟨w3.heap.size, 4, none⟩ (.int .i64 z.f4)).setCell ⟨w3.heap.size, 5, none⟩ (.slice D5 z.f5.length i5)).heap[w3.heap.size]? = some (.cells #[.int .i64 z.f0, .string z.f1, .slice D2 z.f2.length i2, .int .i64 z.f3, .int .i64 z.f4, .slice D5 z.f5.length i5] 32 (0, 0)) from six_blk HS6.out (.int .i64 z.f0) (.string z.f1) (.slice D2 z.f2.length i2) (.int .i64 z.f3) (.int .i64 z.f4) (.slice D5 z.f5.length i5))
  have HFW := Lib.hid (show Kd.FK k32 ((((((w6.setCell ⟨w3.heap.size, 0, none⟩ (.int .i64 z.f0)).setCell ⟨w3.heap.size, 1, none⟩ (.string z.f1)).setCell ⟨w3.heap.size, 2, none⟩ (.slice D2 z.f2.length i2)).setCell ⟨w3.heap.size, 3, none⟩ (.int .i64 z.f3)).setCell ⟨w3.heap.size, 4, none⟩ (.int .i64 z.f4)).setCell ⟨w3.heap.size, 5, none⟩ (.slice D5 z.f5.length i5)) (fun k => OkN (fun k => (OkN ok (w3.alloc (.cells z6 32)).heap.size k ∧ k < w4.heap.size)) w4.heap.size k ∧ k < w6.heap.size) z [.int .i64 z.f0, .string z.f1, .slice D2 z.f2.length i2, .int .i64 z.f3, .int .i64 z.f4, .slice D5 z.f5.length i5] from Kd.FK_step HFZ.out (fun k hk _ => six_far (.int .i64 z.f0) (.string z.f1) (.slice D2 z.f2.length i2) (.int .i64 z.f3) (.int .i64 z.f4) (.slice D5 z.f5.length i5) k (HZ3.out k hk)))
  have HLW := Lib.hid (show ∀ k, (fun k => OkN (fun k => (OkN ok (w3.alloc (.cells z6 32)).heap.size k ∧ k < w4.heap.size)) w4.heap.size k ∧ k < w6.heap.size) k → k < ((((((w6.setCell ⟨w3.heap.size, 0, none⟩ (.int .i64 z.f0)).setCell ⟨w3.heap.size, 1, none⟩ (.string z.f1)).setCell ⟨w3.heap.size, 2, none⟩ (.slice D2 z.f2.length i2)).setCell ⟨w3.heap.size, 3, none⟩ (.int .i64 z.f3)).setCell ⟨w3.heap.size, 4, none⟩ (.int .i64 z.f4)).setCell ⟨w3.heap.size, 5, none⟩ (.slice D5 z.f5.length i5)).heap.size from fun k hk => Nat.lt_of_lt_of_le hk.2 (Nat.le_of_eq (six_size ..).symm))
  have HHD := Lib.hid (show Below W1.heap.size W1 ((((((w6.setCell ⟨w3.heap.size, 0, none⟩ (.int .i64 z.f0)).setCell ⟨w3.heap.size, 1, none⟩ (.string z.f1)).setCell ⟨w3.heap.size, 2, none⟩ (.slice D2 z.f2.length i2)).setCell ⟨w3.heap.size, 3, none⟩ (.int .i64 z.f3)).setCell ⟨w3.heap.size, 4, none⟩ (.int .i64 z.f4)).setCell ⟨w3.heap.size, 5, none⟩ (.slice D5 z.f5.length i5)) from hHeld)
  clear hHeld
  generalize ((((((w6.setCell ⟨w3.heap.size, 0, none⟩ (.int .i64 z.f0)).setCell ⟨w3.heap.size, 1, none⟩ (.string z.f1)).setCell ⟨w3.heap.size, 2, none⟩ (.slice D2 z.f2.length i2)).setCell ⟨w3.heap.size, 3, none⟩ (.int .i64 z.f3)).setCell ⟨w3.heap.size, 4, none⟩ (.int .i64 z.f4)).setCell ⟨w3.heap.size, 5, none⟩ (.slice D5 z.f5.length i5)) = W5 at HG5 HFW HLW HHD ⊢
  obtain ⟨b6, hb6⟩ : ∃ b, w3.heap.size = b := ⟨_, rfl⟩
  rw [hb6] at HG5 ⊢
  have HZ1 := Lib.hid (show ∀ k, (fun k => OkN (fun k => (OkN ok (w3.alloc (.cells z6 32)).heap.size k ∧ k < w4.heap.size)) w4.heap.size k ∧ k < w6.heap.size) k → OkN ok W1.heap.size k from HZ1.out)
  generalize (fun k => OkN (fun k => (OkN ok (w3.alloc (.cells z6 32)).heap.size k ∧ k < w4.heap.size)) w4.heap.size k ∧ k < w6.heap.size) = Q at HFW HLW HZ1
  have HSB := Lib.hid ((HHD.out.block (w.heap.size + 1) (by rw [HW.out.1]; omega)).trans HW.out.2.2.1)
  have HBW5 := Lib.hid (below_then HW.out.2.2.2 HW.out.2.2.2.size HHD.out)
  have HIV := Lib.hid (inv_any (size z + 1) z (by omega) W5 _ Q HFW.out HLW.out HNZ.out)
  obtain ⟨x0, x1, x2, x3, x4, x5, -⟩ := slot_cells HG5.out
  obtain ⟨y0, y1, y2, y3, y4, y5, f0, f1, f2, f3, f4, f5⟩ := slot_cells HSB.out
  have hb6w := Lib.hid hb6
  clear hb6
  cases neg with
  | false =>
   have HE2 := Lib.hid (show nf ⟨10, nm, a, f, t, [y]⟩ false = z from HE.out)
   go_wp2
   refine bodyPost_ret (res_slot rfl _ _ _ _ _ _ _ _ _ rfl (six_blk HSB.out _ _ _ _ _ _)) rfl ?_
   rw [HE2.out]
   exact slot_done HFW.out HBW5.out (by omega) (fun k hk => by
    have h1 := HW.out.1
    rcases HZ1.out k hk with h | h
    ·have := HOK.out k h; omega
    ·omega) (fun k hk => (HZ1.out k hk).imp id (fun h => by have := HW.out.1; omega))
  | true =>
   have HE2 := Lib.hid (show nf ⟨10, nm, a, f, t, [y]⟩ true = inverseF z from HE.out)
   go_wp2_with fail
   refine HIV.out.mono ?_
   rintro e w7 ⟨vs, rfl, hF7, hB7⟩
   have HB7 := Lib.hid (below_then HBW5.out HBW5.out.size hB7)
   have HSB7 := Lib.hid ((hB7.block _ (blk_lt HSB.out)).trans HSB.out)
   obtain ⟨v, hv⟩ : ∃ v, inverseF z = v := ⟨_, rfl⟩
   rw [hv] at hF7 HE2
   have HF7 := Lib.hid hF7
   obtain ⟨G2, j2, G5, j5, rfl, -⟩ := k32_openF hF7
   clear y0 y1 y2 y3 y4 y5 f0 f1 f2 f3 f4 f5 x0 x1 x2 x3 x4 x5 hF7 hB7 hv
   obtain ⟨y0, y1, y2, y3, y4, y5, f0, f1, f2, f3, f4, f5⟩ := slot_cells HSB7.out
   go_wp2
   refine bodyPost_ret (res_slot rfl _ _ _ _ _ _ _ _ _ rfl (six_blk HSB7.out _ _ _ _ _ _)) rfl ?_
   rw [HE2.out]
   exact slot_done HF7.out HB7.out (by omega) (fun k hk => by
    have h1 := HW.out.1
    rcases hk with hk | hk
    ·rcases HZ1.out k hk with h | h
     ·have := HOK.out k h; omega
     ·omega
    ·have := HHD.out.size; omega) (fun k hk => by
    have h1 := HW.out.1
    rcases hk with hk | hk
    ·exact (HZ1.out k hk).imp id (fun h => by omega)
    ·exact Or.inr (by have := HHD.out.size; omega))
end Go.Proofs.YtbahnpdgaoedmaaGreatDoor.Mm
