/- Part 5 of the proof of MemoryForms: Mx, My, Mza, Mzb, Mz5, Mz6, Mlv, Mtx, PMemoryExactx13. -/
import Derived.Test.YtbahnpdgaoedmaaGreatDoorCO4
import Derived.Lib.ItoaLen
import Derived.Test.YtbahnpdgaoedmaaGreatDoorCO3
namespace Go.Proofs.YtbahnpdgaoedmaaGreatDoor.Mm
open Go.RowKit Go.Proofs.YtbahnpdgaoedmaaGreatDoorW.PrintWords Go.Proofs.YtbahnpdgaoedmaaGreatDoorW.PrintLast Go.Proofs.YtbahnpdgaoedmaaGreatDoorW.PrintMore Go.Proofs.YtbahnpdgaoedmaaGreatDoor.PMemoryExact
set_option linter.unusedSimpArgs false
set_option linter.unusedVariables false
theorem choose_upto {α : Type} {Q : Nat → α → Prop} : ∀ n, (∀ i, i < n → ∃ y, Q i y) → ∃ ys : List α, ys.length = n ∧ ∀ (i : Nat) (h : i < ys.length), Q i ys[i]
 | 0, _ => ⟨[], rfl, fun i h => by simp at h⟩
 | n + 1, h => by
  obtain ⟨ys, hl, hy⟩ := choose_upto n (fun i hi => h i (by omega))
  obtain ⟨z, hz⟩ := h n (by omega)
  refine ⟨ys ++ [z], by simp [hl], fun i hi => ?_⟩
  by_cases c : i < n
  ·rw [List.getElem_append_left (by omega)]; exact hy i (by omega)
  ·have : i = n := by simp at hi; omega
   subst this
   rw [List.getElem_append_right (by omega)]
   simpa [hl] using hz
theorem row_of_N {w : World} {base g n cap : Nat} {ok : Nat → Prop} {xs : List S32} (h : Kd.N k32 32 w base ok (.slice (some ⟨g, 0, none⟩) n cap) xs) : ∃ ps, RowAt w g (fun k => ok k ∧ k ≠ g) cap ps ∧ ps.map (·.1) = xs := by
 have hN := h
 obtain ⟨_, rows, hl, hR, _⟩ := h
 have hn : n = rows.length := (Kd.R_reads' hR).1
 obtain ⟨inner, ho⟩ := Kd.R_own hR
 rcases ho.2 with ⟨hv, _⟩ | ⟨g', cap', cur, hv, hb, hh, hnc, hcm, hs, _⟩
 ·cases hv
 injection hv with ha _ hc
 injection ha with ha
 injection ha with hg
 subst hg
 subst hc
 obtain ⟨cs, hcl, hcs⟩ := choose_upto (Q := fun i c => Kd.FK k32 w (fun k => ok k ∧ k ≠ g) (xs.getD i z32) c ∧ ∀ j u, c[j]? = some u → w.cell? ⟨g, i * 6 + j, none⟩ = some u) xs.length (fun i hi => by
  obtain ⟨c, _, hf, hc, _⟩ := Kd.N_elem hN z32 (i : Int) (by omega) (by omega)
  rw [Int.toNat_natCast] at hf hc
  exact ⟨c, hf, hc⟩)
 refine ⟨xs.zip cs, ⟨⟨cur, hh, hs⟩, by rw [List.length_zip, hcl]; omega, by unfold maxLen at hcm; omega, fun k hk => hk.2, fun p hp => ?_, fun i hi j u hu => ?_⟩, ?_⟩
 ·obtain ⟨i, hi, rfl⟩ := List.mem_iff_getElem.1 hp
  rw [List.length_zip, hcl, Nat.min_self] at hi
  have := (hcs i (by omega)).1
  rw [List.getElem_zip]
  simpa [List.getD_eq_getElem?_getD, hi] using this
 ·rw [List.length_zip, hcl, Nat.min_self] at hi
  rw [List.getElem_zip] at hu
  exact (hcs i (by omega)).2 j u hu
 ·exact List.map_fst_zip (by omega)
def part (op : Int) (f : S32) : List S32 := if f.f0 = op then f.f5 else if f.f0 = unitOf op then [] else [f]
theorem flat_is (op : Int) (l : List S32) : flat op l = l.flatMap (part op) := rfl
theorem flat_snoc (op : Int) {l : List S32} {i : Nat} (h : i < l.length) : flat op (l.take (i + 1)) = flat op (l.take i) ++ part op l[i] := by
 rw [flat_is, flat_is, List.take_succ_eq_append_getElem h, List.flatMap_append]
 simp
theorem size_pos (x : S32) : 0 < size x := by rw [size_is]; omega
theorem sizes_len : ∀ l : List S32, l.length ≤ size.sizes l
 | [] => by simp [size.sizes]
 | x :: l => by
  have := sizes_len l
  have := size_pos x
  simp only [size.sizes, List.length_cons]
  omega
theorem sizes_app : ∀ a b : List S32, size.sizes (a ++ b) = size.sizes a + size.sizes b
 | [], b => by simp [size.sizes]
 | x :: a, b => by
  have := sizes_app a b
  simp only [List.cons_append, size.sizes]
  omega
theorem part_sizes (op : Int) (f : S32) : size.sizes (part op f) ≤ size f := by
 unfold part
 split
 ·rw [size_is f]; omega
 ·split
  ·simp [size.sizes]
  ·simp [size.sizes]
theorem flat_sizes (op : Int) : ∀ l : List S32, size.sizes (flat op l) ≤ size.sizes l
 | [] => by simp [flat, size.sizes]
 | x :: l => by
  have ih := flat_sizes op l
  have hx := part_sizes op x
  rw [flat_is] at ih ⊢
  rw [List.flatMap_cons, sizes_app]
  simp only [size.sizes]
  omega
theorem sizes_take (l : List S32) (i : Nat) : size.sizes (l.take i) ≤ size.sizes l := by
 have := sizes_app (l.take i) (l.drop i)
 rw [List.take_append_drop] at this
 omega
theorem flat_len (op : Int) (l : List S32) (i : Nat) : (flat op (l.take i)).length ≤ size.sizes l :=
 Nat.le_trans (sizes_len _) (Nat.le_trans (flat_sizes op _) (sizes_take l i))
theorem info32 : (Tryz.prog.info? 32).map (fun i => (i.zero, i.size, i.bytes)) = some (some (.agg #[.int .i64 0, .string ⟨#[]⟩, .slice none 0 0, .int .i64 0, .int .i64 0, .slice none 0 0]), 6, 88) := by kernel_rfl
theorem k84_heap : Kd.Heap k84 := Kd.heap_iso _ (Kd.heap_pair (Kd.heap_int .i64) (Kd.heap_pair (Kd.heap_int .i64) Kd.heap_string))
theorem k32_heap : Kd.Heap k32 := Kd.heap_fix (fun d hd => Kd.heap_iso _ (Kd.heap_pair (Kd.heap_int .i64) (Kd.heap_pair Kd.heap_string (Kd.heap_pair (Kd.heap_slice 84 k84_heap) (Kd.heap_pair (Kd.heap_int .i64) (Kd.heap_pair (Kd.heap_int .i64) (Kd.heap_slice 32 hd)))))))
theorem self_F {w : World} {x : S32} {cs : List Value} (h : k32.K w x cs) : Kd.FK k32 w (fun k => k < w.heap.size) x cs := fun W hW => k32_heap.K (fun k hk => hW k hk hk) h
abbrev z6 : Array Value := #[.int .i64 0, .string ⟨#[]⟩, .slice none 0 0, .int .i64 0, .int .i64 0, .slice none 0 0]
theorem own_form {w : World} {base : Nat} {ok : Nat → Prop} {v : Value} {xs : List S32} {g : Nat} (h : Kd.N k32 32 w base ok v xs) (hg : v.ownBlock = some g) : ∃ cap, v = .slice (some ⟨g, 0, none⟩) xs.length cap := by
 obtain ⟨_, rows, hl, hR, _⟩ := h
 obtain ⟨inner, ho⟩ := Kd.R_own hR
 rcases ho.2 with ⟨hv, _⟩ | ⟨g', cap', cur, hv, _⟩
 ·rw [hv] at hg; simp [Value.ownBlock] at hg
 ·subst hv
  simp only [Value.ownBlock, Option.some.injEq] at hg
  subst hg
  exact ⟨cap', by rw [hl]⟩
theorem cell_up {w wr : World} (hB : Below w.heap.size w wr) {p : Addr} {v : Value} (h : w.cell? p = some v) : wr.cell? p = some v := by
 have hlt : p.block < w.heap.size := by
  apply Classical.byContradiction
  intro hn
  have : w.heap[p.block]? = none := Array.getElem?_eq_none (by omega)
  unfold World.cell? at h
  rw [this] at h
  simp at h
 rw [hB.cell hlt]; exact h
theorem form_up {w wr : World} {A : Option Addr} {l : List S32} (h : k32.C w A l.length l) (hB : Below w.heap.size w wr) (i : Nat) (hi : i < l.length) :
  ∃ ad A2 c2 A5 c5, A = some ad ∧ wr.cell? (ad.add (i * 6)) = some (.int .i64 l[i].f0) ∧ wr.cell? ⟨(ad.add (i * 6)).block, (ad.add (i * 6)).off + 1, none⟩ = some (.string l[i].f1) ∧ wr.cell? ⟨(ad.add (i * 6)).block, (ad.add (i * 6)).off + 2, none⟩ = some (.slice A2 l[i].f2.length c2) ∧
   wr.cell? ⟨(ad.add (i * 6)).block, (ad.add (i * 6)).off + 3, none⟩ = some (.int .i64 l[i].f3) ∧ wr.cell? ⟨(ad.add (i * 6)).block, (ad.add (i * 6)).off + 4, none⟩ = some (.int .i64 l[i].f4) ∧ wr.cell? ⟨(ad.add (i * 6)).block, (ad.add (i * 6)).off + 5, none⟩ = some (.slice A5 l[i].f5.length c5) ∧
   k32.K w l[i] [.int .i64 l[i].f0, .string l[i].f1, .slice A2 l[i].f2.length c2, .int .i64 l[i].f3, .int .i64 l[i].f4, .slice A5 l[i].f5.length c5] := by
 obtain ⟨ad, A2, c2, A5, c5, e, q0, q1, q2, q3, q4, q5, qK⟩ := form_at h i hi
 exact ⟨ad, A2, c2, A5, c5, e, cell_up hB q0, cell_up hB q1, cell_up hB q2, cell_up hB q3, cell_up hB q4, cell_up hB q5, qK⟩
/-- An element of a row that is read: its cells in a later world, what it leads to. -/
theorem form_F {w wr : World} {ok : Nat → Prop} {A : Option Addr} {l : List S32} (h : Kd.F k32 w ok A l.length l) (hB : Below w.heap.size w wr) (i : Nat) (hi : i < l.length) :
  ∃ ad A2 c2 A5 c5, A = some ad ∧ wr.cell? (ad.add (i * 6)) = some (.int .i64 l[i].f0) ∧ wr.cell? ⟨(ad.add (i * 6)).block, (ad.add (i * 6)).off + 1, none⟩ = some (.string l[i].f1) ∧ wr.cell? ⟨(ad.add (i * 6)).block, (ad.add (i * 6)).off + 2, none⟩ = some (.slice A2 l[i].f2.length c2) ∧
   wr.cell? ⟨(ad.add (i * 6)).block, (ad.add (i * 6)).off + 3, none⟩ = some (.int .i64 l[i].f3) ∧ wr.cell? ⟨(ad.add (i * 6)).block, (ad.add (i * 6)).off + 4, none⟩ = some (.int .i64 l[i].f4) ∧ wr.cell? ⟨(ad.add (i * 6)).block, (ad.add (i * 6)).off + 5, none⟩ = some (.slice A5 l[i].f5.length c5) ∧
   Kd.FK k32 w ok l[i] [.int .i64 l[i].f0, .string l[i].f1, .slice A2 l[i].f2.length c2, .int .i64 l[i].f3, .int .i64 l[i].f4, .slice A5 l[i].f5.length c5] := by
 obtain ⟨ad, c, e, _, hK, hc0, _⟩ := Kd.F_get h z32 (i : Int) (by omega) (by omega)
 rw [Int.toNat_natCast] at hK hc0
 have hr : l.getD i z32 = l[i] := by simp [List.getD_eq_getElem?_getD, hi]
 rw [hr] at hK
 have hc : ∀ j u, c[j]? = some u → w.cell? (ad.add (i * 6 + j)) = some u := hc0
 obtain ⟨A2, c2, A5, c5, rfl, l2, g2, l5, g5⟩ := k32_openF hK
 exact ⟨ad, A2, c2, A5, c5, e, cell_up hB (hc 0 _ rfl), cell_up hB (by rw [← add_field _ _ 1 (by omega)]; exact hc 1 _ rfl), cell_up hB (by rw [← add_field _ _ 2 (by omega)]; exact hc 2 _ rfl), cell_up hB (by rw [← add_field _ _ 3 (by omega)]; exact hc 3 _ rfl), cell_up hB (by rw [← add_field _ _ 4 (by omega)]; exact hc 4 _ rfl), cell_up hB (by rw [← add_field _ _ 5 (by omega)]; exact hc 5 _ rfl), hK⟩
/-- Its kids. -/
theorem kids_ok {w : World} {ok : Nat → Prop} {x : S32} {A2 A5 : Option Addr} {c2 c5 : Nat} (h : Kd.FK k32 w ok x [.int .i64 x.f0, .string x.f1, .slice A2 x.f2.length c2, .int .i64 x.f3, .int .i64 x.f4, .slice A5 x.f5.length c5]) : Kd.F k32 w ok A5 x.f5.length x.f5 ∧ x.f5.length ≤ c5 := by
 obtain ⟨B2, d2, B5, d5, e, _, _, m5, r5⟩ := k32_openF h
 injection e with _ e
 injection e with _ e
 injection e with _ e
 injection e with _ e
 injection e with _ e
 injection e with e _
 injection e with e1 _ e3
 subst e1
 subst e3
 exact ⟨r5, m5⟩
/-- What lay in ok, or is new since b. -/
abbrev OkN (ok : Nat → Prop) (b : Nat) : Nat → Prop := fun k => ok k ∨ b ≤ k
/-- A formula is returned: its data lie in ok, or are new. -/
def Fr (w w' : World) (ok : Nat → Prop) (y : S32) (e : Ending) : Prop := ∃ cs, e = .returned (.agg cs.toArray) ∧ Kd.FK k32 w' (OkN ok w.heap.size) y cs ∧ Below w.heap.size w w'
def JnRel (op : Int) (l : List S32) (w1 : World) (ok : Nat → Prop) (v7 v19 : Value) (wr : World) : Prop :=
 ∃ (i g cap : Nat), v7 = .slice (some ⟨g, 0, none⟩) (flat op (l.take i)).length cap ∧ v19 = .int .i64 i ∧ i ≤ l.length ∧ Kd.N k32 32 wr w1.heap.size (OkN ok w1.heap.size) (.slice (some ⟨g, 0, none⟩) (flat op (l.take i)).length cap) (flat op (l.take i)) ∧ Below w1.heap.size w1 wr
theorem jn_next {op : Int} {l : List S32} {w1 w8 w9 : World} {ok : Nat → Prop} {i g n cap : Nat} {v9 : Value} {xs : List S32} (hi : i < l.length) (hxs : xs = flat op (l.take (i + 1))) (hN : Kd.N k32 32 w9 w1.heap.size (OkN ok w1.heap.size) v9 xs) (hB : Below w1.heap.size w1 w9)
  (hat : v9.ownBlock = (Value.slice (some ⟨g, 0, none⟩) n cap).ownBlock ∨ ∃ b, v9.ownBlock = some b ∧ w8.heap.size ≤ b) : JnRel op l w1 ok v9 (.int .i64 ((i + 1 : Nat) : Int)) w9 := by
 subst hxs
 obtain ⟨b, hb⟩ : ∃ b, v9.ownBlock = some b := by
  rcases hat with h | ⟨b, h, _⟩
  ·exact ⟨g, h⟩
  ·exact ⟨b, h⟩
 obtain ⟨c, rfl⟩ := own_form hN hb
 exact ⟨i + 1, b, c, rfl, rfl, hi, hN, hB⟩
theorem jn_start (op : Int) (l : List S32) (w1 : World) (ok : Nat → Prop) : JnRel op l w1 ok (.slice (some ⟨w1.heap.size, 0, none⟩) 0 0) (.int .i64 0) (w1.alloc (.cells #[] 32)) :=
 ⟨0, w1.heap.size, 0, rfl, rfl, Nat.zero_le _, by
  have hb := blk_new w1 (.cells #[] 32)
  refine ⟨fun k hk => ?_, [], rfl, ⟨fun k hk => hk.symm, [], ⟨rfl, .inr ⟨w1.heap.size, 0, #[], rfl, Nat.le_refl _, hb, Nat.le_refl _, by simp [maxLen], rfl, rfl⟩⟩, ⟨rfl, fun j p hj => by simp at hj⟩⟩, fun j x c hj _ => by simp [flat] at hj⟩
  simp only [Value.ownBlock, Option.some.injEq] at hk
  exact Or.inr (by omega), (Below.refl _ _).alloc (Nat.le_refl _) _⟩
/-- The slot lies as it lay. -/
theorem slot_at {w wr : World} (h : Below (w.alloc (.cells z6 32)).heap.size (w.alloc (.cells z6 32)) wr) : wr.heap[w.heap.size]? = some (.cells z6 32 (0, 0)) :=
 (h.block w.heap.size (by show _ < (w.heap.push _).size; simp)).trans (blk_new w _)
theorem slot_cells {w : World} {s : Nat} {c0 c1 c2 c3 c4 c5 : Value} (h : w.heap[s]? = some (.cells #[c0, c1, c2, c3, c4, c5] 32 (0, 0))) :
  w.cell? ⟨s, 0, none⟩ = some c0 ∧ w.cell? ⟨s, 1, none⟩ = some c1 ∧ w.cell? ⟨s, 2, none⟩ = some c2 ∧ w.cell? ⟨s, 3, none⟩ = some c3 ∧ w.cell? ⟨s, 4, none⟩ = some c4 ∧ w.cell? ⟨s, 5, none⟩ = some c5 ∧
  w.frozen? ⟨s, 0, none⟩ = false ∧ w.frozen? ⟨s, 1, none⟩ = false ∧ w.frozen? ⟨s, 2, none⟩ = false ∧ w.frozen? ⟨s, 3, none⟩ = false ∧ w.frozen? ⟨s, 4, none⟩ = false ∧ w.frozen? ⟨s, 5, none⟩ = false :=
 ⟨blk_cell h 0, blk_cell h 1, blk_cell h 2, blk_cell h 3, blk_cell h 4, blk_cell h 5, blk_frozen h 0, blk_frozen h 1, blk_frozen h 2, blk_frozen h 3, blk_frozen h 4, blk_frozen h 5⟩
theorem six_far {w : World} {s : Nat} (c0 c1 c2 c3 c4 c5 : Value) (k : Nat) (hk : k ≠ s) : ((((((w.setCell ⟨s, 0, none⟩ c0).setCell ⟨s, 1, none⟩ c1).setCell ⟨s, 2, none⟩ c2).setCell ⟨s, 3, none⟩ c3).setCell ⟨s, 4, none⟩ c4).setCell ⟨s, 5, none⟩ c5).heap[k]? = w.heap[k]? := by
 rw [Below.heap_setCell _ _ _ _ hk, Below.heap_setCell _ _ _ _ hk, Below.heap_setCell _ _ _ _ hk, Below.heap_setCell _ _ _ _ hk, Below.heap_setCell _ _ _ _ hk, Below.heap_setCell _ _ _ _ hk]
theorem six_below {B : Nat} {a w : World} {s : Nat} (c0 c1 c2 c3 c4 c5 : Value) (h : Below B a w) (hs : B ≤ s) : Below B a ((((((w.setCell ⟨s, 0, none⟩ c0).setCell ⟨s, 1, none⟩ c1).setCell ⟨s, 2, none⟩ c2).setCell ⟨s, 3, none⟩ c3).setCell ⟨s, 4, none⟩ c4).setCell ⟨s, 5, none⟩ c5) :=
 (((((h.setCell hs _).setCell hs _).setCell hs _).setCell hs _).setCell hs _).setCell hs _
/-- Loop 2: no zero so far. -/
def JzRel (z : Int) (F : List S32) (w0 : World) (v42 : Value) (wr : World) : Prop :=
 ∃ j : Nat, v42 = .int .i64 j ∧ j ≤ F.length ∧ (∀ k (hk : k < F.length), k < j → F[k].f0 ≠ z) ∧ Gw w0 wr
theorem find_at {α : Type} (p : α → Bool) {l : List α} {j : Nat} (hj : j < l.length) (hp : p l[j] = true) (hn : ∀ k (hk : k < l.length), k < j → p l[k] = false) : l.find? p = some l[j] := by
 rw [List.find?_eq_some_iff_append]
 refine ⟨hp, l.take j, l.drop (j + 1), ?_, ?_⟩
 ·rw [← List.drop_eq_getElem_cons hj, List.take_append_drop]
 ·intro a ha
  obtain ⟨i, hi, rfl⟩ := List.mem_iff_getElem.1 ha
  rw [List.length_take] at hi
  rw [List.getElem_take, hn i (by omega) (by omega)]
  rfl
theorem find_no {α : Type} (p : α → Bool) {l : List α} (hn : ∀ k (hk : k < l.length), p l[k] = false) : l.find? p = none := by
 rw [List.find?_eq_none]
 intro x hx
 obtain ⟨i, hi, rfl⟩ := List.mem_iff_getElem.1 hx
 rw [hn i hi]
 decide
theorem join_zero {op : Int} {l : List S32} {f : S32} (h : (flat op l).find? (fun f => f.f0 == zeroOf op) = some f) : join op l = f := by
 unfold join; rw [h]
theorem join_none {op : Int} {l : List S32} (h : (flat op l).find? (fun f => f.f0 == zeroOf op) = none) : join op l = (match dedup (srt (flat op l)) with
  | [] => mk0 (unitOf op)
  | [x] => x
  | xs => ⟨op, eStr, [], 0, 0, xs⟩) := by
 unfold join; rw [h]; rfl
/-- The slot, written. -/
abbrev six (w : World) (s : Nat) (c0 c1 c2 c3 c4 c5 : Value) : World := (((((w.setCell ⟨s, 0, none⟩ c0).setCell ⟨s, 1, none⟩ c1).setCell ⟨s, 2, none⟩ c2).setCell ⟨s, 3, none⟩ c3).setCell ⟨s, 4, none⟩ c4).setCell ⟨s, 5, none⟩ c5
theorem below_grown {B : Nat} {a w w' : World} {g : Nat} (h : Below B a w) (hB : B ≤ a.heap.size) (hg : w.grownBy w' (some g)) (hBg : B ≤ g) : Below B a w' := by
 have hs := h.size
 exact ⟨hg.os.trans h.os, hg.tape.trans h.tape, hg.output.trans h.output, Nat.le_trans h.size hg.size, fun k hk => (hg.block k (by omega) (fun e => by injection e; omega)).trans (h.block k hk)⟩
theorem slot_done {w W : World} {s : Nat} {ok ok' : Nat → Prop} {x : S32} {c0 c1 c2 c3 c4 c5 : Value} (hF : Kd.FK k32 W ok' x [c0, c1, c2, c3, c4, c5]) (hB : Below w.heap.size w W) (hs : w.heap.size ≤ s) (hne : ∀ k, ok' k → k ≠ s) (hm : ∀ k, ok' k → OkN ok w.heap.size k) :
  Fr w (six W s c0 c1 c2 c3 c4 c5) ok x (.returned (.agg [c0, c1, c2, c3, c4, c5].toArray)) :=
 ⟨_, rfl, Kd.FK_mono (Kd.FK_step hF (fun k hk _ => six_far _ _ _ _ _ _ k (hne k hk))) hm, six_below _ _ _ _ _ _ hB hs⟩
theorem slot_unit {w W : World} {s : Nat} {ok : Nat → Prop} (o : Int) (hB : Below w.heap.size w W) (hs : w.heap.size ≤ s) :
  Fr w (six W s (.int .i64 o) (.string ⟨#[]⟩) (.slice none 0 0) (.int .i64 0) (.int .i64 0) (.slice none 0 0)) ok (mk0 o) (.returned (.agg [.int .i64 o, .string ⟨#[]⟩, .slice none 0 0, .int .i64 0, .int .i64 0, .slice none 0 0].toArray)) :=
 ⟨_, rfl, k32_mkF _ _ (mk0 o) (Nat.le_refl _) (Kd.F_nil k84 _ _) (Nat.le_refl _) (Kd.F_nil k32 _ _), six_below _ _ _ _ _ _ hB hs⟩
/-- A row with its cells is a row that is read. -/
theorem RowAt.F {w : World} {g cap : Nat} {s : Nat → Prop} {ps : List (S32 × List Value)} (h : RowAt w g s cap ps) : Kd.F k32 w (fun k => s k ∨ k = g) (some ⟨g, 0, none⟩) ps.length (ps.map (·.1)) := by
 intro W hW
 obtain ⟨cur, hc, hz⟩ := h.blk
 have hg : W.heap[g]? = w.heap[g]? := hW g (Or.inr rfl) (blk_lt hc)
 have hR : RowAt W g s cap ps := ⟨⟨cur, hg.trans hc, hz⟩, h.le, h.max, h.ng, fun p hp => Kd.FK_step (h.fk p hp) (fun k hk hlt => hW k (Or.inl hk) hlt), fun i hi j u hu => by
  have := h.cell i hi j u hu
  unfold World.cell? at this ⊢
  rw [hg]
  exact this⟩
 exact hR.N
theorem slot_many {w W : World} {g s cap : Nat} {ok ok' : Nat → Prop} {ps : List (S32 × List Value)} (o : Int) (nm : ByteArray) (f t : Int) (hR : RowAt W g ok' cap ps) (hB : Below w.heap.size w W) (hs : w.heap.size ≤ s) (hgs : g ≠ s) (hg : w.heap.size ≤ g) (hne : ∀ k, ok' k → k ≠ s) (hm : ∀ k, ok' k → OkN ok w.heap.size k) (V : Value) (hV : V = .slice (some ⟨g, 0, none⟩) ps.length cap) :
  Fr w (six W s (.int .i64 o) (.string nm) (.slice none 0 0) (.int .i64 f) (.int .i64 t) V) ok ⟨o, nm, [], f, t, ps.map (·.1)⟩ (.returned (.agg [.int .i64 o, .string nm, .slice none 0 0, .int .i64 f, .int .i64 t, V].toArray)) := by
 subst hV
 have hF := k32_mkF W (fun k => ok' k ∨ k = g) ⟨o, nm, [], f, t, ps.map (·.1)⟩ (A2 := none) (c2 := 0) (A5 := some ⟨g, 0, none⟩) (c5 := cap) (Nat.le_refl _) (Kd.F_nil k84 _ _) (by rw [List.length_map]; exact hR.le) (by rw [List.length_map]; exact hR.F)
 rw [show (List.map (fun x : S32 × List Value => x.1) ps).length = ps.length from List.length_map _] at hF
 exact slot_done hF hB hs (fun k hk => by
  rcases hk with hk | rfl
  ·exact hne k hk
  ·exact hgs) (fun k hk => by
  rcases hk with hk | rfl
  ·exact hm k hk
  ·exact Or.inr hg)
theorem six_blk {w : World} {s : Nat} {a0 a1 a2 a3 a4 a5 : Value} (h : w.heap[s]? = some (.cells #[a0, a1, a2, a3, a4, a5] 32 (0, 0))) (c0 c1 c2 c3 c4 c5 : Value) : (six w s c0 c1 c2 c3 c4 c5).heap[s]? = some (.cells #[c0, c1, c2, c3, c4, c5] 32 (0, 0)) := by
 have := blk_set (blk_set (blk_set (blk_set (blk_set (blk_set h 0 c0) 1 c1) 2 c2) 3 c3) 4 c4) 5 c5
 simpa using this
theorem res_slot {fn : Func} {p : Tmp} (h : fn.results = #[.cell p 32]) (tmps : Array Value) (w : World) (s : Nat) (c0 c1 c2 c3 c4 c5 : Value) (hp : tmps.getD p undef = .pointer (some ⟨s, 0, none⟩)) (hg : w.heap[s]? = some (.cells #[c0, c1, c2, c3, c4, c5] 32 (0, 0))) :
  (results fn tmps).run Tryz.prog w = .ok (.agg [c0, c1, c2, c3, c4, c5].toArray) w :=
 results_cell_row h _ _ s 32 #[c0, c1, c2, c3, c4, c5] (0, 0) _ hp hg Tryz.underlying32 rfl (by kernel_rfl)
/-- A row of one. -/
theorem row_one {W : World} {b : Nat} {ok : Nat → Prop} {x : S32} {cs : List Value} (hb : W.heap[b]? = some (.cells cs.toArray 32 (0, 0))) (hF : Kd.FK k32 W ok x cs) (hne : ∀ k, ok k → k ≠ b) : RowAt W b ok 1 [(x, cs)] := by
 have hl : cs.length = 6 := k32.K_len (Kd.FK_now hF)
 refine ⟨⟨_, hb, by simpa using hl⟩, by simp, by decide, hne, fun p hp => ?_, fun i hi j u hu => ?_⟩
 ·simp at hp
  subst hp
  exact hF
 ·have : i = 0 := by simp at hi; omega
  subst this
  rw [blk_cell hb]
  simpa using hu
set_option maxRecDepth 1000000 in
set_option maxHeartbeats 4000000 in
theorem join5 {w : World} {A : Option Addr} {l : List S32} {c : Nat} {ok : Nat → Prop} (h : Kd.F k32 w ok A l.length l) (hok : ∀ k, ok k → k < w.heap.size) (hsz : size.sizes l < 1000000) :
  Calls Tryz.prog 80 #[.int .i64 5, .slice A l.length c] w fun e w' => Fr w w' ok (join 5 l) e := by
 have HLF := Lib.hid h
 have HOK := Lib.hid hok
 have HL := Lib.hid (Kd.F_now h)
 have hmx : l.length ≤ 9223372036854775807 := HL.out.2.1
 clear h hok
 go_enter Tryz.func80, Tryz.ntmps80
 go_wp2
 have hs1 : (w.alloc (.cells z6 32)).heap.size = w.heap.size + 1 := by show (w.heap.push _).size = _; simp
 have HST := Lib.hid (jn_start 5 l (w.alloc (.cells z6 32)) ok)
 rw [hs1] at HST
 have HB1 := Lib.hid (show Below w.heap.size w (w.alloc (.cells z6 32)) from (Below.refl _ _).alloc (Nat.le_refl _) _)
 go_loopw [7, 19] (fun v7 v19 wr => JnRel 5 l (w.alloc (.cells z6 32)) ok v7 v19 wr) (fun _ v19 _ => l.length - (intOf v19).toNat)
 case atStart => exact HST.out
 case round =>
  clear HST
  obtain ⟨i, g, cap, rfl, rfl, hi, hN, hB⟩ := hrel
  have HN := Lib.hid hN
  have HB := Lib.hid hB
  have HBW := Lib.hid (show Below w.heap.size w wr from below_then HB1.out HB1.out.size hB)
  clear hN hB
  by_cases hlt : i < l.length
  ·have hi0 : 0 ≤ (i : Int) := by omega
   have hi1 : (i : Int) < (l.length : Int) := by omega
   obtain ⟨ad, A2, c2, A5, c5, e1, q0, q1, q2, q3, q4, q5, qK⟩ := form_F HLF.out HBW.out i hlt
   subst e1
   have HFS := Lib.hid (flat_snoc 5 hlt)
   have HFL := Lib.hid (flat_len 5 l i)
   have HFL2 := Lib.hid (flat_len 5 l (i + 1))
   obtain ⟨x, hx⟩ : ∃ x, l[i] = x := ⟨_, rfl⟩
   rw [hx] at q0 q1 q2 q3 q4 q5 qK HFS
   have HKF := Lib.hid (kids_ok qK)
   have HSF := Lib.hid qK
   have HAL := Lib.hid ((Below.refl wr.heap.size wr).alloc (Nat.le_refl _) (.cells #[.int .i64 x.f0, .string x.f1, .slice A2 x.f2.length c2, .int .i64 x.f3, .int .i64 x.f4, .slice A5 x.f5.length c5] 32))
   have HBA := Lib.hid (below_then HB.out HB.out.size HAL.out)
   clear hx qK
   by_cases h5 : x.f0 = 5
   ·have HP := Lib.hid (show part 5 x = x.f5 by unfold part; rw [if_pos h5])
    have HF2 := Lib.hid (show flat 5 (l.take (i + 1)) = flat 5 (l.take i) ++ x.f5 by rw [HFS.out, HP.out])
    rw [h5] at q0 HAL HBA
    have HNA := Lib.hid (Kd.N_below HN.out HAL.out)
    have HFA := Lib.hid (show Kd.F k32 (wr.alloc (.cells #[.int .i64 5, .string x.f1, .slice A2 x.f2.length c2, .int .i64 x.f3, .int .i64 x.f4, .slice A5 x.f5.length c5] 32)) ok A5 x.f5.length x.f5 from Kd.F_step HKF.out.1 (fun k _ hk => (below_then HBW.out HBW.out.size HAL.out).block k hk))
    have HLL := Lib.hid (show (flat 5 (l.take i)).length + x.f5.length < 1000000 by have := HFL2.out; rw [HF2.out, List.length_append] at this; omega)
    clear HFL HFL2 HFS HP HKF HSF hsz
    go_wp2_with (first | (at_builtin; go_loud (refine Kd.N_append_rows k32 (w0 := w.alloc (.cells z6 32)) (w.alloc (.cells z6 32)).heap.size rfl (.tmp 32) (.tmp 34) 30 32 _ 88 rfl Tryz.underlying30 info32 rfl (by decide) (by decide) (.slice (some ⟨g, 0, none⟩) (flat 5 (l.take i)).length cap) (flat 5 (l.take i)) x.f5 A5 x.f5.length c5 (OkN ok (w.alloc (.cells z6 32)).heap.size) ok rfl rfl HNA.out HFA.out (fun k hk => ⟨Or.inl hk, fun e => by have := Kd.N_base HN.out k e.symm; have := HB1.out.size; have := HOK.out k hk; omega⟩) (fun k hk => Or.inr (by have := HBA.out.size; omega)) HBA.out HBA.out.size (by have := HLL.out; omega) ?_); intro v9 w9 hr9 hb9 hg9 hat9; rw [← HF2.out] at hr9; have HNX := Lib.hid (jn_next hlt rfl hr9 hb9 hat9); clear hr9 hb9 hg9 hat9) | fail)
    go_roundw
    case rel => exact HNX.out
    case measure => simp [intOf]; omega
   ·by_cases h1 : x.f0 = 1
    ·have HP := Lib.hid (show part 5 x = [] by unfold part; rw [if_neg h5, if_pos (by rw [h1]; rfl)])
     have HF2 := Lib.hid (show flat 5 (l.take (i + 1)) = flat 5 (l.take i) by rw [HFS.out, HP.out, List.append_nil])
     rw [h1] at q0 HAL HBA
     go_wp2
     go_roundw
     case rel => exact ⟨i + 1, g, cap, by rw [HF2.out], by go_num, hlt, by rw [HF2.out]; exact Kd.N_below HN.out HAL.out, HBA.out⟩
     case measure => simp [intOf]; omega
    ·have HP := Lib.hid (show part 5 x = [x] by unfold part; rw [if_neg h5, if_neg (by show ¬ x.f0 = (1 : Int); exact h1)])
     have HF2 := Lib.hid (show flat 5 (l.take (i + 1)) = flat 5 (l.take i) ++ [x] by rw [HFS.out, HP.out])
     have g5 : (x.f0 == (5 : Int)) = false := by simpa using h5
     have g1 : (x.f0 == (1 : Int)) = false := by simpa using h1
     have HNA := Lib.hid (Kd.N_below HN.out HAL.out)
     have HFA := Lib.hid (Kd.FK_step HSF.out (fun k _ hk => (below_then HBW.out HBW.out.size HAL.out).block k hk))
     have HLL := Lib.hid (show (flat 5 (l.take i)).length + 1 < 1000001 by have := HFL.out; omega)
     clear HFL HFL2 HFS HP HKF HSF hsz
     go_wp2_with (first | (at_builtin; go_loud (refine Kd.N_append k32 (w0 := w.alloc (.cells z6 32)) (w.alloc (.cells z6 32)).heap.size rfl (.tmp 25) (.tmp 27) 30 32 _ 88 rfl Tryz.underlying30 info32 rfl (by decide) (by decide) (.slice (some ⟨g, 0, none⟩) (flat 5 (l.take i)).length cap) (flat 5 (l.take i)) x [.int .i64 x.f0, .string x.f1, .slice A2 x.f2.length c2, .int .i64 x.f3, .int .i64 x.f4, .slice A5 x.f5.length c5] (OkN ok (w.alloc (.cells z6 32)).heap.size) ok rfl (by show _ = Value.slice (some ⟨(wr.heap.push _).size, 0, none⟩) 1 1; rw [Array.size_push]; rfl) HFA.out (fun k hk => ⟨Or.inl hk, fun e => by have := Kd.N_base HN.out k e.symm; have := HB1.out.size; have := HOK.out k hk; omega⟩) (fun k hk => Or.inr (by have := HBA.out.size; omega)) HNA.out HBA.out HBA.out.size (by have := HLL.out; omega) ?_); intro v9 w9 hr9 hb9 hg9 hat9; rw [← HF2.out] at hr9; have HNX := Lib.hid (jn_next hlt rfl hr9 hb9 hat9); clear hr9 hb9 hg9 hat9) | fail)
     go_roundw
     case rel => exact HNX.out
     case measure => simp [intOf]; omega
  ·have hil : i = l.length := by omega
   subst hil
   clear hlt hi
   obtain ⟨ps, hrow, hmap⟩ := row_of_N HN.out
   rw [List.take_length] at hmap
   have hgs : w.heap.size < g := by have := Kd.N_base HN.out g rfl; omega
   rw [List.take_length]
   have HNE := Lib.hid (show ∀ k, (OkN ok (w.alloc (.cells z6 32)).heap.size k ∧ k ≠ g) → k ≠ w.heap.size from fun k hk => by
    rcases hk.1 with h | h
    ·exact Nat.ne_of_lt (HOK.out k h)
    ·have := HB1.out.size; omega)
   have HMM := Lib.hid (show ∀ k, (OkN ok (w.alloc (.cells z6 32)).heap.size k ∧ k ≠ g) → OkN ok w.heap.size k from fun k hk => by
    rcases hk.1 with h | h
    ·exact Or.inl h
    ·exact Or.inr (by have := HB1.out.size; omega))
   have HFF := Lib.hid hmap
   have HFL := Lib.hid (flat_len 5 l l.length)
   rw [List.take_length, ← hmap, List.length_map] at HFL
   rw [← hmap, List.length_map]
   have HROW := Lib.hid hrow
   have hpm : ps.length < 1000000 := by have := HFL.out; omega
   clear hmap hrow HN
   go_wp2
   go_loopw [42] (fun v42 wr2 => JzRel 2 (ps.map (·.1)) wr v42 wr2) (fun v42 _ => ps.length - (intOf v42).toNat)
   case atStart => exact ⟨0, rfl, Nat.zero_le _, fun k _ h => absurd h (Nat.not_lt_zero _), Gw.refl _⟩
   case round =>
    obtain ⟨j, rfl, hj, hz, hg⟩ := hrel
    rw [List.length_map] at hj
    have HZ := Lib.hid hz
    have HG := Lib.hid hg
    have HB2 := Lib.hid (below_then HB.out HB.out.size hg.1)
    have HBW2 := Lib.hid (below_then HBW.out HBW.out.size hg.1)
    have HROW2 := Lib.hid (HROW.out.gw hg)
    clear hz hg
    by_cases hlt2 : j < ps.length
    ·have hj0 : 0 ≤ (j : Int) := by omega
     have hj1 : (j : Int) < (ps.length : Int) := by omega
     obtain ⟨A2, c2, A5, c5, ex, x0, x1, x2, x3, x4, x5⟩ := row_at HROW2.out j hlt2
     have HFK := Lib.hid (HROW2.out.fk _ (List.getElem_mem hlt2))
     rw [ex] at HFK
     obtain ⟨x, hx⟩ : ∃ x, ps[j].1 = x := ⟨_, rfl⟩
     rw [hx] at x0 x1 x2 x3 x4 x5 HFK
     have HX := Lib.hid hx
     clear ex hx
     by_cases hzz : x.f0 = 2
     ·have HFND := Lib.hid (show join 5 l = x from join_zero (by
       have := find_at (fun f : S32 => f.f0 == (2 : Int)) (l := ps.map (·.1)) (j := j) (by rw [List.length_map]; exact hlt2) (by simp only [List.getElem_map]; rw [HX.out, hzz]; rfl) (fun k hk hkj => by have := HZ.out k hk hkj; simpa using this)
       rw [List.getElem_map, HX.out, HFF.out] at this
       exact this))
      rw [hzz] at x0
      have hal := (Gw.refl wr).alloc (.cells #[.int .i64 2, .string x.f1, .slice A2 x.f2.length c2, .int .i64 x.f3, .int .i64 x.f4, .slice A5 x.f5.length c5] 32)
      have HFK2 := Lib.hid (Kd.FK_step HFK.out (fun k _ hk => hal.1.block k hk))
      rw [hzz] at HFK2
      have HBW3 := Lib.hid (below_then HBW2.out HBW2.out.size hal.1)
      have HSB := Lib.hid (slot_at (below_then HB2.out HB2.out.size hal.1))
      obtain ⟨y0, y1, y2, y3, y4, y5, f0, f1, f2, f3, f4, f5⟩ := slot_cells HSB.out
      clear hal HFK hzz
      go_wp2
      refine bodyPost_ret (res_slot rfl _ _ _ _ _ _ _ _ _ rfl (six_blk HSB.out _ _ _ _ _ _)) rfl ?_
      rw [HFND.out]
      exact slot_done HFK2.out HBW3.out (Nat.le_refl _) HNE.out HMM.out
     ·have gz : (x.f0 == (2 : Int)) = false := by simpa using hzz
      have hal := (Gw.refl wr).alloc (.cells #[.int .i64 x.f0, .string x.f1, .slice A2 x.f2.length c2, .int .i64 x.f3, .int .i64 x.f4, .slice A5 x.f5.length c5] 32)
      have HG3 := Lib.hid (Gw.trans HG.out hal)
      clear hal
      go_wp2
      go_roundw
      case rel => exact ⟨j + 1, by go_num, by rw [List.length_map]; exact hlt2, fun k hk hkj => by
       by_cases e : k < j
       ·exact HZ.out k hk e
       ·have : k = j := by omega
        subst this
        rw [List.getElem_map, HX.out]
        exact hzz, HG3.out⟩
      case measure => simp [intOf]; omega
    ·have hjl : j = ps.length := by omega
     subst hjl
     clear hlt2 hj
     have HFND := Lib.hid (join_none (op := 5) (l := l) (by
      rw [← HFF.out]
      exact find_no _ (fun k hk => by have := HZ.out k hk (by rw [List.length_map] at hk; exact hk); simpa [zeroOf] using this)))
     rw [← HFF.out] at HFND
     go_wp2_with fail
     refine (sort_any HROW2.out (by have := HFL.out; omega)).mono ?_
     rintro e w4 ⟨rfl, ps2, hrow2, hmap2, hgr2, hdr2⟩
     have hl2 : ps.length = ps2.length := by
      have := congrArg List.length hmap2
      rw [List.length_map, (srt_perm _).length_eq, List.length_map] at this
      exact this.symm
     rw [hl2]
     have HC2 := Lib.hid (compact_any hrow2)
     have HB4 := Lib.hid (below_grown HB2.out (Nat.le_refl _) hgr2 (by omega))
     have HBW4 := Lib.hid (below_grown HBW2.out (Nat.le_refl _) hgr2 (by omega))
     rw [← hmap2] at HFND
     clear hrow2 hmap2 hgr2 hdr2 hl2 HFL
     go_wp2_with fail
     refine HC2.out.mono ?_
     rintro e w5 ⟨ps3, rfl, hrow3, hmap3, hgr3, hdr3⟩
     have HR3 := Lib.hid hrow3
     have HB5 := Lib.hid (below_grown HB4.out (Nat.le_refl _) hgr3 (by omega))
     have HBW5 := Lib.hid (below_grown HBW4.out (Nat.le_refl _) hgr3 (by omega))
     rw [← hmap3] at HFND
     have HSB := Lib.hid (slot_at HB5.out)
     obtain ⟨y0, y1, y2, y3, y4, y5, f0, f1, f2, f3, f4, f5⟩ := slot_cells HSB.out
     clear hrow3 hmap3 hgr3 hdr3 HC2 HB4 HBW4
     rcases ps3 with _ | ⟨p, _ | ⟨q, r⟩⟩
     ·go_wp2
      refine bodyPost_ret (res_slot rfl _ _ _ _ _ _ _ _ _ rfl (six_blk HSB.out _ _ _ _ _ _)) rfl ?_
      rw [HFND.out]
      exact slot_unit _ HBW5.out (Nat.le_refl _)
     ·obtain ⟨A2, c2, A5, c5, ex, x0, x1, x2, x3, x4, x5⟩ := row_at HR3.out 0 (by simp)
      have HFK := Lib.hid (HR3.out.fk p (by simp))
      simp only [List.getElem_cons_zero] at ex x0 x1 x2 x3 x4 x5
      rw [ex] at HFK
      have HFN2 := Lib.hid (show join 5 l = p.1 from HFND.out)
      obtain ⟨x, hx⟩ : ∃ x, p.1 = x := ⟨_, rfl⟩
      rw [hx] at x0 x1 x2 x3 x4 x5 HFK HFN2
      clear ex hx HFND
      go_wp2
      refine bodyPost_ret (res_slot rfl _ _ _ _ _ _ _ _ _ rfl (six_blk HSB.out _ _ _ _ _ _)) rfl ?_
      rw [HFN2.out]
      exact slot_done HFK.out HBW5.out (Nat.le_refl _) HNE.out HMM.out
     ·have HFN2 := Lib.hid (show join 5 l = ⟨5, eStr, [], 0, 0, (p :: q :: r).map (·.1)⟩ from HFND.out)
      obtain ⟨n, hn⟩ : ∃ n, (p :: q :: r).length = n := ⟨_, rfl⟩
      have hn2 : 2 ≤ n := by rw [← hn]; simp
      have HN := Lib.hid hn
      have HMN := Lib.hid (slot_many 5 ⟨#[]⟩ 0 0 HR3.out HBW5.out (Nat.le_refl _) (by omega) (by omega) HNE.out HMM.out _ rfl)
      rw [hn] at HMN ⊢
      have d0 : ((n : Int) == 0) = false := by simp; omega
      have d1 : ((n : Int) == 1) = false := by simp; omega
      have e0 : (n == 0) = false := by simp; omega
      have e1 : (n == 1) = false := by simp; omega
      clear hn HFND
      go_wp2
      refine bodyPost_ret (res_slot rfl _ _ _ _ _ _ _ _ _ rfl (six_blk HSB.out _ _ _ _ _ _)) rfl ?_
      rw [HFN2.out]
      exact HMN.out
set_option maxRecDepth 1000000 in
set_option maxHeartbeats 4000000 in
theorem join6 {w : World} {A : Option Addr} {l : List S32} {c : Nat} {ok : Nat → Prop} (h : Kd.F k32 w ok A l.length l) (hok : ∀ k, ok k → k < w.heap.size) (hsz : size.sizes l < 1000000) :
  Calls Tryz.prog 80 #[.int .i64 6, .slice A l.length c] w fun e w' => Fr w w' ok (join 6 l) e := by
 have HLF := Lib.hid h
 have HOK := Lib.hid hok
 have HL := Lib.hid (Kd.F_now h)
 have hmx : l.length ≤ 9223372036854775807 := HL.out.2.1
 clear h hok
 go_enter Tryz.func80, Tryz.ntmps80
 go_wp2
 have hs1 : (w.alloc (.cells z6 32)).heap.size = w.heap.size + 1 := by show (w.heap.push _).size = _; simp
 have HST := Lib.hid (jn_start 6 l (w.alloc (.cells z6 32)) ok)
 rw [hs1] at HST
 have HB1 := Lib.hid (show Below w.heap.size w (w.alloc (.cells z6 32)) from (Below.refl _ _).alloc (Nat.le_refl _) _)
 go_loopw [7, 19] (fun v7 v19 wr => JnRel 6 l (w.alloc (.cells z6 32)) ok v7 v19 wr) (fun _ v19 _ => l.length - (intOf v19).toNat)
 case atStart => exact HST.out
 case round =>
  clear HST
  obtain ⟨i, g, cap, rfl, rfl, hi, hN, hB⟩ := hrel
  have HN := Lib.hid hN
  have HB := Lib.hid hB
  have HBW := Lib.hid (show Below w.heap.size w wr from below_then HB1.out HB1.out.size hB)
  clear hN hB
  by_cases hlt : i < l.length
  ·have hi0 : 0 ≤ (i : Int) := by omega
   have hi1 : (i : Int) < (l.length : Int) := by omega
   obtain ⟨ad, A2, c2, A5, c5, e1, q0, q1, q2, q3, q4, q5, qK⟩ := form_F HLF.out HBW.out i hlt
   subst e1
   have HFS := Lib.hid (flat_snoc 6 hlt)
   have HFL := Lib.hid (flat_len 6 l i)
   have HFL2 := Lib.hid (flat_len 6 l (i + 1))
   obtain ⟨x, hx⟩ : ∃ x, l[i] = x := ⟨_, rfl⟩
   rw [hx] at q0 q1 q2 q3 q4 q5 qK HFS
   have HKF := Lib.hid (kids_ok qK)
   have HSF := Lib.hid qK
   have HAL := Lib.hid ((Below.refl wr.heap.size wr).alloc (Nat.le_refl _) (.cells #[.int .i64 x.f0, .string x.f1, .slice A2 x.f2.length c2, .int .i64 x.f3, .int .i64 x.f4, .slice A5 x.f5.length c5] 32))
   have HBA := Lib.hid (below_then HB.out HB.out.size HAL.out)
   clear hx qK
   by_cases h5 : x.f0 = 6
   ·have HP := Lib.hid (show part 6 x = x.f5 by unfold part; rw [if_pos h5])
    have HF2 := Lib.hid (show flat 6 (l.take (i + 1)) = flat 6 (l.take i) ++ x.f5 by rw [HFS.out, HP.out])
    rw [h5] at q0 HAL HBA
    have HNA := Lib.hid (Kd.N_below HN.out HAL.out)
    have HFA := Lib.hid (show Kd.F k32 (wr.alloc (.cells #[.int .i64 6, .string x.f1, .slice A2 x.f2.length c2, .int .i64 x.f3, .int .i64 x.f4, .slice A5 x.f5.length c5] 32)) ok A5 x.f5.length x.f5 from Kd.F_step HKF.out.1 (fun k _ hk => (below_then HBW.out HBW.out.size HAL.out).block k hk))
    have HLL := Lib.hid (show (flat 6 (l.take i)).length + x.f5.length < 1000000 by have := HFL2.out; rw [HF2.out, List.length_append] at this; omega)
    clear HFL HFL2 HFS HP HKF HSF hsz
    go_wp2_with (first | (at_builtin; go_loud (refine Kd.N_append_rows k32 (w0 := w.alloc (.cells z6 32)) (w.alloc (.cells z6 32)).heap.size rfl (.tmp 32) (.tmp 34) 30 32 _ 88 rfl Tryz.underlying30 info32 rfl (by decide) (by decide) (.slice (some ⟨g, 0, none⟩) (flat 6 (l.take i)).length cap) (flat 6 (l.take i)) x.f5 A5 x.f5.length c5 (OkN ok (w.alloc (.cells z6 32)).heap.size) ok rfl rfl HNA.out HFA.out (fun k hk => ⟨Or.inl hk, fun e => by have := Kd.N_base HN.out k e.symm; have := HB1.out.size; have := HOK.out k hk; omega⟩) (fun k hk => Or.inr (by have := HBA.out.size; omega)) HBA.out HBA.out.size (by have := HLL.out; omega) ?_); intro v9 w9 hr9 hb9 hg9 hat9; rw [← HF2.out] at hr9; have HNX := Lib.hid (jn_next hlt rfl hr9 hb9 hat9); clear hr9 hb9 hg9 hat9) | fail)
    go_roundw
    case rel => exact HNX.out
    case measure => simp [intOf]; omega
   ·by_cases h1 : x.f0 = 2
    ·have HP := Lib.hid (show part 6 x = [] by unfold part; rw [if_neg h5, if_pos (by rw [h1]; rfl)])
     have HF2 := Lib.hid (show flat 6 (l.take (i + 1)) = flat 6 (l.take i) by rw [HFS.out, HP.out, List.append_nil])
     rw [h1] at q0 HAL HBA
     go_wp2
     go_roundw
     case rel => exact ⟨i + 1, g, cap, by rw [HF2.out], by go_num, hlt, by rw [HF2.out]; exact Kd.N_below HN.out HAL.out, HBA.out⟩
     case measure => simp [intOf]; omega
    ·have HP := Lib.hid (show part 6 x = [x] by unfold part; rw [if_neg h5, if_neg (by show ¬ x.f0 = (2 : Int); exact h1)])
     have HF2 := Lib.hid (show flat 6 (l.take (i + 1)) = flat 6 (l.take i) ++ [x] by rw [HFS.out, HP.out])
     have g5 : (x.f0 == (6 : Int)) = false := by simpa using h5
     have g1 : (x.f0 == (2 : Int)) = false := by simpa using h1
     have HNA := Lib.hid (Kd.N_below HN.out HAL.out)
     have HFA := Lib.hid (Kd.FK_step HSF.out (fun k _ hk => (below_then HBW.out HBW.out.size HAL.out).block k hk))
     have HLL := Lib.hid (show (flat 6 (l.take i)).length + 1 < 1000001 by have := HFL.out; omega)
     clear HFL HFL2 HFS HP HKF HSF hsz
     go_wp2_with (first | (at_builtin; go_loud (refine Kd.N_append k32 (w0 := w.alloc (.cells z6 32)) (w.alloc (.cells z6 32)).heap.size rfl (.tmp 25) (.tmp 27) 30 32 _ 88 rfl Tryz.underlying30 info32 rfl (by decide) (by decide) (.slice (some ⟨g, 0, none⟩) (flat 6 (l.take i)).length cap) (flat 6 (l.take i)) x [.int .i64 x.f0, .string x.f1, .slice A2 x.f2.length c2, .int .i64 x.f3, .int .i64 x.f4, .slice A5 x.f5.length c5] (OkN ok (w.alloc (.cells z6 32)).heap.size) ok rfl (by show _ = Value.slice (some ⟨(wr.heap.push _).size, 0, none⟩) 1 1; rw [Array.size_push]; rfl) HFA.out (fun k hk => ⟨Or.inl hk, fun e => by have := Kd.N_base HN.out k e.symm; have := HB1.out.size; have := HOK.out k hk; omega⟩) (fun k hk => Or.inr (by have := HBA.out.size; omega)) HNA.out HBA.out HBA.out.size (by have := HLL.out; omega) ?_); intro v9 w9 hr9 hb9 hg9 hat9; rw [← HF2.out] at hr9; have HNX := Lib.hid (jn_next hlt rfl hr9 hb9 hat9); clear hr9 hb9 hg9 hat9) | fail)
     go_roundw
     case rel => exact HNX.out
     case measure => simp [intOf]; omega
  ·have hil : i = l.length := by omega
   subst hil
   clear hlt hi
   obtain ⟨ps, hrow, hmap⟩ := row_of_N HN.out
   rw [List.take_length] at hmap
   have hgs : w.heap.size < g := by have := Kd.N_base HN.out g rfl; omega
   rw [List.take_length]
   have HNE := Lib.hid (show ∀ k, (OkN ok (w.alloc (.cells z6 32)).heap.size k ∧ k ≠ g) → k ≠ w.heap.size from fun k hk => by
    rcases hk.1 with h | h
    ·exact Nat.ne_of_lt (HOK.out k h)
    ·have := HB1.out.size; omega)
   have HMM := Lib.hid (show ∀ k, (OkN ok (w.alloc (.cells z6 32)).heap.size k ∧ k ≠ g) → OkN ok w.heap.size k from fun k hk => by
    rcases hk.1 with h | h
    ·exact Or.inl h
    ·exact Or.inr (by have := HB1.out.size; omega))
   have HFF := Lib.hid hmap
   have HFL := Lib.hid (flat_len 6 l l.length)
   rw [List.take_length, ← hmap, List.length_map] at HFL
   rw [← hmap, List.length_map]
   have HROW := Lib.hid hrow
   have hpm : ps.length < 1000000 := by have := HFL.out; omega
   clear hmap hrow HN
   go_wp2
   go_loopw [42] (fun v42 wr2 => JzRel 1 (ps.map (·.1)) wr v42 wr2) (fun v42 _ => ps.length - (intOf v42).toNat)
   case atStart => exact ⟨0, rfl, Nat.zero_le _, fun k _ h => absurd h (Nat.not_lt_zero _), Gw.refl _⟩
   case round =>
    obtain ⟨j, rfl, hj, hz, hg⟩ := hrel
    rw [List.length_map] at hj
    have HZ := Lib.hid hz
    have HG := Lib.hid hg
    have HB2 := Lib.hid (below_then HB.out HB.out.size hg.1)
    have HBW2 := Lib.hid (below_then HBW.out HBW.out.size hg.1)
    have HROW2 := Lib.hid (HROW.out.gw hg)
    clear hz hg
    by_cases hlt2 : j < ps.length
    ·have hj0 : 0 ≤ (j : Int) := by omega
     have hj1 : (j : Int) < (ps.length : Int) := by omega
     obtain ⟨A2, c2, A5, c5, ex, x0, x1, x2, x3, x4, x5⟩ := row_at HROW2.out j hlt2
     have HFK := Lib.hid (HROW2.out.fk _ (List.getElem_mem hlt2))
     rw [ex] at HFK
     obtain ⟨x, hx⟩ : ∃ x, ps[j].1 = x := ⟨_, rfl⟩
     rw [hx] at x0 x1 x2 x3 x4 x5 HFK
     have HX := Lib.hid hx
     clear ex hx
     by_cases hzz : x.f0 = 1
     ·have HFND := Lib.hid (show join 6 l = x from join_zero (by
       have := find_at (fun f : S32 => f.f0 == (1 : Int)) (l := ps.map (·.1)) (j := j) (by rw [List.length_map]; exact hlt2) (by simp only [List.getElem_map]; rw [HX.out, hzz]; rfl) (fun k hk hkj => by have := HZ.out k hk hkj; simpa using this)
       rw [List.getElem_map, HX.out, HFF.out] at this
       exact this))
      rw [hzz] at x0
      have hal := (Gw.refl wr).alloc (.cells #[.int .i64 1, .string x.f1, .slice A2 x.f2.length c2, .int .i64 x.f3, .int .i64 x.f4, .slice A5 x.f5.length c5] 32)
      have HFK2 := Lib.hid (Kd.FK_step HFK.out (fun k _ hk => hal.1.block k hk))
      rw [hzz] at HFK2
      have HBW3 := Lib.hid (below_then HBW2.out HBW2.out.size hal.1)
      have HSB := Lib.hid (slot_at (below_then HB2.out HB2.out.size hal.1))
      obtain ⟨y0, y1, y2, y3, y4, y5, f0, f1, f2, f3, f4, f5⟩ := slot_cells HSB.out
      clear hal HFK hzz
      go_wp2
      refine bodyPost_ret (res_slot rfl _ _ _ _ _ _ _ _ _ rfl (six_blk HSB.out _ _ _ _ _ _)) rfl ?_
      rw [HFND.out]
      exact slot_done HFK2.out HBW3.out (Nat.le_refl _) HNE.out HMM.out
     ·have gz : (x.f0 == (1 : Int)) = false := by simpa using hzz
      have hal := (Gw.refl wr).alloc (.cells #[.int .i64 x.f0, .string x.f1, .slice A2 x.f2.length c2, .int .i64 x.f3, .int .i64 x.f4, .slice A5 x.f5.length c5] 32)
      have HG3 := Lib.hid (Gw.trans HG.out hal)
      clear hal
      go_wp2
      go_roundw
      case rel => exact ⟨j + 1, by go_num, by rw [List.length_map]; exact hlt2, fun k hk hkj => by
       by_cases e : k < j
       ·exact HZ.out k hk e
       ·have : k = j := by omega
        subst this
        rw [List.getElem_map, HX.out]
        exact hzz, HG3.out⟩
      case measure => simp [intOf]; omega
    ·have hjl : j = ps.length := by omega
     subst hjl
     clear hlt2 hj
     have HFND := Lib.hid (join_none (op := 6) (l := l) (by
      rw [← HFF.out]
      exact find_no _ (fun k hk => by have := HZ.out k hk (by rw [List.length_map] at hk; exact hk); simpa [zeroOf] using this)))
     rw [← HFF.out] at HFND
     go_wp2_with fail
     refine (sort_any HROW2.out (by have := HFL.out; omega)).mono ?_
     rintro e w4 ⟨rfl, ps2, hrow2, hmap2, hgr2, hdr2⟩
     have hl2 : ps.length = ps2.length := by
      have := congrArg List.length hmap2
      rw [List.length_map, (srt_perm _).length_eq, List.length_map] at this
      exact this.symm
     rw [hl2]
     have HC2 := Lib.hid (compact_any hrow2)
     have HB4 := Lib.hid (below_grown HB2.out (Nat.le_refl _) hgr2 (by omega))
     have HBW4 := Lib.hid (below_grown HBW2.out (Nat.le_refl _) hgr2 (by omega))
     rw [← hmap2] at HFND
     clear hrow2 hmap2 hgr2 hdr2 hl2 HFL
     go_wp2_with fail
     refine HC2.out.mono ?_
     rintro e w5 ⟨ps3, rfl, hrow3, hmap3, hgr3, hdr3⟩
     have HR3 := Lib.hid hrow3
     have HB5 := Lib.hid (below_grown HB4.out (Nat.le_refl _) hgr3 (by omega))
     have HBW5 := Lib.hid (below_grown HBW4.out (Nat.le_refl _) hgr3 (by omega))
     rw [← hmap3] at HFND
     have HSB := Lib.hid (slot_at HB5.out)
     obtain ⟨y0, y1, y2, y3, y4, y5, f0, f1, f2, f3, f4, f5⟩ := slot_cells HSB.out
     clear hrow3 hmap3 hgr3 hdr3 HC2 HB4 HBW4
     rcases ps3 with _ | ⟨p, _ | ⟨q, r⟩⟩
     ·go_wp2
      refine bodyPost_ret (res_slot rfl _ _ _ _ _ _ _ _ _ rfl (six_blk HSB.out _ _ _ _ _ _)) rfl ?_
      rw [HFND.out]
      exact slot_unit _ HBW5.out (Nat.le_refl _)
     ·obtain ⟨A2, c2, A5, c5, ex, x0, x1, x2, x3, x4, x5⟩ := row_at HR3.out 0 (by simp)
      have HFK := Lib.hid (HR3.out.fk p (by simp))
      simp only [List.getElem_cons_zero] at ex x0 x1 x2 x3 x4 x5
      rw [ex] at HFK
      have HFN2 := Lib.hid (show join 6 l = p.1 from HFND.out)
      obtain ⟨x, hx⟩ : ∃ x, p.1 = x := ⟨_, rfl⟩
      rw [hx] at x0 x1 x2 x3 x4 x5 HFK HFN2
      clear ex hx HFND
      go_wp2
      refine bodyPost_ret (res_slot rfl _ _ _ _ _ _ _ _ _ rfl (six_blk HSB.out _ _ _ _ _ _)) rfl ?_
      rw [HFN2.out]
      exact slot_done HFK.out HBW5.out (Nat.le_refl _) HNE.out HMM.out
     ·have HFN2 := Lib.hid (show join 6 l = ⟨6, eStr, [], 0, 0, (p :: q :: r).map (·.1)⟩ from HFND.out)
      obtain ⟨n, hn⟩ : ∃ n, (p :: q :: r).length = n := ⟨_, rfl⟩
      have hn2 : 2 ≤ n := by rw [← hn]; simp
      have HN := Lib.hid hn
      have HMN := Lib.hid (slot_many 6 ⟨#[]⟩ 0 0 HR3.out HBW5.out (Nat.le_refl _) (by omega) (by omega) HNE.out HMM.out _ rfl)
      rw [hn] at HMN ⊢
      have d0 : ((n : Int) == 0) = false := by simp; omega
      have d1 : ((n : Int) == 1) = false := by simp; omega
      have e0 : (n == 0) = false := by simp; omega
      have e1 : (n == 1) = false := by simp; omega
      clear hn HFND
      go_wp2
      refine bodyPost_ret (res_slot rfl _ _ _ _ _ _ _ _ _ rfl (six_blk HSB.out _ _ _ _ _ _)) rfl ?_
      rw [HFN2.out]
      exact HMN.out
open Go.RowKit Go.Proofs.YtbahnpdgaoedmaaGreatDoor.PMemoryExact
/-- The nodes without kids. -/
def leaves : S32 → Nat
 | ⟨_, _, _, _, _, k⟩ => max 1 (leavess k)
where leavess : List S32 → Nat
 | [] => 0
 | x :: r => leaves x + leavess r
theorem leaves_is (x : S32) : leaves x = max 1 (leaves.leavess x.f5) := by
 obtain ⟨o, n, a, f, t, k⟩ := x
 simp [leaves]
theorem depth_is (x : S32) : depth x = 1 + depth.depths x.f5 := by
 obtain ⟨o, n, a, f, t, k⟩ := x
 simp [depth]
theorem leaves_pos (x : S32) : 1 ≤ leaves x := by rw [leaves_is]; omega
theorem leavess_app : ∀ a b : List S32, leaves.leavess (a ++ b) = leaves.leavess a + leaves.leavess b
 | [], b => by simp [leaves.leavess]
 | x :: a, b => by
  have := leavess_app a b
  simp only [List.cons_append, leaves.leavess]
  omega
theorem depths_app : ∀ a b : List S32, depth.depths (a ++ b) = max (depth.depths a) (depth.depths b)
 | [], b => by simp [depth.depths]
 | x :: a, b => by
  have := depths_app a b
  simp only [List.cons_append, depth.depths]
  omega
theorem leavess_mem : ∀ {l : List S32} {x : S32}, x ∈ l → leaves x ≤ leaves.leavess l
 | y :: l, x, h => by
  simp only [leaves.leavess]
  rcases List.mem_cons.1 h with rfl | h
  ·omega
  ·have := leavess_mem h
   omega
theorem depths_mem : ∀ {l : List S32} {x : S32}, x ∈ l → depth x ≤ depth.depths l
 | y :: l, x, h => by
  simp only [depth.depths]
  rcases List.mem_cons.1 h with rfl | h
  ·omega
  ·have := depths_mem h
   omega
theorem len_leavess : ∀ l : List S32, l.length ≤ leaves.leavess l
 | [] => by simp [leaves.leavess]
 | x :: l => by
  have := len_leavess l
  have := leaves_pos x
  simp only [leaves.leavess, List.length_cons]
  omega
mutual
theorem size_le : ∀ x : S32, size x ≤ leaves x * depth x
 | ⟨o, n, a, f, t, k⟩ => by
  have h := sizes_ld k
  simp only [size, leaves, depth]
  have h1 : leaves.leavess k * depth.depths k ≤ max 1 (leaves.leavess k) * depth.depths k := Nat.mul_le_mul_right _ (Nat.le_max_right _ _)
  rw [Nat.mul_add]
  omega
theorem sizes_ld : ∀ l : List S32, size.sizes l ≤ leaves.leavess l * depth.depths l
 | [] => by simp [size.sizes]
 | x :: l => by
  have h1 := size_le x
  have h2 := sizes_ld l
  simp only [size.sizes, leaves.leavess, depth.depths]
  have h3 : leaves x * depth x ≤ leaves x * max (depth x) (depth.depths l) := Nat.mul_le_mul_left _ (Nat.le_max_left _ _)
  have h4 : leaves.leavess l * depth.depths l ≤ leaves.leavess l * max (depth x) (depth.depths l) := Nat.mul_le_mul_left _ (Nat.le_max_right _ _)
  rw [Nat.add_mul]
  omega
end
mutual
theorem leaves_size : ∀ x : S32, leaves x ≤ size x
 | ⟨o, n, a, f, t, k⟩ => by
  have h := leavess_sizes k
  simp only [size, leaves]
  omega
theorem leavess_sizes : ∀ l : List S32, leaves.leavess l ≤ size.sizes l
 | [] => by simp [size.sizes, leaves.leavess]
 | x :: l => by
  have h1 := leaves_size x
  have h2 := leavess_sizes l
  simp only [size.sizes, leaves.leavess]
  omega
end
mutual
theorem depth_size : ∀ x : S32, depth x ≤ size x
 | ⟨o, n, a, f, t, k⟩ => by
  have h := depths_sizes k
  simp only [size, depth]
  omega
theorem depths_sizes : ∀ l : List S32, depth.depths l ≤ size.sizes l
 | [] => by simp [size.sizes, depth.depths]
 | x :: l => by
  have h1 := depth_size x
  have h2 := depths_sizes l
  simp only [size.sizes, depth.depths]
  omega
end
/-- A list that is a part of another one. -/
theorem leavess_perm {a b : List S32} (h : a.Perm b) : leaves.leavess a = leaves.leavess b := by
 induction h with
 | nil => rfl
 | cons x _ ih => simp only [leaves.leavess]; omega
 | swap x y l => simp only [leaves.leavess]; omega
 | trans _ _ h1 h2 => omega
theorem depths_le {l : List S32} {d : Nat} (h : ∀ x ∈ l, depth x ≤ d) : depth.depths l ≤ d := by
 induction l with
 | nil => simp [depth.depths]
 | cons x l ih =>
  have h1 := h x (by simp)
  have h2 := ih (fun y hy => h y (by simp [hy]))
  simp only [depth.depths]
  omega
theorem leavess_sub {a b : List S32} (h : a.Sublist b) : leaves.leavess a ≤ leaves.leavess b := by
 induction h with
 | slnil => simp
 | cons x _ ih => simp only [leaves.leavess]; omega
 | cons_cons x _ ih => simp only [leaves.leavess]; omega
theorem dedup_sub : ∀ (n : Nat) (l : List S32), l.length = n → (dedup l).Sublist l
 | 0, l, h => by
  have : l = [] := List.eq_nil_of_length_eq_zero h
  subst this
  simp [dedup]
 | 1, [x], h => by simp [dedup]
 | n + 2, x :: y :: r, h => by
  have hl : r.length = n := by simpa using h
  rw [dedup]
  split
  ·exact (dedup_sub (n + 1) (x :: r) (by simp [hl])).trans (List.Sublist.cons_cons _ (List.sublist_cons_self _ _))
  ·exact List.Sublist.cons_cons _ (dedup_sub (n + 1) (y :: r) (by simp [hl]))
theorem flat_cons (op : Int) (x : S32) (l : List S32) : flat op (x :: l) = (if x.f0 = op then x.f5 else if x.f0 = unitOf op then [] else [x]) ++ flat op l := rfl
theorem flat_leaves (op : Int) : ∀ l : List S32, leaves.leavess (flat op l) ≤ leaves.leavess l
 | [] => by simp [flat, leaves.leavess]
 | x :: l => by
  have ih := flat_leaves op l
  have := leaves_is x
  rw [flat_cons, leavess_app]
  simp only [leaves.leavess]
  split
  ·omega
  ·split
   ·simp only [leaves.leavess]; omega
   ·simp only [leaves.leavess]; omega
theorem flat_depth (op : Int) : ∀ l : List S32, depth.depths (flat op l) ≤ depth.depths l
 | [] => by simp [flat, depth.depths]
 | x :: l => by
  have ih := flat_depth op l
  have := depth_is x
  rw [flat_cons, depths_app]
  simp only [depth.depths]
  split
  ·omega
  ·split
   ·simp only [depth.depths]; omega
   ·simp only [depth.depths]; omega
theorem join_bound (op : Int) (l : List S32) : leaves (join op l) ≤ max 1 (leaves.leavess l) ∧ depth (join op l) ≤ 1 + depth.depths l := by
 have hf := flat_leaves op l
 have hd := flat_depth op l
 unfold join
 split
 ·rename_i f hfind
  have hm := List.mem_of_find?_eq_some hfind
  have := leavess_mem hm
  have := depths_mem hm
  omega
 ·have hs := dedup_sub _ (srt (flat op l)) rfl
  have h1 := leavess_sub hs
  rw [leavess_perm (srt_perm _)] at h1
  have h2 : depth.depths (dedup (srt (flat op l))) ≤ depth.depths (flat op l) := depths_le (fun x hx => depths_mem ((srt_perm _).mem_iff.1 (hs.subset hx)))
  split
  ·simp only [mk0, leaves, depth, leaves.leavess, depth.depths]; omega
  ·rename_i x hx
   rw [hx] at h1 h2
   simp only [leaves.leavess, depth.depths] at h1 h2
   omega
  ·rename_i xs _ _
   simp only [leaves, depth]
   omega
theorem const_bound (b : Bool) : leaves (const b) = 1 ∧ depth (const b) = 1 := by cases b <;> simp [const, mk0, leaves, depth, leaves.leavess, depth.depths]
theorem one_bound (o : Int) (n : ByteArray) (f t : Int) (x : S32) : leaves ⟨o, n, [], f, t, [x]⟩ = leaves x ∧ depth ⟨o, n, [], f, t, [x]⟩ = 1 + depth x := by
 have := leaves_pos x
 simp only [leaves, depth, leaves.leavess, depth.depths]
 omega
mutual
theorem each_bound (op : Int) (b : S32 → S32) (hb : ∀ x, leaves (b x) ≤ leaves x ∧ depth (b x) ≤ 1 + depth x) : ∀ x : S32, leaves (each op b x) ≤ leaves x ∧ depth (each op b x) ≤ 1 + depth x
 | ⟨o, n, a, f, t, k⟩ => by
  have h := eachs_bound op b hb k
  rw [each]
  split
  ·omega
  ·split
   ·have := join_bound op (eachs op b k)
    simp only [leaves, depth]
    omega
   ·exact hb _
theorem eachs_bound (op : Int) (b : S32 → S32) (hb : ∀ x, leaves (b x) ≤ leaves x ∧ depth (b x) ≤ 1 + depth x) : ∀ l : List S32, leaves.leavess (eachs op b l) ≤ leaves.leavess l ∧ depth.depths (eachs op b l) ≤ 1 + depth.depths l
 | [] => by simp [eachs, leaves.leavess, depth.depths]
 | x :: l => by
  have h1 := each_bound op b hb x
  have h2 := eachs_bound op b hb l
  simp only [eachs, leaves.leavess, depth.depths]
  omega
end
theorem overF_bound (op : Int) (n : ByteArray) (g : S32) : leaves (overF op n g) ≤ leaves g ∧ depth (overF op n g) ≤ 1 + depth g := by
 unfold overF
 exact each_bound _ _ (fun x => by have := one_bound op n 0 0 x; omega) g
theorem duringF_bound (f t : Int) (g : S32) : leaves (duringF f t g) ≤ leaves g ∧ depth (duringF f t g) ≤ 1 + depth g := by
 unfold duringF
 split
 ·have := const_bound true
  have := leaves_pos g
  omega
 ·exact each_bound _ _ (fun x => by have := one_bound 10 eStr f t x; omega) g
mutual
theorem inverse_bound : ∀ x : S32, leaves (inverseF x) ≤ leaves x ∧ depth (inverseF x) ≤ 1 + depth x
 | ⟨o, n, a, f, t, k⟩ => by
  have h := inverses_bound k
  rw [inverseF]
  split
  ·have := const_bound (o == 2)
   have := leaves_pos ⟨o, n, a, f, t, k⟩
   omega
  ·split
   ·have := join_bound 6 (inverses k)
    simp only [leaves, depth]
    omega
   ·have := one_bound 4 eStr 0 0 ⟨o, n, a, f, t, k⟩
    omega
theorem inverses_bound : ∀ l : List S32, leaves.leavess (inverses l) ≤ leaves.leavess l ∧ depth.depths (inverses l) ≤ 1 + depth.depths l
 | [] => by simp [inverses, leaves.leavess, depth.depths]
 | x :: l => by
  have h1 := inverse_bound x
  have h2 := inverses_bound l
  simp only [inverses, leaves.leavess, depth.depths]
  omega
end
theorem z32_bound : leaves z32 = 1 ∧ depth z32 = 1 := by constructor <;> rfl
theorem getD_bound (l : List S32) (i : Nat) : leaves (l.getD i z32) ≤ max 1 (leaves.leavess l) ∧ depth (l.getD i z32) ≤ max 1 (depth.depths l) := by
 by_cases h : i < l.length
 ·have hm : l.getD i z32 ∈ l := by
   rw [List.getD_eq_getElem?_getD, List.getElem?_eq_getElem h]
   exact List.getElem_mem h
  have := leavess_mem hm
  have := depths_mem hm
  omega
 ·have := z32_bound
  rw [List.getD_eq_getElem?_getD, List.getElem?_eq_none (by omega)]
  simp only [Option.getD_none]
  omega
theorem two_bound (x y : S32) : leaves.leavess [x, y] = leaves x + leaves y ∧ depth.depths [x, y] = max (depth x) (depth y) := by simp [leaves.leavess, depth.depths]
theorem nfs_len : ∀ (l : List S32) (neg : Bool), (nfs l neg).length = l.length
 | [], neg => by simp [nfs]
 | x :: l, neg => by simp [nfs, nfs_len l neg]
mutual
theorem nf_bound : ∀ (x : S32) (neg : Bool), leaves (nf x neg) ≤ 2 * size x ∧ depth (nf x neg) ≤ 2 * depth x + 1
 | ⟨o, n, a, f, t, k⟩, neg => by
  have h0 := nfs_bound k neg
  have h1 := nfs_bound k (!neg)
  have h2 := nfs_bound k false
  have hx : leaves ⟨o, n, a, f, t, k⟩ ≤ size ⟨o, n, a, f, t, k⟩ := leaves_size _
  have hs : size ⟨o, n, a, f, t, k⟩ = 1 + size.sizes k := by simp only [size]
  have hy : depth ⟨o, n, a, f, t, k⟩ = 1 + depth.depths k := by simp only [depth]
  rw [nf]
  split
  ·have := const_bound ((o == 1) != neg)
   omega
  ·split
   ·split
    ·have := one_bound 4 eStr 0 0 ⟨o, n, a, f, t, k⟩
     omega
    ·omega
   ·split
    ·have := getD_bound (nfs k (!neg)) 0
     omega
    ·split
     ·have hj := join_bound (if neg = true then 5 else 6) [(nfs k (!neg)).getD 0 z32, (nfs k neg).getD 1 z32]
      have h2b := two_bound ((nfs k (!neg)).getD 0 z32) ((nfs k neg).getD 1 z32)
      have hb0 := getD_bound (nfs k (!neg)) 0
      have hb1 := getD_bound (nfs k neg) 1
      have hk := implies_bound k neg
      omega
     ·split
      ·have hb := getD_bound (nfs k false) 0
       have hd := duringF_bound f t ((nfs k false).getD 0 z32)
       split
       ·have := inverse_bound (duringF f t ((nfs k false).getD 0 z32))
        omega
       ·omega
      ·generalize (if neg = true then oppo o else o) = q
       split
       ·have := join_bound q (nfs k neg)
        omega
       ·have hb := getD_bound (nfs k neg) 0
        have := overF_bound q n ((nfs k neg).getD 0 z32)
        omega
theorem implies_bound : ∀ (k : List S32) (neg : Bool), leaves ((nfs k (!neg)).getD 0 z32) + leaves ((nfs k neg).getD 1 z32) ≤ 2 + 2 * size.sizes k
 | [], neg => by simp [nfs, z32_bound.1]
 | [x], neg => by
  have h1 := nf_bound x (!neg)
  simp only [nfs, List.getD_cons_zero, List.getD_cons_succ, List.getD_nil, z32_bound.1, size.sizes]
  omega
 | x :: y :: l, neg => by
  have h1 := nf_bound x (!neg)
  have h2 := nf_bound y neg
  simp only [nfs, List.getD_cons_zero, List.getD_cons_succ, size.sizes]
  omega
theorem nfs_bound : ∀ (l : List S32) (neg : Bool), leaves.leavess (nfs l neg) ≤ 2 * size.sizes l ∧ depth.depths (nfs l neg) ≤ 2 * depth.depths l + 1
 | [], neg => by simp [nfs, leaves.leavess, depth.depths]
 | x :: l, neg => by
  have h1 := nf_bound x neg
  have h2 := nfs_bound l neg
  simp only [nfs, leaves.leavess, depth.depths, size.sizes]
  omega
end
/-- The word of an operator. -/
def kwd (op : Int) : List UInt8 :=
 if op = 1 then [84, 82, 85, 69] else if op = 2 then [70, 65, 76, 83, 69] else if op = 4 then [78, 79, 84] else if op = 5 then [65, 78, 68] else if op = 6 then [79, 82] else if op = 7 then [73, 77, 80, 76, 73, 69, 83]
 else if op = 8 then [65, 76, 76] else if op = 9 then [83, 79, 77, 69] else if op = 10 then [68, 85, 82, 73, 78, 71] else if op = 11 then [79, 66, 76, 73, 71, 69, 68] else if op = 12 then [80, 69, 82, 77, 73, 84, 84, 69, 68] else []
/-- The text of a reference. -/
def refB (r : S84) : List UInt8 := if r.f0 = 1 then 35 :: Lib.itoa r.f1 else if r.f0 = 3 then 64 :: Lib.itoa r.f1 else if r.f0 = 4 then Lib.itoa r.f1 else r.f2.data.toList
/-- What stands ahead of the parenthesis. -/
def headB (x : S32) : List UInt8 := if x.f0 = 3 then x.f1.data.toList else if x.f0 = 8 ∨ x.f0 = 9 then kwd x.f0 ++ 32 :: x.f1.data.toList else if x.f0 = 10 then kwd x.f0 ++ 32 :: (Lib.itoa x.f3 ++ 32 :: Lib.itoa x.f4) else kwd x.f0
def commas : List (List UInt8) → List UInt8
 | [] => []
 | x :: r => x ++ r.flatMap (fun y => 44 :: 32 :: y)
mutual
/-- formula.Text -/
def textB : S32 → List UInt8
 | ⟨o, n, a, f, t, k⟩ => if o = 1 ∨ o = 2 then kwd o else headB ⟨o, n, a, f, t, []⟩ ++ 40 :: (commas (a.map refB) ++ commas (textBs k) ++ [41])
def textBs : List S32 → List (List UInt8)
 | [] => []
 | x :: r => textB x :: textBs r
end
theorem textBs_map : ∀ l : List S32, textBs l = l.map textB
 | [] => by simp [textBs]
 | x :: l => by simp [textBs, textBs_map l]
theorem textB_is (x : S32) : textB x = if x.f0 = 1 ∨ x.f0 = 2 then kwd x.f0 else headB x ++ 40 :: (commas (x.f2.map refB) ++ commas (x.f5.map textB) ++ [41]) := by
 obtain ⟨o, n, a, f, t, k⟩ := x
 rw [textB, textBs_map]
 rfl
/-- One more at the end. -/
theorem commas_snoc (l : List (List UInt8)) (x : List UInt8) : commas (l ++ [x]) = commas l ++ (if l = [] then x else 44 :: 32 :: x) := by
 cases l with
 | nil => simp [commas]
 | cons y l => simp [commas]
/-- Short names. -/
structure Nm (x : S32) : Prop where
 name : x.f1.size ≤ 100
 refs : x.f2.length ≤ 10
 ref : ∀ r ∈ x.f2, r.f2.size ≤ 100 ∧ -9223372036854775808 ≤ r.f1 ∧ r.f1 ≤ 9223372036854775807
 frm : -9223372036854775808 ≤ x.f3 ∧ x.f3 ≤ 9223372036854775807
 too : -9223372036854775808 ≤ x.f4 ∧ x.f4 ≤ 9223372036854775807
mutual
def Al : S32 → Prop
 | ⟨o, n, a, f, t, k⟩ => Nm ⟨o, n, a, f, t, []⟩ ∧ Als k
def Als : List S32 → Prop
 | [] => True
 | x :: r => Al x ∧ Als r
end
theorem als_all : ∀ {l : List S32}, Als l ↔ ∀ x ∈ l, Al x
 | [] => by simp [Als]
 | x :: l => by simp [Als, als_all (l := l)]
theorem al_is (x : S32) : Al x ↔ Nm x ∧ ∀ y ∈ x.f5, Al y := by
 obtain ⟨o, n, a, f, t, k⟩ := x
 rw [Al, als_all]
 exact ⟨fun h => ⟨⟨h.1.1, h.1.2, h.1.3, h.1.4, h.1.5⟩, h.2⟩, fun h => ⟨⟨h.1.1, h.1.2, h.1.3, h.1.4, h.1.5⟩, h.2⟩⟩
theorem al_mk {o : Int} {n : ByteArray} {f t : Int} {k : List S32} (h1 : n.size ≤ 100) (h2 : -9223372036854775808 ≤ f ∧ f ≤ 9223372036854775807) (h3 : -9223372036854775808 ≤ t ∧ t ≤ 9223372036854775807) (hk : ∀ x ∈ k, Al x) : Al ⟨o, n, [], f, t, k⟩ :=
 (al_is _).2 ⟨⟨h1, by simp, by simp, h2, h3⟩, hk⟩
theorem al_mk0 (o : Int) {k : List S32} (hk : ∀ x ∈ k, Al x) : Al ⟨o, eStr, [], 0, 0, k⟩ := al_mk (by decide) (by decide) (by decide) hk
theorem al_const (b : Bool) : Al (const b) := by cases b <;> exact al_mk0 _ (by simp)
theorem al_z : Al z32 := (al_is _).2 ⟨⟨by decide, by decide, by simp [z32], by decide, by decide⟩, by simp [z32]⟩
theorem al_join (op : Int) {l : List S32} (h : ∀ x ∈ l, Al x) : Al (join op l) := by
 have hf : ∀ x ∈ flat op l, Al x := by
  intro x hx
  obtain ⟨y, hy, hxy⟩ := List.mem_flatMap.1 hx
  have hy2 := h y hy
  split at hxy
  ·exact ((al_is y).1 hy2).2 x hxy
  ·split at hxy
   ·simp at hxy
   ·simp at hxy; rw [hxy]; exact hy2
 unfold join
 split
 ·rename_i f hfind
  exact hf f (List.mem_of_find?_eq_some hfind)
 ·have hd : ∀ x ∈ dedup (srt (flat op l)), Al x := fun x hx => hf x ((srt_perm _).mem_iff.1 ((dedup_sub _ _ rfl).subset hx))
  split
  ·exact al_mk0 _ (by simp)
  ·rename_i x hx
   exact hd x (by rw [hx]; simp)
  ·rename_i xs _ _
   exact al_mk0 _ hd
mutual
theorem al_each (op : Int) (b : S32 → S32) (hb : ∀ x, Al x → Al (b x)) : ∀ x : S32, Al x → Al (each op b x)
 | ⟨o, n, a, f, t, k⟩, h => by
  have hk := ((al_is _).1 h).2
  rw [each]
  split
  ·exact h
  ·split
   ·exact al_join op (al_eachs op b hb k hk)
   ·exact hb _ h
theorem al_eachs (op : Int) (b : S32 → S32) (hb : ∀ x, Al x → Al (b x)) : ∀ l : List S32, (∀ x ∈ l, Al x) → ∀ x ∈ eachs op b l, Al x
 | [], _ => by simp [eachs]
 | y :: l, h => by
  intro x hx
  rw [eachs] at hx
  rcases List.mem_cons.1 hx with rfl | hx
  ·exact al_each op b hb y (h y (by simp))
  ·exact al_eachs op b hb l (fun z hz => h z (by simp [hz])) x hx
end
theorem al_over (op : Int) {n : ByteArray} (hn : n.size ≤ 100) {g : S32} (h : Al g) : Al (overF op n g) :=
 al_each _ _ (fun x hx => al_mk hn (by decide) (by decide) (by simpa using hx)) g h
theorem al_during {f t : Int} (hf : -9223372036854775808 ≤ f ∧ f ≤ 9223372036854775807) (ht : -9223372036854775808 ≤ t ∧ t ≤ 9223372036854775807) {g : S32} (h : Al g) : Al (duringF f t g) := by
 unfold duringF
 split
 ·exact al_const true
 ·exact al_each _ _ (fun x hx => al_mk (by decide) hf ht (by simpa using hx)) g h
mutual
theorem al_inverse : ∀ x : S32, Al x → Al (inverseF x)
 | ⟨o, n, a, f, t, k⟩, h => by
  have hk := ((al_is _).1 h).2
  rw [inverseF]
  split
  ·exact al_const _
  ·split
   ·exact al_join 6 (al_inverses k hk)
   ·exact al_mk0 _ (by simpa using h)
theorem al_inverses : ∀ l : List S32, (∀ x ∈ l, Al x) → ∀ x ∈ inverses l, Al x
 | [], _ => by simp [inverses]
 | y :: l, h => by
  intro x hx
  rw [inverses] at hx
  rcases List.mem_cons.1 hx with rfl | hx
  ·exact al_inverse y (h y (by simp))
  ·exact al_inverses l (fun z hz => h z (by simp [hz])) x hx
end
theorem al_getD {l : List S32} (h : ∀ x ∈ l, Al x) (i : Nat) : Al (l.getD i z32) := by
 by_cases hi : i < l.length
 ·rw [List.getD_eq_getElem?_getD, List.getElem?_eq_getElem hi]
  exact h _ (List.getElem_mem hi)
 ·rw [List.getD_eq_getElem?_getD, List.getElem?_eq_none (by omega)]
  exact al_z
mutual
theorem al_nf : ∀ (x : S32) (neg : Bool), Al x → Al (nf x neg)
 | ⟨o, n, a, f, t, k⟩, neg, h => by
  have hx := (al_is _).1 h
  have h0 := al_nfs k neg hx.2
  have h1 := al_nfs k (!neg) hx.2
  have h2 := al_nfs k false hx.2
  have hn := hx.1.1
  have hf := hx.1.4
  have ht := hx.1.5
  rw [nf]
  split
  ·exact al_const _
  ·split
   ·split
    ·exact al_mk0 _ (by simpa using h)
    ·exact h
   ·split
    ·exact al_getD h1 0
    ·split
     ·refine al_join _ (fun x hx => ?_)
      rcases List.mem_cons.1 hx with rfl | hx
      ·exact al_getD h1 0
      ·simp at hx
       subst hx
       have := al_getD h0 1
       rwa [List.getD_eq_getElem?_getD] at this
     ·split
      ·split
       ·exact al_inverse _ (al_during hf ht (al_getD h2 0))
       ·exact al_during hf ht (al_getD h2 0)
      ·generalize (if neg = true then oppo o else o) = q
       split
       ·exact al_join _ h0
       ·exact al_over _ hn (al_getD h0 0)
theorem al_nfs : ∀ (l : List S32) (neg : Bool), (∀ x ∈ l, Al x) → ∀ x ∈ nfs l neg, Al x
 | [], _, _ => by simp [nfs]
 | y :: l, neg, h => by
  intro x hx
  rw [nfs] at hx
  rcases List.mem_cons.1 hx with rfl | hx
  ·exact al_nf y neg (h y (by simp))
  ·exact al_nfs l neg (fun z hz => h z (by simp [hz])) x hx
end
theorem kwd_len (o : Int) : (kwd o).length ≤ 9 := by
 unfold kwd
 repeat' split
 all_goals simp
theorem refB_len {r : S84} (h : r.f2.size ≤ 100 ∧ -9223372036854775808 ≤ r.f1 ∧ r.f1 ≤ 9223372036854775807) : (refB r).length ≤ 100 := by
 have hi := Lib.itoa_length_le r.f1 h.2.1 h.2.2
 have hs : r.f2.data.toList.length ≤ 100 := by simpa using h.1
 unfold refB
 repeat' split
 all_goals try simp only [List.length_cons]
 all_goals omega
theorem headB_len {x : S32} (h : Nm x) : (headB x).length ≤ 120 := by
 have h3 := Lib.itoa_length_le x.f3 h.frm.1 h.frm.2
 have h4 := Lib.itoa_length_le x.f4 h.too.1 h.too.2
 have hs : x.f1.data.toList.length ≤ 100 := by simpa using h.name
 have hk := kwd_len x.f0
 unfold headB
 repeat' split
 all_goals try simp only [List.length_append, List.length_cons]
 all_goals omega
theorem flat2_len : ∀ (l : List (List UInt8)) (m : Nat), (∀ x ∈ l, x.length + 2 ≤ m) → (l.flatMap (fun y => 44 :: 32 :: y)).length ≤ l.length * m
 | [], m, _ => by simp
 | x :: l, m, h => by
  have h1 := h x (by simp)
  have h2 := flat2_len l m (fun y hy => h y (by simp [hy]))
  simp only [List.flatMap_cons, List.length_append, List.length_cons, Nat.add_mul]
  omega
theorem commas_len (l : List (List UInt8)) (m : Nat) (h : ∀ x ∈ l, x.length + 2 ≤ m) : (commas l).length ≤ l.length * m := by
 cases l with
 | nil => simp [commas]
 | cons x l =>
  have h1 := h x (by simp)
  have h2 := flat2_len l m (fun y hy => h y (by simp [hy]))
  simp only [commas, List.length_append, List.length_cons, Nat.add_mul]
  omega
theorem commas_sum : ∀ (l : List (List UInt8)), (commas l).length ≤ (l.map (fun x => x.length + 2)).sum
 | [] => by simp [commas]
 | x :: l => by
  have h2 : ∀ l : List (List UInt8), (l.flatMap (fun y => 44 :: 32 :: y)).length ≤ (l.map (fun x => x.length + 2)).sum := by
   intro l
   induction l with
   | nil => simp
   | cons y l ih =>
    simp only [List.flatMap_cons, List.length_append, List.length_cons, List.map_cons, List.sum_cons]
    omega
  have := h2 l
  simp only [commas, List.length_append, List.map_cons, List.sum_cons]
  omega
mutual
theorem textB_len : ∀ x : S32, Al x → (textB x).length + 2 ≤ 2000 * size x
 | ⟨o, n, a, f, t, k⟩, h => by
  have hx := (al_is _).1 h
  have hk := textBs_len k hx.2
  have hc := commas_sum (textBs k)
  have hr := commas_len (a.map refB) 102 (fun y hy => by
   obtain ⟨r, hr, rfl⟩ := List.mem_map.1 hy
   have := refB_len (hx.1.ref r hr)
   omega)
  have hl : a.length ≤ 10 := hx.1.refs
  have hh := headB_len hx.1
  have hh2 : (headB ⟨o, n, a, f, t, []⟩).length ≤ 120 := hh
  have hw := kwd_len o
  rw [List.length_map] at hr
  rw [textB]
  simp only [size]
  split
  ·omega
  ·simp only [List.length_append, List.length_cons, List.length_nil]
   omega
theorem textBs_len : ∀ l : List S32, (∀ x ∈ l, Al x) → ((textBs l).map (fun x => x.length + 2)).sum ≤ 2000 * size.sizes l
 | [], _ => by simp [textBs]
 | x :: l, h => by
  have h1 := textB_len x (h x (by simp))
  have h2 := textBs_len l (fun y hy => h y (by simp [hy]))
  simp only [textBs, List.map_cons, List.sum_cons, size.sizes]
  omega
end
end Go.Proofs.YtbahnpdgaoedmaaGreatDoor.Mm
namespace Go.Proofs.YtbahnpdgaoedmaaGreatDoor.PMemoryExact
open Go.RowKit Go.Proofs.YtbahnpdgaoedmaaGreatDoorW.PrintWords Go.Proofs.YtbahnpdgaoedmaaGreatDoorW.PrintLast Go.Proofs.YtbahnpdgaoedmaaGreatDoorW.PrintMore
attribute [local go_sem] max2_int min2_int max_two min_two max_three min_three max_four min_four   -- for this text's walks alone
set_option linter.unusedVariables false
set_option linter.unusedSimpArgs false
/-! ### normalform_constant: function 78 -/
def normalform_constant.f (a0 : Bool) : Option (Int × ByteArray × (List (S84)) × Int × Int × (List (S32))) := if a0 = true then (some (1, (⟨#[]⟩ : ByteArray), ([] : List (S84)), 0, 0, ([] : List (S32)))) else (some (2, (⟨#[]⟩ : ByteArray), ([] : List (S84)), 0, 0, ([] : List (S32))))
set_option maxHeartbeats 8000000 in
set_option maxRecDepth 100000 in
theorem normalform_constant.calls (a0 : Bool) (r1 : Int) (r2 : ByteArray) (r3 : List (S84)) (r4 : Int) (r5 : Int) (r6 : List (S32)) (w : World) (h : normalform_constant.f a0 = some (r1, r2, r3, r4, r5, r6)) :
  Calls Tryz.prog 78 #[.bool a0] w fun e w' => ∃ v2_ v5_ : Value, e = .returned (.agg #[.int .i64 r1, .string r2, v2_, .int .i64 r4, .int .i64 r5, v5_]) ∧ Kd.R k84 84 w' w.heap.size (fun _ => True) v2_ r3 ∧ Kd.R k32 32 w' w.heap.size (fun k_ => some k_ ≠ (v2_ : Value).ownBlock) v5_ r6 ∧ Below w.heap.size w w' := by
 have hu32 := Tryz.underlying32
 have HB := Aside0.mk (Below.refl w.heap.size w)
 have H : (if a0 = true then (some (1, (⟨#[]⟩ : ByteArray), ([] : List (S84)), 0, 0, ([] : List (S32)))) else (some (2, (⟨#[]⟩ : ByteArray), ([] : List (S84)), 0, 0, ([] : List (S32))))) = some (r1, r2, r3, r4, r5, r6) := h
 clear h
 by_cases c2 : a0 = true
 ·subst c2
  have H1 : (some (1, (⟨#[]⟩ : ByteArray), ([] : List (S84)), 0, 0, ([] : List (S32)))) = some (r1, r2, r3, r4, r5, r6) := by rw [if_pos rfl] at H; exact H
  clear H
  have H := H1
  clear H1
  simp only [Option.some.injEq, Prod.mk.injEq] at H
  obtain ⟨rfl, rfl, rfl, rfl, rfl, rfl⟩ := H
  go_enter Tryz.func78, Tryz.ntmps78
  go_wp2_with (first | ((with_reducible refine gate_dst (N := 2) rfl ?_); refine box_event ?hg (N := 2) ?hd (cs := #[.int .i64 0, .string (⟨#[]⟩ : ByteArray), .slice none 0 0, .int .i64 0, .int .i64 0, .slice none 0 0]) (t := 32) ?hr ?_; (case hd => rfl); (case hg => rfl); (case hr => first | (go_simp; done) | (go_simp; rfl)); intro gb141 hg w3 hbox hb; have n0_ := Aside0.mk (below_step (by repeat (first | (with_reducible first | exact HB.out | apply below_alloc | apply pw_below_drewN | apply below_drew1) | exact HB.out)) hb); have n1_ := Aside0.mk (hbox); have n2_ := Aside0.mk ((by rw [hg]; exact (below_size (by repeat (first | (with_reducible first | exact HB.out | apply below_alloc | apply pw_below_drewN | apply below_drew1) | exact HB.out))) : w.heap.size ≤ gb141)); have n3_ := Aside0.mk ((by rw [hg]; exact (below_size (by repeat (first | (with_reducible first | exact HB.out | apply below_alloc | apply pw_below_drewN | apply below_drew1) | exact HB.out))) : w.heap.size ≤ gb141)); clear HB; have HB := n0_; have BK141 := n1_; have GW141 := n2_; have GE141 := n3_; clear n0_ n1_ n2_ n3_; clear hb hbox hg; have hcz4_0 : w3.cell? ⟨gb141, 0, none⟩ = some (.int .i64 0) := (blk_cell BK141.out 0).trans rfl; have hcz4_1 : w3.cell? ⟨gb141, 1, none⟩ = some (.string (⟨#[]⟩ : ByteArray)) := (blk_cell BK141.out 1).trans rfl; have hcz4_2 : w3.cell? ⟨gb141, 2, none⟩ = some (.slice none 0 0) := (blk_cell BK141.out 2).trans rfl; have hcz4_3 : w3.cell? ⟨gb141, 3, none⟩ = some (.int .i64 0) := (blk_cell BK141.out 3).trans rfl; have hcz4_4 : w3.cell? ⟨gb141, 4, none⟩ = some (.int .i64 0) := (blk_cell BK141.out 4).trans rfl; have hcz4_5 : w3.cell? ⟨gb141, 5, none⟩ = some (.slice none 0 0) := (blk_cell BK141.out 5).trans rfl; have hfz4_0 := blk_frozen BK141.out 0; have hfz4_1 := blk_frozen BK141.out 1; have hfz4_2 := blk_frozen BK141.out 2; have hfz4_3 := blk_frozen BK141.out 3; have hfz4_4 := blk_frozen BK141.out 4; have hfz4_5 := blk_frozen BK141.out 5))
  refine bodyPost_ret (results_cell_row rfl _ _ gb141 32 #[.int .i64 1, .string (⟨#[]⟩ : ByteArray), .slice none 0 0, .int .i64 0, .int .i64 0, .slice none 0 0] (0, 0) _ rfl (by (with_reducible repeat (first | refine blk_drewN ?_ _ | refine blk_drew ?_ | refine blk_alloc ?_ _)); refine blk_put (cs := #[.int .i64 1, .string (⟨#[]⟩ : ByteArray), .slice none 0 0, .int .i64 0, .int .i64 0, .slice none 0 0]) ?_ 5 _ rfl; (with_reducible repeat (first | refine blk_drewN ?_ _ | refine blk_drew ?_ | refine blk_alloc ?_ _)); refine blk_put (cs := #[.int .i64 1, .string (⟨#[]⟩ : ByteArray), .slice none 0 0, .int .i64 0, .int .i64 0, .slice none 0 0]) ?_ 4 _ rfl; (with_reducible repeat (first | refine blk_drewN ?_ _ | refine blk_drew ?_ | refine blk_alloc ?_ _)); refine blk_put (cs := #[.int .i64 1, .string (⟨#[]⟩ : ByteArray), .slice none 0 0, .int .i64 0, .int .i64 0, .slice none 0 0]) ?_ 3 _ rfl; (with_reducible repeat (first | refine blk_drewN ?_ _ | refine blk_drew ?_ | refine blk_alloc ?_ _)); refine blk_put (cs := #[.int .i64 1, .string (⟨#[]⟩ : ByteArray), .slice none 0 0, .int .i64 0, .int .i64 0, .slice none 0 0]) ?_ 2 _ rfl; (with_reducible repeat (first | refine blk_drewN ?_ _ | refine blk_drew ?_ | refine blk_alloc ?_ _)); refine blk_put (cs := #[.int .i64 1, .string (⟨#[]⟩ : ByteArray), .slice none 0 0, .int .i64 0, .int .i64 0, .slice none 0 0]) ?_ 1 _ rfl; (with_reducible repeat (first | refine blk_drewN ?_ _ | refine blk_drew ?_ | refine blk_alloc ?_ _)); refine blk_put (cs := #[.int .i64 0, .string (⟨#[]⟩ : ByteArray), .slice none 0 0, .int .i64 0, .int .i64 0, .slice none 0 0]) ?_ 0 _ rfl; (with_reducible repeat (first | refine blk_drewN ?_ _ | refine blk_drew ?_ | refine blk_alloc ?_ _)); exact BK141.out) Tryz.underlying32 rfl (by kernel_rfl)) rfl ?_
  exact ⟨_, _, by first | rfl | (simp [errW_none, errW_some] <;> rfl) | (simp [*, errW_none, errW_some] <;> rfl), by first | exact Kd.R_nil _ _ _ _ _ | exact Kd.N_nil _ _ _ _ _ | exact Kd.V_nil _ _ _ _ _ | exact Kd.Q_nil _ _ _ _ _ | exact Kd.S_nil _ _ _ _ _, by first | exact Kd.R_nil _ _ _ _ _ | exact Kd.N_nil _ _ _ _ _ | exact Kd.V_nil _ _ _ _ _ | exact Kd.Q_nil _ _ _ _ _ | exact Kd.S_nil _ _ _ _ _, by repeat (first | (with_reducible first | exact HB.out | apply below_alloc | apply pw_below_drewN | apply below_drew1 | refine below_set ?_ GE141.out) | exact HB.out)⟩
 ·replace c2 := Bool.eq_false_iff.mpr c2
  subst c2
  have H1 : (some (2, (⟨#[]⟩ : ByteArray), ([] : List (S84)), 0, 0, ([] : List (S32)))) = some (r1, r2, r3, r4, r5, r6) := by rw [if_neg (show ¬ (false = true) by decide)] at H; exact H
  clear H
  have H := H1
  clear H1
  simp only [Option.some.injEq, Prod.mk.injEq] at H
  obtain ⟨rfl, rfl, rfl, rfl, rfl, rfl⟩ := H
  go_enter Tryz.func78, Tryz.ntmps78
  go_wp2_with (first | ((with_reducible refine gate_dst (N := 2) rfl ?_); refine box_event ?hg (N := 2) ?hd (cs := #[.int .i64 0, .string (⟨#[]⟩ : ByteArray), .slice none 0 0, .int .i64 0, .int .i64 0, .slice none 0 0]) (t := 32) ?hr ?_; (case hd => rfl); (case hg => rfl); (case hr => first | (go_simp; done) | (go_simp; rfl)); intro gb141 hg w5 hbox hb; have n0_ := Aside0.mk (below_step (by repeat (first | (with_reducible first | exact HB.out | apply below_alloc | apply pw_below_drewN | apply below_drew1) | exact HB.out)) hb); have n1_ := Aside0.mk (hbox); have n2_ := Aside0.mk ((by rw [hg]; exact (below_size (by repeat (first | (with_reducible first | exact HB.out | apply below_alloc | apply pw_below_drewN | apply below_drew1) | exact HB.out))) : w.heap.size ≤ gb141)); have n3_ := Aside0.mk ((by rw [hg]; exact (below_size (by repeat (first | (with_reducible first | exact HB.out | apply below_alloc | apply pw_below_drewN | apply below_drew1) | exact HB.out))) : w.heap.size ≤ gb141)); clear HB; have HB := n0_; have BK141 := n1_; have GW141 := n2_; have GE141 := n3_; clear n0_ n1_ n2_ n3_; clear hb hbox hg; have hcz6_0 : w5.cell? ⟨gb141, 0, none⟩ = some (.int .i64 0) := (blk_cell BK141.out 0).trans rfl; have hcz6_1 : w5.cell? ⟨gb141, 1, none⟩ = some (.string (⟨#[]⟩ : ByteArray)) := (blk_cell BK141.out 1).trans rfl; have hcz6_2 : w5.cell? ⟨gb141, 2, none⟩ = some (.slice none 0 0) := (blk_cell BK141.out 2).trans rfl; have hcz6_3 : w5.cell? ⟨gb141, 3, none⟩ = some (.int .i64 0) := (blk_cell BK141.out 3).trans rfl; have hcz6_4 : w5.cell? ⟨gb141, 4, none⟩ = some (.int .i64 0) := (blk_cell BK141.out 4).trans rfl; have hcz6_5 : w5.cell? ⟨gb141, 5, none⟩ = some (.slice none 0 0) := (blk_cell BK141.out 5).trans rfl; have hfz6_0 := blk_frozen BK141.out 0; have hfz6_1 := blk_frozen BK141.out 1; have hfz6_2 := blk_frozen BK141.out 2; have hfz6_3 := blk_frozen BK141.out 3; have hfz6_4 := blk_frozen BK141.out 4; have hfz6_5 := blk_frozen BK141.out 5))
  refine bodyPost_ret (results_cell_row rfl _ _ gb141 32 #[.int .i64 2, .string (⟨#[]⟩ : ByteArray), .slice none 0 0, .int .i64 0, .int .i64 0, .slice none 0 0] (0, 0) _ rfl (by (with_reducible repeat (first | refine blk_drewN ?_ _ | refine blk_drew ?_ | refine blk_alloc ?_ _)); refine blk_put (cs := #[.int .i64 2, .string (⟨#[]⟩ : ByteArray), .slice none 0 0, .int .i64 0, .int .i64 0, .slice none 0 0]) ?_ 5 _ rfl; (with_reducible repeat (first | refine blk_drewN ?_ _ | refine blk_drew ?_ | refine blk_alloc ?_ _)); refine blk_put (cs := #[.int .i64 2, .string (⟨#[]⟩ : ByteArray), .slice none 0 0, .int .i64 0, .int .i64 0, .slice none 0 0]) ?_ 4 _ rfl; (with_reducible repeat (first | refine blk_drewN ?_ _ | refine blk_drew ?_ | refine blk_alloc ?_ _)); refine blk_put (cs := #[.int .i64 2, .string (⟨#[]⟩ : ByteArray), .slice none 0 0, .int .i64 0, .int .i64 0, .slice none 0 0]) ?_ 3 _ rfl; (with_reducible repeat (first | refine blk_drewN ?_ _ | refine blk_drew ?_ | refine blk_alloc ?_ _)); refine blk_put (cs := #[.int .i64 2, .string (⟨#[]⟩ : ByteArray), .slice none 0 0, .int .i64 0, .int .i64 0, .slice none 0 0]) ?_ 2 _ rfl; (with_reducible repeat (first | refine blk_drewN ?_ _ | refine blk_drew ?_ | refine blk_alloc ?_ _)); refine blk_put (cs := #[.int .i64 2, .string (⟨#[]⟩ : ByteArray), .slice none 0 0, .int .i64 0, .int .i64 0, .slice none 0 0]) ?_ 1 _ rfl; (with_reducible repeat (first | refine blk_drewN ?_ _ | refine blk_drew ?_ | refine blk_alloc ?_ _)); refine blk_put (cs := #[.int .i64 0, .string (⟨#[]⟩ : ByteArray), .slice none 0 0, .int .i64 0, .int .i64 0, .slice none 0 0]) ?_ 0 _ rfl; (with_reducible repeat (first | refine blk_drewN ?_ _ | refine blk_drew ?_ | refine blk_alloc ?_ _)); exact BK141.out) Tryz.underlying32 rfl (by kernel_rfl)) rfl ?_
  exact ⟨_, _, by first | rfl | (simp [errW_none, errW_some] <;> rfl) | (simp [*, errW_none, errW_some] <;> rfl), by first | exact Kd.R_nil _ _ _ _ _ | exact Kd.N_nil _ _ _ _ _ | exact Kd.V_nil _ _ _ _ _ | exact Kd.Q_nil _ _ _ _ _ | exact Kd.S_nil _ _ _ _ _, by first | exact Kd.R_nil _ _ _ _ _ | exact Kd.N_nil _ _ _ _ _ | exact Kd.V_nil _ _ _ _ _ | exact Kd.Q_nil _ _ _ _ _ | exact Kd.S_nil _ _ _ _ _, by repeat (first | (with_reducible first | exact HB.out | apply below_alloc | apply pw_below_drewN | apply below_drew1 | refine below_set ?_ GE141.out) | exact HB.out)⟩
-- NOT PRINTED: function 79 (api_Ref_79)
end Go.Proofs.YtbahnpdgaoedmaaGreatDoor.PMemoryExact
