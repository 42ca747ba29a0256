/- Part 15 of the proof of MemoryForms: Mtk, Mms, Mrm, Mst. -/
import Derived.Test.YtbahnpdgaoedmaaGreatDoorCO14
namespace Go.Proofs.YtbahnpdgaoedmaaGreatDoor.Mm
open Go.RowKit Go.Proofs.YtbahnpdgaoedmaaGreatDoorW.PrintWords Go.Proofs.YtbahnpdgaoedmaaGreatDoorW.PrintLast Go.Proofs.YtbahnpdgaoedmaaGreatDoorW.PrintMore Go.Proofs.YtbahnpdgaoedmaaGreatDoor.PMemoryExact
set_option linter.unusedSimpArgs false
set_option linter.unusedVariables false
/-- Of what was there, only blocks in U have changed. -/
structure KU (U : Nat → Prop) (w w' : World) : Prop where
 os : w'.os = w.os
 tape : w'.tape = w.tape
 output : w'.output = w.output
 size : w.heap.size ≤ w'.heap.size
 block : ∀ k, k < w.heap.size → ¬ U k → w'.heap[k]? = w.heap[k]?
namespace KU
variable {U V : Nat → Prop} {w w' w'' : World}
theorem of (h : Below w.heap.size w w') : KU U w w' := ⟨h.os, h.tape, h.output, h.size, fun k hk _ => h.block k hk⟩
theorem refl (U : Nat → Prop) (w : World) : KU U w w := of (Below.refl _ _)
theorem trans (h : KU U w w') (k : KU U w' w'') : KU U w w'' := ⟨k.os.trans h.os, k.tape.trans h.tape, k.output.trans h.output, Nat.le_trans h.size k.size, fun a ha hu => (k.block a (Nat.lt_of_lt_of_le ha h.size) hu).trans (h.block a ha hu)⟩
theorem drew (h : KU U w w') : KU U w w'.drew := h.trans (of (Below.drew (Below.refl _ _)))
theorem then_ (h : KU U w w') (k : Below w'.heap.size w' w'') : KU U w w'' := h.trans (of k)
theorem setCell (h : KU U w w') {p : Addr} (hp : U p.block) (v : Value) : KU U w (w'.setCell p v) := by
 have h0 : Below 0 w' (w'.setCell p v) := (Below.refl 0 w').setCell (Nat.zero_le _) v
 exact h.trans ⟨h0.os, h0.tape, h0.output, h0.size, fun a _ hu => Below.heap_setCell _ _ _ _ (fun e => hu (e ▸ hp))⟩
theorem mono (h : KU U w w') (hi : ∀ k, k < w.heap.size → U k → V k) : KU V w w' := ⟨h.os, h.tape, h.output, h.size, fun a ha hu => h.block a ha (fun e => hu (hi a ha e))⟩
theorem bel {B : Nat} (h : KU U w w') (hu : ∀ k, k < B → ¬ U k) (hB : B ≤ w.heap.size) : Below B w w' := ⟨h.os, h.tape, h.output, h.size, fun a ha => h.block a (Nat.lt_of_lt_of_le ha hB) (hu a ha)⟩
end KU
/-- A node's cells. -/
abbrev nd (e : Ent) (p q : Nat) : Array Value := #[.string e.lang, .string e.mean, .string e.text, .pointer (some ⟨p, 0, none⟩), .pointer (some ⟨q, 0, none⟩)]
theorem nd_cells {w : World} {n : Nat} {e : Ent} {p q : Nat} (h : w.heap[n]? = some (.cells (nd e p q) 59 (0, 0))) :
  w.cell? ⟨n, 0, none⟩ = some (.string e.lang) ∧ w.cell? ⟨n, 1, none⟩ = some (.string e.mean) ∧ w.cell? ⟨n, 2, none⟩ = some (.string e.text) ∧ w.cell? ⟨n, 3, none⟩ = some (.pointer (some ⟨p, 0, none⟩)) ∧ w.cell? ⟨n, 4, none⟩ = some (.pointer (some ⟨q, 0, none⟩)) ∧
  w.frozen? ⟨n, 0, none⟩ = false ∧ w.frozen? ⟨n, 1, none⟩ = false ∧ w.frozen? ⟨n, 2, none⟩ = false ∧ w.frozen? ⟨n, 3, none⟩ = false ∧ w.frozen? ⟨n, 4, none⟩ = false :=
 ⟨blk_cell h 0, blk_cell h 1, blk_cell h 2, blk_cell h 3, blk_cell h 4, blk_frozen h 0, blk_frozen h 1, blk_frozen h 2, blk_frozen h 3, blk_frozen h 4⟩
theorem far_cell {w : World} {a p : Addr} (h : a.block ≠ p.block) (v : Value) : (w.setCell p v).cell? a = w.cell? a := by
 unfold World.cell?
 rw [Below.heap_setCell _ _ _ _ h]
theorem set_next {w : World} {D : Nat → Ent} {N P : Nat → Nat} {S : List Nat} (h : ∀ x ∈ S, w.heap[x]? = some (.cells (nd (D x) (P x) (N x)) 59 (0, 0))) (p q : Nat) : ∀ x ∈ S, (w.setCell ⟨p, 4, none⟩ (.pointer (some ⟨q, 0, none⟩))).heap[x]? = some (.cells (nd (D x) (P x) (up N p q x)) 59 (0, 0)) := by
 intro x hx
 by_cases e : x = p
 ·subst e
  have := blk_set (h x hx) 4 (.pointer (some ⟨q, 0, none⟩))
  rw [up_same]
  simpa using this
 ·rw [up_ne _ _ e, Below.heap_setCell _ _ _ _ e]
  exact h x hx
theorem set_prev {w : World} {D : Nat → Ent} {N P : Nat → Nat} {S : List Nat} (h : ∀ x ∈ S, w.heap[x]? = some (.cells (nd (D x) (P x) (N x)) 59 (0, 0))) (p q : Nat) : ∀ x ∈ S, (w.setCell ⟨p, 3, none⟩ (.pointer (some ⟨q, 0, none⟩))).heap[x]? = some (.cells (nd (D x) (up P p q x) (N x)) 59 (0, 0)) := by
 intro x hx
 by_cases e : x = p
 ·subst e
  have := blk_set (h x hx) 3 (.pointer (some ⟨q, 0, none⟩))
  rw [up_same]
  simpa using this
 ·rw [up_ne _ _ e, Below.heap_setCell _ _ _ _ e]
  exact h x hx
set_option maxRecDepth 1000000 in
set_option maxHeartbeats 4000000 in
theorem take_any {w : World} {m n p q a b c d : Nat} {e ep eq : Ent} (hn : w.heap[n]? = some (.cells (nd e p q) 59 (0, 0))) (hp : w.heap[p]? = some (.cells (nd ep a b) 59 (0, 0))) (hq : w.heap[q]? = some (.cells (nd eq c d) 59 (0, 0))) (hpn : n ≠ p) :
  Calls Tryz.prog 44 #[.pointer (some ⟨m, 0, none⟩), .pointer (some ⟨n, 0, none⟩)] w fun en w' => en = .returned (.tuple #[]) ∧ w' = ((w.setCell ⟨p, 4, none⟩ (.pointer (some ⟨q, 0, none⟩))).setCell ⟨q, 3, none⟩ (.pointer (some ⟨p, 0, none⟩))).drew := by
 obtain ⟨n0, n1, n2, n3, n4, nf0, nf1, nf2, nf3, nf4⟩ := nd_cells hn
 obtain ⟨p0, p1, p2, p3, p4, pf0, pf1, pf2, pf3, pf4⟩ := nd_cells hp
 obtain ⟨q0, q1, q2, q3, q4, qf0, qf1, qf2, qf3, qf4⟩ := nd_cells hq
 have HN3 := Lib.hid (show w.drew.cell? ⟨n, 3, none⟩ = some (.pointer (some ⟨p, 0, none⟩)) ∧ w.drew.cell? ⟨n, 4, none⟩ = some (.pointer (some ⟨q, 0, none⟩)) from ⟨n3, n4⟩)
 clear n0 n1 n2 n3 n4 nf0 nf1 nf2 nf3 nf4 p0 p1 p2 p3 pf0 pf1 pf2 pf3 q0 q1 q2 q4 qf0 qf1 qf2 qf4 hn hp hq
 go_enter Tryz.func44, Tryz.ntmps44
 go_wp2
 refine start_ (n := 22) (S := fun w' => w'.cell? ⟨n, 3, none⟩ = some (.pointer (some ⟨p, 0, none⟩)) ∧ w'.cell? ⟨n, 4, none⟩ = some (.pointer (some ⟨q, 0, none⟩))) (ds := [21]) #[false, false, false, false, false, false, false, false, false, false, false, false, false, false, false, false, false, false, false, false, false, false] (by kernel_rfl) rfl rfl HN3.out (fun hHeld => ?_)
 refine pure_ (i := 0) (N := (some 4)) (v := ?_) (a' := ?_) #[true, false, false, false, false, false, false, false, false, false, false, false, false, false, false, false, false, false, false, false, false, false] rfl rfl (by kernel_rfl) (fun _ _ _ h => h) (Or.inl ⟨by rfl, ?_⟩) ?_ ?_
 rotate_left
 ·intro w'
  go_simp
  with_reducible rfl
 rotate_left
 ·simp only [Act.put, List.setIfInBounds_toArray, List.set_cons_zero, List.set_cons_succ]
  rfl
 refine pure_ (i := 1) (N := (some 5)) (v := ?_) (a' := ?_) #[true, true, false, false, false, false, false, false, false, false, false, false, false, false, false, false, false, false, false, false, false, false] rfl rfl (by kernel_rfl) (fun _ _ _ h => h) (Or.inl ⟨by rfl, ?_⟩) ?_ ?_
 rotate_left
 ·intro w'
  go_simp
  with_reducible rfl
 rotate_left
 ·simp only [Act.put, List.setIfInBounds_toArray, List.set_cons_zero, List.set_cons_succ]
  rfl
 refine pure_ (i := 2) (N := (some 6)) (v := ?_) (a' := ?_) #[true, true, true, false, false, false, false, false, false, false, false, false, false, false, false, false, false, false, false, false, false, false] rfl rfl (by kernel_rfl) (fun _ _ _ h => h) (Or.inl ⟨by rfl, ?_⟩) ?_ ?_
 rotate_left
 ·intro w'
  go_simp
  with_reducible rfl
 rotate_left
 ·simp only [Act.put, List.setIfInBounds_toArray, List.set_cons_zero, List.set_cons_succ]
  rfl
 refine take_ (i := 3) (N := (some 7)) (v := ?_) (a' := ?_) #[true, true, true, true, false, false, false, false, false, false, false, false, false, false, false, false, false, false, false, false, false, false] rfl rfl (by kernel_rfl) (fun _ _ _ h => h) (Or.inl ⟨by rfl, ?_⟩) hHeld ?_ ?_
 rotate_left
 ·rintro w' ⟨s3, s4⟩
  go_simp
  with_reducible rfl
 rotate_left
 ·simp only [Act.put, List.setIfInBounds_toArray, List.set_cons_zero, List.set_cons_succ]
  rfl
 refine pure_ (i := 4) (N := (some 8)) (v := ?_) (a' := ?_) #[true, true, true, true, true, false, false, false, false, false, false, false, false, false, false, false, false, false, false, false, false, false] rfl rfl (by kernel_rfl) (fun _ _ _ h => h) (Or.inl ⟨by rfl, ?_⟩) ?_ ?_
 rotate_left
 ·intro w'
  go_simp
  with_reducible rfl
 rotate_left
 ·simp only [Act.put, List.setIfInBounds_toArray, List.set_cons_zero, List.set_cons_succ]
  rfl
 refine pure_ (i := 5) (N := (some 9)) (v := ?_) (a' := ?_) #[true, true, true, true, true, true, false, false, false, false, false, false, false, false, false, false, false, false, false, false, false, false] rfl rfl (by kernel_rfl) (fun _ _ _ h => h) (Or.inl ⟨by rfl, ?_⟩) ?_ ?_
 rotate_left
 ·intro w'
  go_simp
  with_reducible rfl
 rotate_left
 ·simp only [Act.put, List.setIfInBounds_toArray, List.set_cons_zero, List.set_cons_succ]
  rfl
 refine pure_ (i := 6) (N := (some 10)) (v := ?_) (a' := ?_) #[true, true, true, true, true, true, true, false, false, false, false, false, false, false, false, false, false, false, false, false, false, false] rfl rfl (by kernel_rfl) (fun _ _ _ h => h) (Or.inl ⟨by rfl, ?_⟩) ?_ ?_
 rotate_left
 ·intro w'
  go_simp
  with_reducible rfl
 rotate_left
 ·simp only [Act.put, List.setIfInBounds_toArray, List.set_cons_zero, List.set_cons_succ]
  rfl
 refine take_ (i := 7) (N := (some 11)) (v := ?_) (a' := ?_) #[true, true, true, true, true, true, true, true, false, false, false, false, false, false, false, false, false, false, false, false, false, false] rfl rfl (by kernel_rfl) (fun _ _ _ h => h) (Or.inl ⟨by rfl, ?_⟩) hHeld ?_ ?_
 rotate_left
 ·rintro w' ⟨s3, s4⟩
  go_simp
  with_reducible rfl
 rotate_left
 ·simp only [Act.put, List.setIfInBounds_toArray, List.set_cons_zero, List.set_cons_succ]
  rfl
 refine pure_ (i := 8) (N := (some 12)) (v := ?_) (a' := ?_) #[true, true, true, true, true, true, true, true, true, false, false, false, false, false, false, false, false, false, false, false, false, false] rfl rfl (by kernel_rfl) (fun _ _ _ h => h) (Or.inl ⟨by rfl, ?_⟩) ?_ ?_
 rotate_left
 ·intro w'
  go_simp
  with_reducible rfl
 rotate_left
 ·simp only [Act.put, List.setIfInBounds_toArray, List.set_cons_zero, List.set_cons_succ]
  rfl
 refine pure_ (i := 9) (N := (some 13)) (v := ?_) (a' := ?_) #[true, true, true, true, true, true, true, true, true, true, false, false, false, false, false, false, false, false, false, false, false, false] rfl rfl (by kernel_rfl) (fun _ _ _ h => h) (Or.inl ⟨by rfl, ?_⟩) ?_ ?_
 rotate_left
 ·intro w'
  go_simp
  with_reducible rfl
 rotate_left
 ·simp only [Act.put, List.setIfInBounds_toArray, List.set_cons_zero, List.set_cons_succ]
  rfl
 refine pure_ (i := 10) (N := (some 14)) (v := ?_) (a' := ?_) #[true, true, true, true, true, true, true, true, true, true, true, false, false, false, false, false, false, false, false, false, false, false] rfl rfl (by kernel_rfl) (fun _ _ _ h => h) (Or.inl ⟨by rfl, ?_⟩) ?_ ?_
 rotate_left
 ·intro w'
  go_simp
  with_reducible rfl
 rotate_left
 ·simp only [Act.put, List.setIfInBounds_toArray, List.set_cons_zero, List.set_cons_succ]
  rfl
 refine take_ (i := 11) (N := (some 15)) (v := ?_) (a' := ?_) #[true, true, true, true, true, true, true, true, true, true, true, true, false, false, false, false, false, false, false, false, false, false] rfl rfl (by kernel_rfl) (fun _ _ _ h => h) (Or.inl ⟨by rfl, ?_⟩) hHeld ?_ ?_
 rotate_left
 ·rintro w' ⟨s3, s4⟩
  go_simp
  with_reducible rfl
 rotate_left
 ·simp only [Act.put, List.setIfInBounds_toArray, List.set_cons_zero, List.set_cons_succ]
  rfl
 refine pure_ (i := 12) (N := (some 16)) (v := ?_) (a' := ?_) #[true, true, true, true, true, true, true, true, true, true, true, true, true, false, false, false, false, false, false, false, false, false] rfl rfl (by kernel_rfl) (fun _ _ _ h => h) (Or.inl ⟨by rfl, ?_⟩) ?_ ?_
 rotate_left
 ·intro w'
  go_simp
  with_reducible rfl
 rotate_left
 ·simp only [Act.put, List.setIfInBounds_toArray, List.set_cons_zero, List.set_cons_succ]
  rfl
 refine pure_ (i := 13) (N := (some 17)) (v := ?_) (a' := ?_) #[true, true, true, true, true, true, true, true, true, true, true, true, true, true, false, false, false, false, false, false, false, false] rfl rfl (by kernel_rfl) (fun _ _ _ h => h) (Or.inl ⟨by rfl, ?_⟩) ?_ ?_
 rotate_left
 ·intro w'
  go_simp
  with_reducible rfl
 rotate_left
 ·simp only [Act.put, List.setIfInBounds_toArray, List.set_cons_zero, List.set_cons_succ]
  rfl
 refine pure_ (i := 14) (N := (some 18)) (v := ?_) (a' := ?_) #[true, true, true, true, true, true, true, true, true, true, true, true, true, true, true, false, false, false, false, false, false, false] rfl rfl (by kernel_rfl) (fun _ _ _ h => h) (Or.inl ⟨by rfl, ?_⟩) ?_ ?_
 rotate_left
 ·intro w'
  go_simp
  with_reducible rfl
 rotate_left
 ·simp only [Act.put, List.setIfInBounds_toArray, List.set_cons_zero, List.set_cons_succ]
  rfl
 refine take_ (i := 15) (N := (some 19)) (v := ?_) (a' := ?_) #[true, true, true, true, true, true, true, true, true, true, true, true, true, true, true, true, false, false, false, false, false, false] rfl rfl (by kernel_rfl) (fun _ _ _ h => h) (Or.inl ⟨by rfl, ?_⟩) hHeld ?_ ?_
 rotate_left
 ·rintro w' ⟨s3, s4⟩
  go_simp
  with_reducible rfl
 rotate_left
 ·simp only [Act.put, List.setIfInBounds_toArray, List.set_cons_zero, List.set_cons_succ]
  rfl
 refine pure_ (i := 16) (N := (some 20)) (v := ?_) (a' := ?_) #[true, true, true, true, true, true, true, true, true, true, true, true, true, true, true, true, true, false, false, false, false, false] rfl rfl (by kernel_rfl) (fun _ _ _ h => h) (Or.inl ⟨by rfl, ?_⟩) ?_ ?_
 rotate_left
 ·intro w'
  go_simp
  with_reducible rfl
 rotate_left
 ·simp only [Act.put, List.setIfInBounds_toArray, List.set_cons_zero, List.set_cons_succ]
  rfl
 refine pure_ (i := 17) (N := (some 21)) (v := ?_) (a' := ?_) #[true, true, true, true, true, true, true, true, true, true, true, true, true, true, true, true, true, true, false, false, false, false] rfl rfl (by kernel_rfl) (fun _ _ _ h => h) (Or.inl ⟨by rfl, ?_⟩) ?_ ?_
 rotate_left
 ·intro w'
  go_simp
  with_reducible rfl
 rotate_left
 ·simp only [Act.put, List.setIfInBounds_toArray, List.set_cons_zero, List.set_cons_succ]
  rfl
 refine one_ (i := 18) (N := none) #[true, true, true, true, true, true, true, true, true, true, true, true, true, true, true, true, true, true, true, false, false, false] rfl rfl (by kernel_rfl) (by decide) (fun K hK => ?_)
 go_simp
 refine hK.out _ _ ⟨(far_cell (w := w.drew) (a := ⟨n, 3, none⟩) (p := ⟨p, 4, none⟩) hpn _).trans HN3.out.1, (far_cell (w := w.drew) (a := ⟨n, 4, none⟩) (p := ⟨p, 4, none⟩) hpn _).trans HN3.out.2⟩ (fun hHeld => ?_)
 clear hK K
 (try simp only [Act.put, List.setIfInBounds_toArray, List.set_cons_zero, List.set_cons_succ])
 refine pure_ (i := 19) (N := (some 22)) (v := ?_) (a' := ?_) #[true, true, true, true, true, true, true, true, true, true, true, true, true, true, true, true, true, true, true, true, false, false] rfl rfl (by kernel_rfl) (fun _ _ _ h => h) (Or.inl ⟨by rfl, ?_⟩) ?_ ?_
 rotate_left
 ·intro w'
  go_simp
  with_reducible rfl
 rotate_left
 ·simp only [Act.put, List.setIfInBounds_toArray, List.set_cons_zero, List.set_cons_succ]
  rfl
 refine pure_ (i := 20) (N := (some 23)) (v := ?_) (a' := ?_) #[true, true, true, true, true, true, true, true, true, true, true, true, true, true, true, true, true, true, true, true, true, false] rfl rfl (by kernel_rfl) (fun _ _ _ h => h) (Or.inl ⟨by rfl, ?_⟩) ?_ ?_
 rotate_left
 ·intro w'
  go_simp
  with_reducible rfl
 rotate_left
 ·simp only [Act.put, List.setIfInBounds_toArray, List.set_cons_zero, List.set_cons_succ]
  rfl
 refine last_ (i := 21) (N := none) #[true, true, true, true, true, true, true, true, true, true, true, true, true, true, true, true, true, true, true, true, true, true] rfl rfl (by kernel_rfl) (by decide) (fun K hK => ?_)
 go_simp
 refine hK.out _ _ ?_
 clear hK K
 (try simp only [Act.put, List.setIfInBounds_toArray, List.set_cons_zero, List.set_cons_succ])
 refine done_ (by kernel_rfl) ?_
 go_wp2
 go_end0
 exact ⟨rfl, rfl⟩
/-- A node whose two pointers are whatever. -/
abbrev nu (e : Ent) (u v : Value) : Array Value := #[.string e.lang, .string e.mean, .string e.text, u, v]
/-- A memory's cells. -/
abbrev mc (room : Int) (mp r : Nat) : Array Value := #[.int .i64 room, .map (some mp), .pointer (some ⟨r, 0, none⟩)]
theorem mc_cells {w : World} {m mp r : Nat} {room : Int} (h : w.heap[m]? = some (.cells (mc room mp r) 62 (0, 0))) :
  w.cell? ⟨m, 0, none⟩ = some (.int .i64 room) ∧ w.cell? ⟨m, 1, none⟩ = some (.map (some mp)) ∧ w.cell? ⟨m, 2, none⟩ = some (.pointer (some ⟨r, 0, none⟩)) := ⟨blk_cell h 0, blk_cell h 1, blk_cell h 2⟩
/-- n's own two pointers are set. -/
abbrev added1 (w : World) (n p r : Nat) : World := ((w.setCell ⟨n, 3, none⟩ (.pointer (some ⟨p, 0, none⟩))).setCell ⟨n, 4, none⟩ (.pointer (some ⟨r, 0, none⟩))).drew
abbrev added2 (w : World) (n p r : Nat) : World := ((w.setCell ⟨p, 4, none⟩ (.pointer (some ⟨n, 0, none⟩))).setCell ⟨r, 3, none⟩ (.pointer (some ⟨n, 0, none⟩))).drew
theorem far_two {w : World} {n k : Nat} (h : k ≠ n) (u v : Value) : (((w.setCell ⟨n, 3, none⟩ u).setCell ⟨n, 4, none⟩ v).drew).heap[k]? = w.heap[k]? := by
 show ((w.setCell ⟨n, 3, none⟩ u).setCell ⟨n, 4, none⟩ v).heap[k]? = _
 rw [Below.heap_setCell _ _ _ _ h, Below.heap_setCell _ _ _ _ h]
set_option maxRecDepth 1000000 in
set_option maxHeartbeats 4000000 in
theorem add_any {w : World} {m mp r n p a b c : Nat} {x y : Value} {room : Int} {e ep er : Ent} (hm : w.heap[m]? = some (.cells (mc room mp r) 62 (0, 0))) (hn : w.heap[n]? = some (.cells (nu e x y) 59 (0, 0))) (hr : w.heap[r]? = some (.cells (nd er p b) 59 (0, 0))) (hp : w.heap[p]? = some (.cells (nd ep a c) 59 (0, 0))) (hrn : r ≠ n) (hpn : p ≠ n) :
  Calls Tryz.prog 40 #[.pointer (some ⟨m, 0, none⟩), .pointer (some ⟨n, 0, none⟩)] w fun en w' => en = .returned (.tuple #[]) ∧ w' = added2 (added1 w n p r) n p r := by
 have hmn : m ≠ n := fun e => by subst e; rw [hm] at hn; injection hn with hn; injection hn with _ hn; exact absurd hn (by decide)
 obtain ⟨m0, m1, m2⟩ := mc_cells hm
 have n3 : w.cell? ⟨n, 3, none⟩ = some x := blk_cell hn 3
 have n4 : w.cell? ⟨n, 4, none⟩ = some y := blk_cell hn 4
 have nf3 : w.frozen? ⟨n, 3, none⟩ = false := blk_frozen hn 3
 have nf4 : w.frozen? ⟨n, 4, none⟩ = false := blk_frozen hn 4
 obtain ⟨r0, r1, r2, r3, r4, rf0, rf1, rf2, rf3, rf4⟩ := nd_cells hr
 have HS1 := Lib.hid (show w.drew.cell? ⟨m, 2, none⟩ = some (.pointer (some ⟨r, 0, none⟩)) ∧ w.drew.cell? ⟨r, 3, none⟩ = some (.pointer (some ⟨p, 0, none⟩)) from ⟨m2, r3⟩)
 have HN2 := Lib.hid (show (((w.setCell ⟨n, 3, none⟩ (.pointer (some ⟨p, 0, none⟩))).setCell ⟨n, 4, none⟩ (.pointer (some ⟨r, 0, none⟩))).drew).heap[n]? = some (.cells (nd e p r) 59 (0, 0)) by
  have := blk_set (blk_set hn 3 (.pointer (some ⟨p, 0, none⟩))) 4 (.pointer (some ⟨r, 0, none⟩))
  simpa [World.drew] using this)
 have HM2 := Lib.hid ((far_two hmn _ _).trans hm : (((w.setCell ⟨n, 3, none⟩ (.pointer (some ⟨p, 0, none⟩))).setCell ⟨n, 4, none⟩ (.pointer (some ⟨r, 0, none⟩))).drew).heap[m]? = _)
 have HR2 := Lib.hid ((far_two hrn _ _).trans hr : (((w.setCell ⟨n, 3, none⟩ (.pointer (some ⟨p, 0, none⟩))).setCell ⟨n, 4, none⟩ (.pointer (some ⟨r, 0, none⟩))).drew).heap[r]? = _)
 have HP2 := Lib.hid ((far_two hpn _ _).trans hp : (((w.setCell ⟨n, 3, none⟩ (.pointer (some ⟨p, 0, none⟩))).setCell ⟨n, 4, none⟩ (.pointer (some ⟨r, 0, none⟩))).drew).heap[p]? = _)
 have hmn2 : m ≠ n := hmn
 clear r0 r1 r2 r3 r4 rf0 rf1 rf2 rf3 rf4 m0 m1 m2 hm hn hr hp
 go_enter Tryz.func40, Tryz.ntmps40
 go_wp2
 refine start_ (n := 19) (S := fun w' => w'.cell? ⟨m, 2, none⟩ = some (.pointer (some ⟨r, 0, none⟩)) ∧ w'.cell? ⟨r, 3, none⟩ = some (.pointer (some ⟨p, 0, none⟩))) (ds := [18]) #[false, false, false, false, false, false, false, false, false, false, false, false, false, false, false, false, false, false, false] (by kernel_rfl) rfl rfl HS1.out (fun hHeld => ?_)
 refine pure_ (i := 0) (N := (some 4)) (v := ?_) (a' := ?_) #[true, false, false, false, false, false, false, false, false, false, false, false, false, false, false, false, false, false, false] rfl rfl (by kernel_rfl) (fun _ _ _ h => h) (Or.inl ⟨by rfl, ?_⟩) ?_ ?_
 rotate_left
 ·intro w'
  go_simp
  with_reducible rfl
 rotate_left
 ·simp only [Act.put, List.setIfInBounds_toArray, List.set_cons_zero, List.set_cons_succ]
  rfl
 refine pure_ (i := 1) (N := (some 5)) (v := ?_) (a' := ?_) #[true, true, false, false, false, false, false, false, false, false, false, false, false, false, false, false, false, false, false] rfl rfl (by kernel_rfl) (fun _ _ _ h => h) (Or.inl ⟨by rfl, ?_⟩) ?_ ?_
 rotate_left
 ·intro w'
  go_simp
  with_reducible rfl
 rotate_left
 ·simp only [Act.put, List.setIfInBounds_toArray, List.set_cons_zero, List.set_cons_succ]
  rfl
 refine pure_ (i := 2) (N := (some 6)) (v := ?_) (a' := ?_) #[true, true, true, false, false, false, false, false, false, false, false, false, false, false, false, false, false, false, false] rfl rfl (by kernel_rfl) (fun _ _ _ h => h) (Or.inl ⟨by rfl, ?_⟩) ?_ ?_
 rotate_left
 ·intro w'
  go_simp
  with_reducible rfl
 rotate_left
 ·simp only [Act.put, List.setIfInBounds_toArray, List.set_cons_zero, List.set_cons_succ]
  rfl
 refine pure_ (i := 3) (N := (some 7)) (v := ?_) (a' := ?_) #[true, true, true, true, false, false, false, false, false, false, false, false, false, false, false, false, false, false, false] rfl rfl (by kernel_rfl) (fun _ _ _ h => h) (Or.inl ⟨by rfl, ?_⟩) ?_ ?_
 rotate_left
 ·intro w'
  go_simp
  with_reducible rfl
 rotate_left
 ·simp only [Act.put, List.setIfInBounds_toArray, List.set_cons_zero, List.set_cons_succ]
  rfl
 refine pure_ (i := 4) (N := (some 8)) (v := ?_) (a' := ?_) #[true, true, true, true, true, false, false, false, false, false, false, false, false, false, false, false, false, false, false] rfl rfl (by kernel_rfl) (fun _ _ _ h => h) (Or.inl ⟨by rfl, ?_⟩) ?_ ?_
 rotate_left
 ·intro w'
  go_simp
  with_reducible rfl
 rotate_left
 ·simp only [Act.put, List.setIfInBounds_toArray, List.set_cons_zero, List.set_cons_succ]
  rfl
 refine take_ (i := 5) (N := (some 9)) (v := ?_) (a' := ?_) #[true, true, true, true, true, true, false, false, false, false, false, false, false, false, false, false, false, false, false] rfl rfl (by kernel_rfl) (fun _ _ _ h => h) (Or.inl ⟨by rfl, ?_⟩) hHeld ?_ ?_
 rotate_left
 ·rintro w' ⟨s3, s4⟩
  go_simp
  with_reducible rfl
 rotate_left
 ·simp only [Act.put, List.setIfInBounds_toArray, List.set_cons_zero, List.set_cons_succ]
  rfl
 refine pure_ (i := 6) (N := (some 10)) (v := ?_) (a' := ?_) #[true, true, true, true, true, true, true, false, false, false, false, false, false, false, false, false, false, false, false] rfl rfl (by kernel_rfl) (fun _ _ _ h => h) (Or.inl ⟨by rfl, ?_⟩) ?_ ?_
 rotate_left
 ·intro w'
  go_simp
  with_reducible rfl
 rotate_left
 ·simp only [Act.put, List.setIfInBounds_toArray, List.set_cons_zero, List.set_cons_succ]
  rfl
 refine pure_ (i := 7) (N := (some 11)) (v := ?_) (a' := ?_) #[true, true, true, true, true, true, true, true, false, false, false, false, false, false, false, false, false, false, false] rfl rfl (by kernel_rfl) (fun _ _ _ h => h) (Or.inl ⟨by rfl, ?_⟩) ?_ ?_
 rotate_left
 ·intro w'
  go_simp
  with_reducible rfl
 rotate_left
 ·simp only [Act.put, List.setIfInBounds_toArray, List.set_cons_zero, List.set_cons_succ]
  rfl
 refine take_ (i := 8) (N := (some 12)) (v := ?_) (a' := ?_) #[true, true, true, true, true, true, true, true, true, false, false, false, false, false, false, false, false, false, false] rfl rfl (by kernel_rfl) (fun _ _ _ h => h) (Or.inl ⟨by rfl, ?_⟩) hHeld ?_ ?_
 rotate_left
 ·rintro w' ⟨s3, s4⟩
  go_simp
  with_reducible rfl
 rotate_left
 ·simp only [Act.put, List.setIfInBounds_toArray, List.set_cons_zero, List.set_cons_succ]
  rfl
 refine pure_ (i := 9) (N := (some 13)) (v := ?_) (a' := ?_) #[true, true, true, true, true, true, true, true, true, true, false, false, false, false, false, false, false, false, false] rfl rfl (by kernel_rfl) (fun _ _ _ h => h) (Or.inl ⟨by rfl, ?_⟩) ?_ ?_
 rotate_left
 ·intro w'
  go_simp
  with_reducible rfl
 rotate_left
 ·simp only [Act.put, List.setIfInBounds_toArray, List.set_cons_zero, List.set_cons_succ]
  rfl
 refine pure_ (i := 10) (N := (some 14)) (v := ?_) (a' := ?_) #[true, true, true, true, true, true, true, true, true, true, true, false, false, false, false, false, false, false, false] rfl rfl (by kernel_rfl) (fun _ _ _ h => h) (Or.inl ⟨by rfl, ?_⟩) ?_ ?_
 rotate_left
 ·intro w'
  go_simp
  with_reducible rfl
 rotate_left
 ·simp only [Act.put, List.setIfInBounds_toArray, List.set_cons_zero, List.set_cons_succ]
  rfl
 refine pure_ (i := 11) (N := (some 15)) (v := ?_) (a' := ?_) #[true, true, true, true, true, true, true, true, true, true, true, true, false, false, false, false, false, false, false] rfl rfl (by kernel_rfl) (fun _ _ _ h => h) (Or.inl ⟨by rfl, ?_⟩) ?_ ?_
 rotate_left
 ·intro w'
  go_simp
  with_reducible rfl
 rotate_left
 ·simp only [Act.put, List.setIfInBounds_toArray, List.set_cons_zero, List.set_cons_succ]
  rfl
 refine take_ (i := 12) (N := (some 16)) (v := ?_) (a' := ?_) #[true, true, true, true, true, true, true, true, true, true, true, true, true, false, false, false, false, false, false] rfl rfl (by kernel_rfl) (fun _ _ _ h => h) (Or.inl ⟨by rfl, ?_⟩) hHeld ?_ ?_
 rotate_left
 ·rintro w' ⟨s3, s4⟩
  go_simp
  with_reducible rfl
 rotate_left
 ·simp only [Act.put, List.setIfInBounds_toArray, List.set_cons_zero, List.set_cons_succ]
  rfl
 refine pure_ (i := 13) (N := (some 17)) (v := ?_) (a' := ?_) #[true, true, true, true, true, true, true, true, true, true, true, true, true, true, false, false, false, false, false] rfl rfl (by kernel_rfl) (fun _ _ _ h => h) (Or.inl ⟨by rfl, ?_⟩) ?_ ?_
 rotate_left
 ·intro w'
  go_simp
  with_reducible rfl
 rotate_left
 ·simp only [Act.put, List.setIfInBounds_toArray, List.set_cons_zero, List.set_cons_succ]
  rfl
 refine pure_ (i := 14) (N := (some 18)) (v := ?_) (a' := ?_) #[true, true, true, true, true, true, true, true, true, true, true, true, true, true, true, false, false, false, false] rfl rfl (by kernel_rfl) (fun _ _ _ h => h) (Or.inl ⟨by rfl, ?_⟩) ?_ ?_
 rotate_left
 ·intro w'
  go_simp
  with_reducible rfl
 rotate_left
 ·simp only [Act.put, List.setIfInBounds_toArray, List.set_cons_zero, List.set_cons_succ]
  rfl
 refine one_ (i := 15) (N := none) #[true, true, true, true, true, true, true, true, true, true, true, true, true, true, true, true, false, false, false] rfl rfl (by kernel_rfl) (by decide) (fun K hK => ?_)
 go_simp
 refine hK.out _ _ ⟨(far_cell (w := w.drew) (a := ⟨m, 2, none⟩) (p := ⟨n, 3, none⟩) hmn _).trans HS1.out.1, (far_cell (w := w.drew) (a := ⟨r, 3, none⟩) (p := ⟨n, 3, none⟩) hrn _).trans HS1.out.2⟩ (fun hHeld => ?_)
 clear hK K
 (try simp only [Act.put, List.setIfInBounds_toArray, List.set_cons_zero, List.set_cons_succ])
 refine pure_ (i := 16) (N := (some 19)) (v := ?_) (a' := ?_) #[true, true, true, true, true, true, true, true, true, true, true, true, true, true, true, true, true, false, false] rfl rfl (by kernel_rfl) (fun _ _ _ h => h) (Or.inl ⟨by rfl, ?_⟩) ?_ ?_
 rotate_left
 ·intro w'
  go_simp
  with_reducible rfl
 rotate_left
 ·simp only [Act.put, List.setIfInBounds_toArray, List.set_cons_zero, List.set_cons_succ]
  rfl
 refine pure_ (i := 17) (N := (some 20)) (v := ?_) (a' := ?_) #[true, true, true, true, true, true, true, true, true, true, true, true, true, true, true, true, true, true, false] rfl rfl (by kernel_rfl) (fun _ _ _ h => h) (Or.inl ⟨by rfl, ?_⟩) ?_ ?_
 rotate_left
 ·intro w'
  go_simp
  with_reducible rfl
 rotate_left
 ·simp only [Act.put, List.setIfInBounds_toArray, List.set_cons_zero, List.set_cons_succ]
  rfl
 refine last_ (i := 18) (N := none) #[true, true, true, true, true, true, true, true, true, true, true, true, true, true, true, true, true, true, true] rfl rfl (by kernel_rfl) (by decide) (fun K hK => ?_)
 go_simp
 refine hK.out _ _ ?_
 clear hK K
 (try simp only [Act.put, List.setIfInBounds_toArray, List.set_cons_zero, List.set_cons_succ])
 refine done_ (by kernel_rfl) ?_
 go_wp2
 obtain ⟨w2, hw2⟩ : ∃ w2, ((w.setCell ⟨n, 3, none⟩ (.pointer (some ⟨p, 0, none⟩))).setCell ⟨n, 4, none⟩ (.pointer (some ⟨r, 0, none⟩))).drew = w2 := ⟨_, rfl⟩
 rw [hw2] at HN2 HM2 HR2 HP2 ⊢
 have HW2 := Lib.hid (show added1 w n p r = w2 from hw2)
 clear n3 n4 nf3 nf4 hw2 hHeld
 obtain ⟨n0, n1, n2, n3, n4, nf0, nf1, nf2, nf3, nf4⟩ := nd_cells HN2.out
 obtain ⟨m0, m1, m2⟩ := mc_cells HM2.out
 obtain ⟨p0, p1, p2, p3, p4, pf0, pf1, pf2, pf3, pf4⟩ := nd_cells HP2.out
 obtain ⟨r0, r1, r2, r3, r4, rf0, rf1, rf2, rf3, rf4⟩ := nd_cells HR2.out
 have HS2 := Lib.hid (show w2.drew.cell? ⟨n, 3, none⟩ = some (.pointer (some ⟨p, 0, none⟩)) ∧ w2.drew.cell? ⟨m, 2, none⟩ = some (.pointer (some ⟨r, 0, none⟩)) from ⟨n3, m2⟩)
 clear n0 n1 n2 n3 n4 nf0 nf1 nf2 nf3 nf4 m0 m1 m2 p0 p1 p2 p3 pf0 pf1 pf2 pf3 r0 r1 r2 r4 rf0 rf1 rf2 rf4
 have hmp : m ≠ p := fun e => by
  have h1 := HM2.out
  rw [e, HP2.out] at h1
  injection h1 with h1
  injection h1 with _ h1
  exact absurd h1 (by decide)
 refine start_ (n := 16) (S := fun w' => w'.cell? ⟨n, 3, none⟩ = some (.pointer (some ⟨p, 0, none⟩)) ∧ w'.cell? ⟨m, 2, none⟩ = some (.pointer (some ⟨r, 0, none⟩))) (ds := [15]) #[false, false, false, false, false, false, false, false, false, false, false, false, false, false, false, false] (by kernel_rfl) rfl rfl HS2.out (fun hHeld => ?_)
 refine pure_ (i := 0) (N := (some 21)) (v := ?_) (a' := ?_) #[true, false, false, false, false, false, false, false, false, false, false, false, false, false, false, false] rfl rfl (by kernel_rfl) (fun _ _ _ h => h) (Or.inl ⟨by rfl, ?_⟩) ?_ ?_
 rotate_left
 ·intro w'
  go_simp
  with_reducible rfl
 rotate_left
 ·simp only [Act.put, List.setIfInBounds_toArray, List.set_cons_zero, List.set_cons_succ]
  rfl
 refine pure_ (i := 1) (N := (some 22)) (v := ?_) (a' := ?_) #[true, true, false, false, false, false, false, false, false, false, false, false, false, false, false, false] rfl rfl (by kernel_rfl) (fun _ _ _ h => h) (Or.inl ⟨by rfl, ?_⟩) ?_ ?_
 rotate_left
 ·intro w'
  go_simp
  with_reducible rfl
 rotate_left
 ·simp only [Act.put, List.setIfInBounds_toArray, List.set_cons_zero, List.set_cons_succ]
  rfl
 refine pure_ (i := 2) (N := (some 23)) (v := ?_) (a' := ?_) #[true, true, true, false, false, false, false, false, false, false, false, false, false, false, false, false] rfl rfl (by kernel_rfl) (fun _ _ _ h => h) (Or.inl ⟨by rfl, ?_⟩) ?_ ?_
 rotate_left
 ·intro w'
  go_simp
  with_reducible rfl
 rotate_left
 ·simp only [Act.put, List.setIfInBounds_toArray, List.set_cons_zero, List.set_cons_succ]
  rfl
 refine take_ (i := 3) (N := (some 24)) (v := ?_) (a' := ?_) #[true, true, true, true, false, false, false, false, false, false, false, false, false, false, false, false] rfl rfl (by kernel_rfl) (fun _ _ _ h => h) (Or.inl ⟨by rfl, ?_⟩) hHeld ?_ ?_
 rotate_left
 ·rintro w' ⟨s3, s4⟩
  go_simp
  with_reducible rfl
 rotate_left
 ·simp only [Act.put, List.setIfInBounds_toArray, List.set_cons_zero, List.set_cons_succ]
  rfl
 refine pure_ (i := 4) (N := (some 25)) (v := ?_) (a' := ?_) #[true, true, true, true, true, false, false, false, false, false, false, false, false, false, false, false] rfl rfl (by kernel_rfl) (fun _ _ _ h => h) (Or.inl ⟨by rfl, ?_⟩) ?_ ?_
 rotate_left
 ·intro w'
  go_simp
  with_reducible rfl
 rotate_left
 ·simp only [Act.put, List.setIfInBounds_toArray, List.set_cons_zero, List.set_cons_succ]
  rfl
 refine pure_ (i := 5) (N := (some 26)) (v := ?_) (a' := ?_) #[true, true, true, true, true, true, false, false, false, false, false, false, false, false, false, false] rfl rfl (by kernel_rfl) (fun _ _ _ h => h) (Or.inl ⟨by rfl, ?_⟩) ?_ ?_
 rotate_left
 ·intro w'
  go_simp
  with_reducible rfl
 rotate_left
 ·simp only [Act.put, List.setIfInBounds_toArray, List.set_cons_zero, List.set_cons_succ]
  rfl
 refine pure_ (i := 6) (N := (some 27)) (v := ?_) (a' := ?_) #[true, true, true, true, true, true, true, false, false, false, false, false, false, false, false, false] rfl rfl (by kernel_rfl) (fun _ _ _ h => h) (Or.inl ⟨by rfl, ?_⟩) ?_ ?_
 rotate_left
 ·intro w'
  go_simp
  with_reducible rfl
 rotate_left
 ·simp only [Act.put, List.setIfInBounds_toArray, List.set_cons_zero, List.set_cons_succ]
  rfl
 refine take_ (i := 7) (N := (some 28)) (v := ?_) (a' := ?_) #[true, true, true, true, true, true, true, true, false, false, false, false, false, false, false, false] rfl rfl (by kernel_rfl) (fun _ _ _ h => h) (Or.inl ⟨by rfl, ?_⟩) hHeld ?_ ?_
 rotate_left
 ·rintro w' ⟨s3, s4⟩
  go_simp
  with_reducible rfl
 rotate_left
 ·simp only [Act.put, List.setIfInBounds_toArray, List.set_cons_zero, List.set_cons_succ]
  rfl
 refine pure_ (i := 8) (N := (some 29)) (v := ?_) (a' := ?_) #[true, true, true, true, true, true, true, true, true, false, false, false, false, false, false, false] rfl rfl (by kernel_rfl) (fun _ _ _ h => h) (Or.inl ⟨by rfl, ?_⟩) ?_ ?_
 rotate_left
 ·intro w'
  go_simp
  with_reducible rfl
 rotate_left
 ·simp only [Act.put, List.setIfInBounds_toArray, List.set_cons_zero, List.set_cons_succ]
  rfl
 refine pure_ (i := 9) (N := (some 30)) (v := ?_) (a' := ?_) #[true, true, true, true, true, true, true, true, true, true, false, false, false, false, false, false] rfl rfl (by kernel_rfl) (fun _ _ _ h => h) (Or.inl ⟨by rfl, ?_⟩) ?_ ?_
 rotate_left
 ·intro w'
  go_simp
  with_reducible rfl
 rotate_left
 ·simp only [Act.put, List.setIfInBounds_toArray, List.set_cons_zero, List.set_cons_succ]
  rfl
 refine pure_ (i := 10) (N := (some 31)) (v := ?_) (a' := ?_) #[true, true, true, true, true, true, true, true, true, true, true, false, false, false, false, false] rfl rfl (by kernel_rfl) (fun _ _ _ h => h) (Or.inl ⟨by rfl, ?_⟩) ?_ ?_
 rotate_left
 ·intro w'
  go_simp
  with_reducible rfl
 rotate_left
 ·simp only [Act.put, List.setIfInBounds_toArray, List.set_cons_zero, List.set_cons_succ]
  rfl
 refine pure_ (i := 11) (N := (some 32)) (v := ?_) (a' := ?_) #[true, true, true, true, true, true, true, true, true, true, true, true, false, false, false, false] rfl rfl (by kernel_rfl) (fun _ _ _ h => h) (Or.inl ⟨by rfl, ?_⟩) ?_ ?_
 rotate_left
 ·intro w'
  go_simp
  with_reducible rfl
 rotate_left
 ·simp only [Act.put, List.setIfInBounds_toArray, List.set_cons_zero, List.set_cons_succ]
  rfl
 refine one_ (i := 12) (N := none) #[true, true, true, true, true, true, true, true, true, true, true, true, true, false, false, false] rfl rfl (by kernel_rfl) (by decide) (fun K hK => ?_)
 go_simp
 refine hK.out _ _ ⟨(far_cell (w := w2.drew) (a := ⟨n, 3, none⟩) (p := ⟨p, 4, none⟩) (Ne.symm hpn) _).trans HS2.out.1, (far_cell (w := w2.drew) (a := ⟨m, 2, none⟩) (p := ⟨p, 4, none⟩) hmp _).trans HS2.out.2⟩ (fun hHeld => ?_)
 clear hK K
 (try simp only [Act.put, List.setIfInBounds_toArray, List.set_cons_zero, List.set_cons_succ])
 refine pure_ (i := 13) (N := (some 33)) (v := ?_) (a' := ?_) #[true, true, true, true, true, true, true, true, true, true, true, true, true, true, false, false] rfl rfl (by kernel_rfl) (fun _ _ _ h => h) (Or.inl ⟨by rfl, ?_⟩) ?_ ?_
 rotate_left
 ·intro w'
  go_simp
  with_reducible rfl
 rotate_left
 ·simp only [Act.put, List.setIfInBounds_toArray, List.set_cons_zero, List.set_cons_succ]
  rfl
 refine pure_ (i := 14) (N := (some 34)) (v := ?_) (a' := ?_) #[true, true, true, true, true, true, true, true, true, true, true, true, true, true, true, false] rfl rfl (by kernel_rfl) (fun _ _ _ h => h) (Or.inl ⟨by rfl, ?_⟩) ?_ ?_
 rotate_left
 ·intro w'
  go_simp
  with_reducible rfl
 rotate_left
 ·simp only [Act.put, List.setIfInBounds_toArray, List.set_cons_zero, List.set_cons_succ]
  rfl
 refine last_ (i := 15) (N := none) #[true, true, true, true, true, true, true, true, true, true, true, true, true, true, true, true] rfl rfl (by kernel_rfl) (by decide) (fun K hK => ?_)
 go_simp
 refine hK.out _ _ ?_
 clear hK K
 (try simp only [Act.put, List.setIfInBounds_toArray, List.set_cons_zero, List.set_cons_succ])
 refine done_ (by kernel_rfl) ?_
 go_wp2
 go_end0
 exact ⟨rfl, by rw [HW2.out]⟩
open Go.RowKit Go.Proofs.YtbahnpdgaoedmaaGreatDoorW.PrintWords Go.Proofs.YtbahnpdgaoedmaaGreatDoorW.PrintLast Go.Proofs.YtbahnpdgaoedmaaGreatDoorW.PrintMore Go.Proofs.YtbahnpdgaoedmaaGreatDoor.PMemoryExact
set_option linter.unusedSimpArgs false
set_option linter.unusedVariables false
theorem rg_mem {N P : Nat → Nat} {r n : Nat} {a b : List Nat} (h : Rg N P r (a ++ n :: b)) : P n ∈ r :: a ∧ N n ∈ b ++ [r] := by
 obtain ⟨h1, h2⟩ := rg_split h
 obtain ⟨a', p, hp⟩ : ∃ a' p, r :: a = a' ++ [p] := ⟨(r :: a).dropLast, (r :: a).getLast (by simp), (List.dropLast_concat_getLast (by simp)).symm⟩
 obtain ⟨q, b', hq⟩ : ∃ q b', b ++ [r] = q :: b' := by
  cases b with
  | nil => exact ⟨r, [], rfl⟩
  | cons x b => exact ⟨x, b ++ [r], rfl⟩
 rw [hp] at h1
 rw [List.cons_append, hq] at h2
 rw [(ch_last a' p n h1).2, (ch_first h2).1, hp, hq]
 exact ⟨by simp, by simp⟩
theorem rg_ne {N P : Nat → Nat} {r n : Nat} {a b : List Nat} (h : Rg N P r (a ++ n :: b)) : n ≠ P n ∧ n ≠ N n ∧ n ≠ r ∧ n ∉ r :: (a ++ b) := by
 have hnd := h.1
 rw [List.nodup_cons, List.nodup_append] at hnd
 obtain ⟨h1, h2, h3, h4⟩ := hnd
 rw [List.nodup_cons] at h3
 have hr : n ≠ r := fun e => h1 (by rw [← e]; simp)
 have ha : n ∉ a := fun e => h4 n e n (by simp) rfl
 obtain ⟨hp, hq⟩ := rg_mem h
 refine ⟨fun e => ?_, fun e => ?_, hr, fun e => ?_⟩
 ·rw [← e] at hp
  rcases List.mem_cons.1 hp with h | h
  ·exact hr h
  ·exact ha h
 ·rw [← e] at hq
  rcases List.mem_append.1 hq with h | h
  ·exact h3.1 h
  ·exact hr (by simpa using h)
 ·rcases List.mem_cons.1 e with h | h
  ·exact hr h
  ·rcases List.mem_append.1 h with h | h
   ·exact ha h
   ·exact h3.1 h
/-- A ring of nodes that lies in a world. -/
structure RgAt (w : World) (r : Nat) (N P : Nat → Nat) (D : Nat → Ent) (l : List Nat) : Prop where
 ring : Rg N P r l
 nodes : ∀ x ∈ r :: l, w.heap[x]? = some (.cells (nd (D x) (P x) (N x)) 59 (0, 0))
theorem RgAt.step {w w' : World} {r : Nat} {N P : Nat → Nat} {D : Nat → Ent} {l : List Nat} (h : RgAt w r N P D l) (hk : ∀ x ∈ r :: l, w'.heap[x]? = w.heap[x]?) : RgAt w' r N P D l :=
 ⟨h.ring, fun x hx => (hk x hx).trans (h.nodes x hx)⟩
abbrev taken (w : World) (p q : Nat) : World := ((w.setCell ⟨p, 4, none⟩ (.pointer (some ⟨q, 0, none⟩))).setCell ⟨q, 3, none⟩ (.pointer (some ⟨p, 0, none⟩))).drew
theorem RgAt.take {w : World} {r n : Nat} {N P : Nat → Nat} {D : Nat → Ent} {a b : List Nat} (h : RgAt w r N P D (a ++ n :: b)) :
  RgAt (taken w (P n) (N n)) r (up N (P n) (N n)) (up P (N n) (P n)) D (a ++ b) ∧ (taken w (P n) (N n)).heap[n]? = some (.cells (nd (D n) (P n) (N n)) 59 (0, 0)) := by
 obtain ⟨h1, h2, h3, h4⟩ := rg_ne h.ring
 have hs := set_prev (set_next h.nodes (P n) (N n)) (N n) (P n)
 refine ⟨⟨rg_take h.ring, fun x hx => hs x ?_⟩, ?_⟩
 ·rcases List.mem_cons.1 hx with rfl | hx
  ·simp
  ·rcases List.mem_append.1 hx with hx | hx <;> simp [hx]
 ·have := hs n (by simp)
  rw [up_ne _ _ h1, up_ne _ _ h2] at this
  exact this
theorem RgAt.add {w : World} {r n : Nat} {x y : Value} {N P : Nat → Nat} {D : Nat → Ent} {l : List Nat} (h : RgAt w r N P D l) (hn : n ∉ r :: l) (hb : w.heap[n]? = some (.cells (nu (D n) x y) 59 (0, 0))) :
  RgAt (added2 (added1 w n (P r) r) n (P r) r) r (up (up N n r) (P r) n) (up (up P n (P r)) r n) D (l ++ [n]) := by
 have h2' : ∀ z ∈ n :: r :: l, (added1 w n (P r) r).heap[z]? = some (.cells (nd (D z) (up P n (P r) z) (up N n r z)) 59 (0, 0)) := by
  intro z hz
  rcases List.mem_cons.1 hz with rfl | hz
  ·rw [up_same, up_same]
   have := blk_set (blk_set hb 3 (.pointer (some ⟨P r, 0, none⟩))) 4 (.pointer (some ⟨r, 0, none⟩))
   have h2 : (((w.setCell ⟨z, 3, none⟩ (.pointer (some ⟨P r, 0, none⟩))).setCell ⟨z, 4, none⟩ (.pointer (some ⟨r, 0, none⟩))).drew).heap[z]? = some (.cells (nd (D z) (P r) r) 59 (0, 0)) := by simpa [World.drew] using this
   exact h2
  ·have hzn : z ≠ n := fun e => hn (e ▸ hz)
   rw [up_ne _ _ hzn, up_ne _ _ hzn]
   exact (far_two hzn _ _).trans (h.nodes z hz)
 have h3 := set_prev (set_next h2' (P r) n) r n
 refine ⟨rg_add h.ring hn, fun z hz => h3 z ?_⟩
 rcases List.mem_cons.1 hz with rfl | hz
 ·simp
 ·rcases List.mem_append.1 hz with hz | hz
  ·simp [hz]
  ·simp at hz; simp [hz]
/-- What else stands. -/
theorem taken_far {w : World} {p q k : Nat} (hp : k ≠ p) (hq : k ≠ q) : (taken w p q).heap[k]? = w.heap[k]? := by
 show ((w.setCell ⟨p, 4, none⟩ _).setCell ⟨q, 3, none⟩ _).heap[k]? = _
 rw [Below.heap_setCell _ _ _ _ hq, Below.heap_setCell _ _ _ _ hp]
theorem added_far {w : World} {n p r k : Nat} (hn : k ≠ n) (hp : k ≠ p) (hr : k ≠ r) : (added2 (added1 w n p r) n p r).heap[k]? = w.heap[k]? := by
 show (((added1 w n p r).setCell ⟨p, 4, none⟩ _).setCell ⟨r, 3, none⟩ _).heap[k]? = _
 rw [Below.heap_setCell _ _ _ _ hr, Below.heap_setCell _ _ _ _ hp, far_two hn]
theorem taken_ku {U : Nat → Prop} {w : World} {p q : Nat} (hp : U p) (hq : U q) : KU U w (taken w p q) := (((KU.refl U w).setCell (p := ⟨p, 4, none⟩) hp _).setCell (p := ⟨q, 3, none⟩) hq _).drew
theorem added_ku {U : Nat → Prop} {w : World} {n p r : Nat} (hn : U n) (hp : U p) (hr : U r) : KU U w (added2 (added1 w n p r) n p r) :=
 ((((((KU.refl U w).setCell (p := ⟨n, 3, none⟩) hn _).setCell (p := ⟨n, 4, none⟩) hn _).drew).setCell (p := ⟨p, 4, none⟩) hp _).setCell (p := ⟨r, 3, none⟩) hr _).drew
/-- The memory m lies in w; its blocks are in U. -/
structure MM (U : Nat → Prop) (w : World) (m room mp r : Nat) (N P : Nat → Nat) (D : Nat → Ent) (l : List Nat) (kv : List (Key × Nat)) : Prop where
 mem : w.heap[m]? = some (.cells (mc room mp r) 62 (0, 0))
 rg : RgAt w r N P D l
 map : MapIs w mp kv
 perm : kv.Perm (l.map fun n => ((D n).key, n))
 keys : (l.map fun n => (D n).key).Nodup
 base : U m ∧ U mp ∧ ∀ x ∈ r :: l, U x
theorem MM.mono {U V : Nat → Prop} {w : World} {m room mp r : Nat} {N P : Nat → Nat} {D : Nat → Ent} {l : List Nat} {kv : List (Key × Nat)} (h : MM U w m room mp r N P D l kv) (hi : ∀ k, k < w.heap.size → U k → V k) : MM V w m room mp r N P D l kv := by
 obtain ⟨es, cl, h2, _⟩ := h.map
 exact ⟨h.mem, h.rg, h.map, h.perm, h.keys, hi m (blk_lt h.mem) h.base.1, hi mp (blk_lt h2) h.base.2.1, fun x hx => hi x (blk_lt (h.rg.nodes x hx)) (h.base.2.2 x hx)⟩
theorem MM.m_ne {U : Nat → Prop} {w : World} {m room mp r : Nat} {N P : Nat → Nat} {D : Nat → Ent} {l : List Nat} {kv : List (Key × Nat)} (h : MM U w m room mp r N P D l kv) : ∀ x ∈ r :: l, m ≠ x ∧ mp ≠ x := by
 intro x hx
 have h1 := h.rg.nodes x hx
 refine ⟨fun e => ?_, fun e => ?_⟩
 ·have h2 := h.mem
  rw [e, h1] at h2
  injection h2 with h2
  injection h2 with _ h2
  exact absurd h2 (by decide)
 ·obtain ⟨es, cl, h2, _⟩ := h.map
  rw [e, h1] at h2
  injection h2 with h2
  cases h2
theorem MM.mp_m {U : Nat → Prop} {w : World} {m room mp r : Nat} {N P : Nat → Nat} {D : Nat → Ent} {l : List Nat} {kv : List (Key × Nat)} (h : MM U w m room mp r N P D l kv) : mp ≠ m := by
 intro e
 obtain ⟨es, cl, h2, _⟩ := h.map
 rw [e, h.mem] at h2
 injection h2 with h2
 cases h2
theorem MM.step {U : Nat → Prop} {w w' : World} {m room mp r : Nat} {N P : Nat → Nat} {D : Nat → Ent} {l : List Nat} {kv : List (Key × Nat)} (h : MM U w m room mp r N P D l kv) (hb : Below w.heap.size w w') : MM U w' m room mp r N P D l kv := by
 have hm := blk_lt h.mem
 obtain ⟨es, cl, h2, h3⟩ := h.map
 exact ⟨(hb.block m hm).trans h.mem, h.rg.step (fun x hx => hb.block x (blk_lt (h.rg.nodes x hx))), ⟨es, cl, (hb.block mp (blk_lt h2)).trans h2, h3⟩, h.perm, h.keys, h.base⟩
theorem rg_last {N P : Nat → Nat} {r : Nat} {l : List Nat} (h : Rg N P r l) : P r ∈ r :: l := by
 obtain ⟨a', p, hp⟩ : ∃ a' p, r :: l = a' ++ [p] := ⟨(r :: l).dropLast, (r :: l).getLast (by simp), (List.dropLast_concat_getLast (by simp)).symm⟩
 have h2 := h.2
 rw [hp] at h2
 rw [(ch_last a' p r h2).2, hp]
 simp
theorem rg_first {N P : Nat → Nat} {r : Nat} {l : List Nat} (h : Rg N P r l) : N r = (l ++ [r]).head (by simp) := by
 have h2 := h.2
 cases l with
 | nil => exact h2.1
 | cons x l => exact h2.1
theorem move_perm {α : Type} (a b : List α) (n : α) : (a ++ b ++ [n]).Perm (a ++ n :: b) := by
 rw [List.append_assoc]
 exact List.Perm.append_left a (List.perm_append_singleton n b)
/-- The ring without n: what take leaves. -/
structure MT (U : Nat → Prop) (w : World) (m room mp r n : Nat) (N P : Nat → Nat) (D : Nat → Ent) (l : List Nat) (kv : List (Key × Nat)) : Prop where
 mem : w.heap[m]? = some (.cells (mc room mp r) 62 (0, 0))
 rg : RgAt w r N P D l
 out : ∃ x y : Value, w.heap[n]? = some (.cells (nu (D n) x y) 59 (0, 0))
 nin : n ∉ r :: l
 map : MapIs w mp kv
 base : U m ∧ U mp ∧ (∀ x ∈ r :: l, U x) ∧ U n
/-- Nothing else has changed. -/
def Keep (mp : Nat) (S : List Nat) (w w' : World) : Prop := ∀ k, k ≠ mp → k ∉ S → w'.heap[k]? = w.heap[k]?
theorem MM.take {U : Nat → Prop} {w : World} {m room mp r n : Nat} {N P : Nat → Nat} {D : Nat → Ent} {a b : List Nat} {kv : List (Key × Nat)} (h : MM U w m room mp r N P D (a ++ n :: b) kv) :
  Calls Tryz.prog 44 #[.pointer (some ⟨m, 0, none⟩), .pointer (some ⟨n, 0, none⟩)] w fun e w' => e = .returned (.tuple #[]) ∧ KU U w w' ∧ Keep mp (r :: (a ++ n :: b)) w w' ∧ ∃ N' P', MT U w' m room mp r n N' P' D (a ++ b) kv := by
 obtain ⟨hp, hq⟩ := rg_mem h.rg.ring
 obtain ⟨h1, h2, h3, h4⟩ := rg_ne h.rg.ring
 have hpm : P n ∈ r :: (a ++ n :: b) := by
  rcases List.mem_cons.1 hp with e | e
  ·rw [e]; simp
  ·simp [e]
 have hqm : N n ∈ r :: (a ++ n :: b) := by
  rcases List.mem_append.1 hq with e | e
  ·simp [e]
  ·simp at e; rw [e]; simp
 have hnm : n ∈ r :: (a ++ n :: b) := by simp
 refine (take_any (m := m) (h.rg.nodes n hnm) (h.rg.nodes _ hpm) (h.rg.nodes _ hqm) h1).mono ?_
 rintro e w' ⟨he, rfl⟩
 obtain ⟨t1, t2⟩ := h.rg.take
 have hfar : ∀ k, (∀ x ∈ r :: (a ++ n :: b), k ≠ x) → (taken w (P n) (N n)).heap[k]? = w.heap[k]? := fun k hk => taken_far (hk _ hpm) (hk _ hqm)
 refine ⟨he, taken_ku (h.base.2.2 _ hpm) (h.base.2.2 _ hqm), fun k _ hk => hfar k (fun x hx e => hk (e ▸ hx)), _, _, (hfar m (fun x hx => (h.m_ne x hx).1)).trans h.mem, t1, ⟨_, _, t2⟩, h4, h.map.step (hfar mp (fun x hx => (h.m_ne x hx).2)), h.base.1, h.base.2.1, fun x hx => h.base.2.2 x ?_, h.base.2.2 n hnm⟩
 rcases List.mem_cons.1 hx with e | e
 ·rw [e]; simp
 ·rcases List.mem_append.1 e with e | e <;> simp [e]
theorem MT.add {U : Nat → Prop} {w : World} {m room mp r n : Nat} {N P : Nat → Nat} {D : Nat → Ent} {l : List Nat} {kv : List (Key × Nat)} (h : MT U w m room mp r n N P D l kv) (hperm : kv.Perm ((l ++ [n]).map fun n => ((D n).key, n))) (hkeys : ((l ++ [n]).map fun n => (D n).key).Nodup) :
  Calls Tryz.prog 40 #[.pointer (some ⟨m, 0, none⟩), .pointer (some ⟨n, 0, none⟩)] w fun e w' => e = .returned (.tuple #[]) ∧ KU U w w' ∧ ∃ N' P', MM U w' m room mp r N' P' D (l ++ [n]) kv := by
 obtain ⟨x, y, ho⟩ := h.out
 have hpm := rg_last h.rg.ring
 have hrm : r ∈ r :: l := by simp
 have hrn : r ≠ n := fun e => h.nin (by rw [← e]; simp)
 have hpn : P r ≠ n := fun e => h.nin (by rw [← e]; exact hpm)
 refine (add_any h.mem ho (h.rg.nodes r hrm) (h.rg.nodes _ hpm) hrn hpn).mono ?_
 rintro e w' ⟨he, rfl⟩
 have hm59 : ∀ {k : Nat} {c : Array Value}, w.heap[k]? = some (.cells c 59 (0, 0)) → m ≠ k ∧ mp ≠ k := fun {k c} hk => by
  refine ⟨fun e => ?_, fun e => ?_⟩
  ·have h2 := h.mem
   rw [e, hk] at h2
   injection h2 with h2
   injection h2 with _ h2
   exact absurd h2 (by decide)
  ·obtain ⟨es, cl, h2, _⟩ := h.map
   rw [e, hk] at h2
   injection h2 with h2
   cases h2
 have f1 := hm59 ho
 have f2 := hm59 (h.rg.nodes _ hpm)
 have f3 := hm59 (h.rg.nodes r hrm)
 refine ⟨he, added_ku h.base.2.2.2 (h.base.2.2.1 _ hpm) (h.base.2.2.1 r hrm), _, _, (added_far f1.1 f2.1 f3.1).trans h.mem, h.rg.add h.nin ho, h.map.step (added_far f1.2 f2.2 f3.2), hperm, hkeys, h.base.1, h.base.2.1, fun z hz => ?_⟩
 rcases List.mem_cons.1 hz with e | e
 ·rw [e]; exact h.base.2.2.1 r hrm
 ·rcases List.mem_append.1 e with e | e
  ·exact h.base.2.2.1 z (List.mem_cons_of_mem _ e)
  ·simp at e; rw [e]; exact h.base.2.2.2
set_option maxRecDepth 1000000 in
set_option maxHeartbeats 4000000 in
/-- use -/
theorem MM.use {U : Nat → Prop} {w : World} {m room mp r n : Nat} {N P : Nat → Nat} {D : Nat → Ent} {a b : List Nat} {kv : List (Key × Nat)} (h : MM U w m room mp r N P D (a ++ n :: b) kv) :
  Calls Tryz.prog 29 #[.pointer (some ⟨m, 0, none⟩), .pointer (some ⟨n, 0, none⟩)] w fun e w' => e = .returned (.tuple #[]) ∧ KU U w w' ∧ ∃ N' P', MM U w' m room mp r N' P' D (a ++ b ++ [n]) kv := by
 have HT := Lib.hid h.take
 have HP := Lib.hid (h.perm.trans ((move_perm a b n).symm.map _))
 have HK := Lib.hid (((move_perm a b n).map (fun n => (D n).key)).nodup_iff.2 h.keys)
 clear h
 go_enter Tryz.func29, Tryz.ntmps29
 go_wp2_with fail
 refine HT.out.mono ?_
 rintro e w3 ⟨rfl, hb3, -, N3, P3, ht3⟩
 have HB3 := Lib.hid hb3
 have HA := Lib.hid (ht3.add HP.out HK.out)
 clear hb3 ht3
 go_wp2_with fail
 refine HA.out.mono ?_
 rintro e w4 ⟨rfl, hb4, N4, P4, hm4⟩
 have HB4 := Lib.hid (HB3.out.trans hb4)
 have HM4 := Lib.hid hm4
 clear hb4 hm4
 go_wp2
 go_end0
 exact ⟨rfl, HB4.out, N4, P4, HM4.out⟩
theorem atK_some : ∀ {kv : List (Key × Nat)} {k : Key} {n : Nat}, (k, n) ∈ kv → (kv.map (·.1)).Nodup → ∃ i, atK kv k = some (i, n) ∧ kv.Perm ((k, n) :: kv.eraseIdx i)
 | p :: r, k, n, h, hn => by
  simp only [List.map_cons, List.nodup_cons] at hn
  rcases List.mem_cons.1 h with e | e
  ·subst e
   exact ⟨0, by simp [atK], by simp⟩
  ·have hne : p.1 ≠ k := fun e2 => hn.1 (by rw [e2]; exact List.mem_map_of_mem (f := fun p : Key × Nat => p.1) e)
   obtain ⟨i, h1, h2⟩ := atK_some e hn.2
   refine ⟨i + 1, by simp [atK, hne, h1], ?_⟩
   rw [List.eraseIdx_cons_succ]
   exact (List.Perm.cons p h2).trans (List.Perm.swap _ _ _)
theorem atK_none : ∀ {kv : List (Key × Nat)} {k : Key}, k ∉ kv.map (·.1) → atK kv k = none
 | [], _, _ => rfl
 | p :: r, k, h => by
  simp only [List.map_cons, List.mem_cons, not_or] at h
  simp [atK, Ne.symm h.1, atK_none h.2]
theorem MM.kvkeys {U : Nat → Prop} {w : World} {m room mp r : Nat} {N P : Nat → Nat} {D : Nat → Ent} {l : List Nat} {kv : List (Key × Nat)} (h : MM U w m room mp r N P D l kv) : (kv.map (·.1)).Perm (l.map fun n => (D n).key) := by
 have := h.perm.map (fun p : Key × Nat => p.1)
 rwa [List.map_map] at this
theorem set_other {w : World} {b k : Nat} (o : Obj) (h : k ≠ b) : ({ w with heap := w.heap.setIfInBounds b o } : World).heap[k]? = w.heap[k]? := by
 show (w.heap.setIfInBounds b o)[k]? = _
 rw [Array.getElem?_setIfInBounds, if_neg (fun e => h e.symm)]
set_option maxRecDepth 1000000 in
set_option maxHeartbeats 4000000 in
theorem MM.remove {U : Nat → Prop} {w : World} {m room mp r n : Nat} {N P : Nat → Nat} {D : Nat → Ent} {a b : List Nat} {kv : List (Key × Nat)} (h : MM U w m room mp r N P D (a ++ n :: b) kv) :
  Calls Tryz.prog 34 #[.pointer (some ⟨m, 0, none⟩), .pointer (some ⟨n, 0, none⟩)] w fun e w' => e = .returned (.tuple #[]) ∧ KU U w w' ∧ Keep mp (r :: (a ++ n :: b)) w w' ∧ w.heap.size ≤ w'.heap.size ∧ ∃ N' P', MM U w' m room mp r N' P' D (a ++ b) (kv.eraseIdx (((atK kv (D n).key).map (·.1)).getD 0)) := by
 have HT := Lib.hid h.take
 have hkn : (kv.map (·.1)).Nodup := h.kvkeys.nodup_iff.2 h.keys
 have hmem : ((D n).key, n) ∈ kv := h.perm.mem_iff.2 (List.mem_map_of_mem (f := fun n => ((D n).key, n)) (show n ∈ a ++ n :: b by simp))
 obtain ⟨i, hi, hpi⟩ := atK_some hmem hkn
 have HI := Lib.hid hi
 have HP := Lib.hid (show (kv.eraseIdx i).Perm ((a ++ b).map fun n => ((D n).key, n)) by
  have h1 := hpi.symm.trans h.perm
  rw [List.map_append, List.map_cons] at h1
  have h2 := h1.trans List.perm_middle
  rw [← List.map_append] at h2
  exact List.perm_cons _ |>.1 h2)
 have HK := Lib.hid (show ((a ++ b).map fun n => (D n).key).Nodup from List.Nodup.sublist (List.Sublist.map _ (List.Sublist.append_left (List.sublist_cons_self _ _) _)) h.keys)
 clear h hkn hmem hi hpi
 go_enter Tryz.func34, Tryz.ntmps34
 go_wp2_with fail
 refine HT.out.mono ?_
 rintro e w3 ⟨rfl, hb3, hkp3, N3, P3, ht3⟩
 have HKP3 := Lib.hid hkp3
 have HB3 := Lib.hid hb3
 have HT3 := Lib.hid ht3
 obtain ⟨x, y, ho⟩ := ht3.out
 obtain ⟨m0, m1, m2⟩ := mc_cells ht3.mem
 have n0 : w3.cell? ⟨n, 0, none⟩ = some (.string (D n).lang) := blk_cell ho 0
 have n1 : w3.cell? ⟨n, 1, none⟩ = some (.string (D n).mean) := blk_cell ho 1
 obtain ⟨o, hdl, hmap⟩ := MapIs.delete (w := w3.drew) (show MapIs w3.drew mp kv from ht3.map) (D n).key i n HI.out 0
 have HFAR := Lib.hid (show ∀ k, k ≠ mp → ({ w3.drew with heap := w3.drew.heap.setIfInBounds mp o } : World).heap[k]? = w3.heap[k]? from fun k hk => set_other (w := w3.drew) o hk)
 have HBD := Lib.hid (show KU U w3 { w3.drew with heap := w3.drew.heap.setIfInBounds mp o } from ⟨rfl, rfl, rfl, by show w3.heap.size ≤ (w3.heap.setIfInBounds mp o).size; simp, fun k _ hu => set_other (w := w3.drew) o (fun e => hu (e ▸ ht3.base.2.1))⟩)
 have HMAP := Lib.hid hmap
 have HS := Lib.hid (show w3.drew.cell? ⟨m, 1, none⟩ = some (.map (some mp)) ∧ w3.drew.cell? ⟨n, 0, none⟩ = some (.string (D n).lang) ∧ w3.drew.cell? ⟨n, 1, none⟩ = some (.string (D n).mean) from ⟨m1, n0, n1⟩)
 generalize ({ w3.drew with heap := w3.drew.heap.setIfInBounds mp o } : World) = w5 at hdl HFAR HBD HMAP
 clear hb3 hkp3 ht3 ho m0 m1 m2 n0 n1 hmap
 go_wp2
 refine start_ (n := 9) (S := fun w' => w'.cell? ⟨m, 1, none⟩ = some (.map (some mp)) ∧ w'.cell? ⟨n, 0, none⟩ = some (.string (D n).lang) ∧ w'.cell? ⟨n, 1, none⟩ = some (.string (D n).mean)) (ds := [8]) #[false, false, false, false, false, false, false, false, false] (by kernel_rfl) rfl rfl HS.out (fun hHeld => ?_)
 refine pure_ (i := 0) (N := (some 7)) (v := ?_) (a' := ?_) #[true, false, false, false, false, false, false, false, false] rfl rfl (by kernel_rfl) (fun _ _ _ h => h) (Or.inl ⟨by rfl, ?_⟩) ?_ ?_
 rotate_left
 ·intro w'
  go_simp
  with_reducible rfl
 rotate_left
 ·simp only [Act.put, List.setIfInBounds_toArray, List.set_cons_zero, List.set_cons_succ]
  rfl
 refine pure_ (i := 1) (N := (some 8)) (v := ?_) (a' := ?_) #[true, true, false, false, false, false, false, false, false] rfl rfl (by kernel_rfl) (fun _ _ _ h => h) (Or.inl ⟨by rfl, ?_⟩) ?_ ?_
 rotate_left
 ·intro w'
  go_simp
  with_reducible rfl
 rotate_left
 ·simp only [Act.put, List.setIfInBounds_toArray, List.set_cons_zero, List.set_cons_succ]
  rfl
 refine pure_ (i := 2) (N := (some 9)) (v := ?_) (a' := ?_) #[true, true, true, false, false, false, false, false, false] rfl rfl (by kernel_rfl) (fun _ _ _ h => h) (Or.inl ⟨by rfl, ?_⟩) ?_ ?_
 rotate_left
 ·intro w'
  go_simp
  with_reducible rfl
 rotate_left
 ·simp only [Act.put, List.setIfInBounds_toArray, List.set_cons_zero, List.set_cons_succ]
  rfl
 refine take_ (i := 3) (N := (some 10)) (v := ?_) (a' := ?_) #[true, true, true, true, false, false, false, false, false] rfl rfl (by kernel_rfl) (fun _ _ _ h => h) (Or.inl ⟨by rfl, ?_⟩) hHeld ?_ ?_
 rotate_left
 ·rintro w' ⟨s1, s2, s3⟩
  go_simp
  with_reducible rfl
 rotate_left
 ·simp only [Act.put, List.setIfInBounds_toArray, List.set_cons_zero, List.set_cons_succ]
  rfl
 refine pure_ (i := 4) (N := (some 11)) (v := ?_) (a' := ?_) #[true, true, true, true, true, false, false, false, false] rfl rfl (by kernel_rfl) (fun _ _ _ h => h) (Or.inl ⟨by rfl, ?_⟩) ?_ ?_
 rotate_left
 ·intro w'
  go_simp
  with_reducible rfl
 rotate_left
 ·simp only [Act.put, List.setIfInBounds_toArray, List.set_cons_zero, List.set_cons_succ]
  rfl
 refine pure_ (i := 5) (N := (some 12)) (v := ?_) (a' := ?_) #[true, true, true, true, true, true, false, false, false] rfl rfl (by kernel_rfl) (fun _ _ _ h => h) (Or.inl ⟨by rfl, ?_⟩) ?_ ?_
 rotate_left
 ·intro w'
  go_simp
  with_reducible rfl
 rotate_left
 ·simp only [Act.put, List.setIfInBounds_toArray, List.set_cons_zero, List.set_cons_succ]
  rfl
 refine pure_ (i := 6) (N := (some 13)) (v := ?_) (a' := ?_) #[true, true, true, true, true, true, true, false, false] rfl rfl (by kernel_rfl) (fun _ _ _ h => h) (Or.inl ⟨by rfl, ?_⟩) ?_ ?_
 rotate_left
 ·intro w'
  go_simp
  with_reducible rfl
 rotate_left
 ·simp only [Act.put, List.setIfInBounds_toArray, List.set_cons_zero, List.set_cons_succ]
  rfl
 refine take_ (i := 7) (N := (some 14)) (v := ?_) (a' := ?_) #[true, true, true, true, true, true, true, true, false] rfl rfl (by kernel_rfl) (fun _ _ _ h => h) (Or.inl ⟨by rfl, ?_⟩) hHeld ?_ ?_
 rotate_left
 ·rintro w' ⟨s1, s2, s3⟩
  go_simp
  with_reducible rfl
 rotate_left
 ·simp only [Act.put, List.setIfInBounds_toArray, List.set_cons_zero, List.set_cons_succ]
  rfl
 refine last_ (i := 8) (N := none) #[true, true, true, true, true, true, true, true, true] rfl rfl (by kernel_rfl) (by decide) (fun K hK => ?_)
 have hdl2 : (Builtin.delete_ #[60, 57] 0 #[.map (some mp), .agg #[.string (D n).lang, .string (D n).mean]]).run Tryz.prog w3.drew = .ok (.tuple #[]) w5 := hdl
 go_simp
 refine hK.out _ _ ?_
 clear hK K
 (try simp only [Act.put, List.setIfInBounds_toArray, List.set_cons_zero, List.set_cons_succ])
 refine done_ (by kernel_rfl) ?_
 go_wp2
 go_end0
 have ht := HT3.out
 have hne : ∀ z ∈ r :: (a ++ b), mp ≠ z := fun z hz e => by
  obtain ⟨es, cl, h2, _⟩ := ht.map
  rw [e, ht.rg.nodes z hz] at h2
  injection h2 with h2
  cases h2
 have hmm : m ≠ mp := fun e => by
  obtain ⟨es, cl, h2, _⟩ := ht.map
  rw [← e, ht.mem] at h2
  injection h2 with h2
  cases h2
 refine ⟨rfl, HB3.out.trans HBD.out, fun k hk hkS => (HFAR.out k hk).trans (HKP3.out k hk hkS), Nat.le_trans HB3.out.size HBD.out.size, N3, P3, ?_⟩
 rw [HI.out]
 exact ⟨(HFAR.out m hmm).trans ht.mem, ht.rg.step (fun z hz => HFAR.out z (Ne.symm (hne z hz))), HMAP.out, HP.out, HK.out, ht.base.1, ht.base.2.1, ht.base.2.2.1⟩
/-- n's text is another one. -/
def reText (D : Nat → Ent) (n : Nat) (t : ByteArray) : Nat → Ent := fun z => if z = n then ⟨(D n).lang, (D n).mean, t⟩ else D z
theorem reText_key (D : Nat → Ent) (n : Nat) (t : ByteArray) (z : Nat) : (reText D n t z).key = (D z).key := by
 unfold reText
 by_cases h : z = n
 ·subst h; simp [Ent.key]
 ·simp [h]
theorem MM.text {U : Nat → Prop} {w : World} {m room mp r n : Nat} {N P : Nat → Nat} {D : Nat → Ent} {l : List Nat} {kv : List (Key × Nat)} (h : MM U w m room mp r N P D l kv) (hn : n ∈ l) (t : ByteArray) :
  MM U (w.setCell ⟨n, 2, none⟩ (.string t)) m room mp r N P (reText D n t) l kv := by
 have hnr : n ∈ r :: l := List.mem_cons_of_mem _ hn
 have hne := h.m_ne n hnr
 have hk : (fun z => ((reText D n t z).key, z)) = fun z => ((D z).key, z) := by funext z; rw [reText_key]
 have hk2 : (fun z => (reText D n t z).key) = fun z => (D z).key := by funext z; rw [reText_key]
 refine ⟨(Below.heap_setCell _ _ _ _ hne.1).trans h.mem, ⟨h.rg.ring, fun x hx => ?_⟩, h.map.step (Below.heap_setCell _ _ _ _ hne.2), by rw [hk]; exact h.perm, by rw [hk2]; exact h.keys, h.base⟩
 by_cases e : x = n
 ·subst e
  have := blk_set (h.rg.nodes x hx) 2 (.string t)
  unfold reText
  simpa using this
 ·rw [Below.heap_setCell _ _ _ _ e]
  unfold reText
  rw [if_neg e]
  exact h.rg.nodes x hx
theorem key_two (w : World) (k : Key) : (w.alloc (.cells #[.string k.1, .string k.2] 57)).heap[w.heap.size]? = some (.cells #[.string k.1, .string k.2] 57 (0, 0)) ∧ Below w.heap.size w (w.alloc (.cells #[.string k.1, .string k.2] 57)) := ⟨blk_new w _, (Below.refl _ _).alloc (Nat.le_refl _) _⟩
theorem store_old {es : List Ent} {a b : List Ent} {e : Ent} {k : Key} {t : ByteArray} {room : Nat} (hes : es = a ++ e :: b) (hk : e.key = k) (hn : (es.map Ent.key).Nodup) : mStore room es k t = a ++ b ++ [⟨k.1, k.2, t⟩] := by
 have hh : hasK es k = true := hasK_iff.2 ⟨e, by rw [hes]; simp, hk⟩
 unfold mStore
 rw [if_pos hh, outK_split hn hes hk]
set_option maxRecDepth 1000000 in
set_option maxHeartbeats 4000000 in
theorem MM.store_found {U : Nat → Prop} {w : World} {m room mp r i n : Nat} {N P : Nat → Nat} {D : Nat → Ent} {l : List Nat} {kv : List (Key × Nat)} (h : MM U w m room mp r N P D l kv) (k : Key) (t : ByteArray) (hat : atK kv k = some (i, n)) (hnl : n ∈ l) (hkn : (D n).key = k) :
  Calls Tryz.prog 26 #[.pointer (some ⟨m, 0, none⟩), .agg #[.string k.1, .string k.2], .string t] w fun e w' => e = .returned (.tuple #[]) ∧ KU U w w' ∧ ∃ N' P' D' l' kv', MM U w' m room mp r N' P' D' l' kv' ∧ l'.map D' = mStore room (l.map D) k t := by
 obtain ⟨a, b, hl⟩ := List.append_of_mem hnl
 have HKB := Lib.hid (key_two w k)
 have HB1 := Lib.hid (show KU U w (w.alloc (.cells #[.string k.1, .string k.2] 57)) from KU.of HKB.out.2)
 have HM1 := Lib.hid (h.step HKB.out.2)
 have HAT := Lib.hid hat
 have HES := Lib.hid (show (a ++ b ++ [n]).map (reText D n t) = mStore room (l.map D) k t by
  have hnd : (l.map D).map Ent.key = l.map fun n => (D n).key := by rw [List.map_map]; rfl
  rw [store_old (es := l.map D) (a := a.map D) (b := b.map D) (e := D n) (by rw [hl]; simp) hkn (by rw [hnd]; exact h.keys)]
  have hring := h.rg.ring.1
  rw [hl, List.nodup_cons, List.nodup_append] at hring
  have hb := hring.2.2.1
  rw [List.nodup_cons] at hb
  have h1 : ∀ z ∈ a, reText D n t z = D z := fun z hz => if_neg (fun (e : z = n) => hring.2.2.2 z hz n (by simp) e)
  have h2 : ∀ z ∈ b, reText D n t z = D z := fun z hz => if_neg (fun (e : z = n) => hb.1 (e ▸ hz))
  rw [List.map_append, List.map_append, List.map_congr_left h1, List.map_congr_left h2]
  simp only [List.map_cons, List.map_nil, reText, if_true]
  rw [← hkn]
  rfl)
 have HL := Lib.hid hl
 clear h hat hnl hkn hl
 go_enter Tryz.func26, Tryz.ntmps26
 go_wp2
 obtain ⟨w1, hw1⟩ : ∃ w1, w.alloc (.cells #[.string k.1, .string k.2] 57) = w1 := ⟨_, rfl⟩
 rw [hw1] at HKB HM1 HB1 ⊢
 have hM := HM1.out
 obtain ⟨m0, m1, m2⟩ := mc_cells hM.mem
 have kk0 : w1.cell? ⟨w.heap.size, 0, none⟩ = some (.string k.1) := blk_cell HKB.out.1 0
 have kk1 : w1.cell? ⟨w.heap.size, 1, none⟩ = some (.string k.2) := blk_cell HKB.out.1 1
 have HS := Lib.hid (show w1.drew.cell? ⟨m, 1, none⟩ = some (.map (some mp)) ∧ w1.drew.cell? ⟨w.heap.size, 0, none⟩ = some (.string k.1) ∧ w1.drew.cell? ⟨w.heap.size, 1, none⟩ = some (.string k.2) ∧ MapIs w1.drew mp kv from ⟨m1, kk0, kk1, hM.map⟩)
 have hnl1 : n ∈ l := by rw [HL.out]; simp
 obtain ⟨n0, n1, n2, n3, n4, nf0, nf1, nf2, nf3, nf4⟩ := nd_cells (hM.rg.nodes n (List.mem_cons_of_mem _ hnl1))
 have HT := Lib.hid (hM.text hnl1 t)
 clear hM m0 m1 m2 kk0 kk1 hw1 hnl1 n0 n1 n3 n4 nf0 nf1 nf3 nf4
 refine start_ (n := 11) (S := fun w' => w'.cell? ⟨m, 1, none⟩ = some (.map (some mp)) ∧ w'.cell? ⟨w.heap.size, 0, none⟩ = some (.string k.1) ∧ w'.cell? ⟨w.heap.size, 1, none⟩ = some (.string k.2) ∧ MapIs w' mp kv) (ds := []) #[false, false, false, false, false, false, false, false, false, false, false] (by kernel_rfl) rfl rfl HS.out (fun hHeld => ?_)
 refine pure_ (i := 0) (N := (some 10)) (v := ?_) (a' := ?_) #[true, false, false, false, false, false, false, false, false, false, false] rfl rfl (by kernel_rfl) (fun _ _ _ h => h) (Or.inl ⟨by rfl, ?_⟩) ?_ ?_
 rotate_left
 ·intro w'
  go_simp
  with_reducible rfl
 rotate_left
 ·simp only [Act.put, List.setIfInBounds_toArray, List.set_cons_zero, List.set_cons_succ]
  rfl
 refine pure_ (i := 1) (N := (some 11)) (v := ?_) (a' := ?_) #[true, true, false, false, false, false, false, false, false, false, false] rfl rfl (by kernel_rfl) (fun _ _ _ h => h) (Or.inl ⟨by rfl, ?_⟩) ?_ ?_
 rotate_left
 ·intro w'
  go_simp
  with_reducible rfl
 rotate_left
 ·simp only [Act.put, List.setIfInBounds_toArray, List.set_cons_zero, List.set_cons_succ]
  rfl
 refine pure_ (i := 2) (N := (some 12)) (v := ?_) (a' := ?_) #[true, true, true, false, false, false, false, false, false, false, false] rfl rfl (by kernel_rfl) (fun _ _ _ h => h) (Or.inl ⟨by rfl, ?_⟩) ?_ ?_
 rotate_left
 ·intro w'
  go_simp
  with_reducible rfl
 rotate_left
 ·simp only [Act.put, List.setIfInBounds_toArray, List.set_cons_zero, List.set_cons_succ]
  rfl
 refine take_ (i := 3) (N := (some 13)) (v := ?_) (a' := ?_) #[true, true, true, true, false, false, false, false, false, false, false] rfl rfl (by kernel_rfl) (fun _ _ _ h => h) (Or.inl ⟨by rfl, ?_⟩) hHeld ?_ ?_
 rotate_left
 ·rintro w' ⟨s1, s2, s3, s4⟩
  clear s4
  go_simp
  with_reducible rfl
 rotate_left
 ·simp only [Act.put, List.setIfInBounds_toArray, List.set_cons_zero, List.set_cons_succ]
  rfl
 refine take_ (i := 4) (N := (some 14)) (v := ?_) (a' := ?_) #[true, true, true, true, true, false, false, false, false, false, false] rfl rfl (by kernel_rfl) (fun _ _ _ h => h) (Or.inl ⟨by rfl, ?_⟩) hHeld ?_ ?_
 rotate_left
 ·rintro w' ⟨s1, s2, s3, s4⟩
  clear s4
  go_simp
  with_reducible rfl
 rotate_left
 ·simp only [Act.put, List.setIfInBounds_toArray, List.set_cons_zero, List.set_cons_succ]
  rfl
 refine take_ (i := 5) (N := (some 15)) (v := ?_) (a' := ?_) #[true, true, true, true, true, true, false, false, false, false, false] rfl rfl (by kernel_rfl) (fun _ _ _ h => h) (Or.inl ⟨by rfl, ?_⟩) hHeld ?_ ?_
 rotate_left
 ·rintro w' ⟨s1, s2, s3, s4⟩
  have hl : (Instr.lookup 60 (.map (some mp)) (.agg #[.string k.1, .string k.2]) true).run Tryz.prog w' = .ok (.tuple #[.pointer (some ⟨n, 0, none⟩), .bool true]) w' := by have := s4.lookup k; rw [HAT.out] at this; exact this
  clear s4
  go_simp
  with_reducible rfl
 rotate_left
 ·simp only [Act.put, List.setIfInBounds_toArray, List.set_cons_zero, List.set_cons_succ]
  rfl
 refine pure_ (i := 6) (N := (some 9)) (v := ?_) (a' := ?_) #[true, true, true, true, true, true, true, false, false, false, false] rfl rfl (by kernel_rfl) (fun _ _ _ h => h) (Or.inl ⟨by rfl, ?_⟩) ?_ ?_
 rotate_left
 ·intro w'
  go_simp
  with_reducible rfl
 rotate_left
 ·simp only [Act.put, List.setIfInBounds_toArray, List.set_cons_zero, List.set_cons_succ]
  rfl
 refine pure_ (i := 7) (N := (some 16)) (v := ?_) (a' := ?_) #[true, true, true, true, true, true, true, true, false, false, false] rfl rfl (by kernel_rfl) (fun _ _ _ h => h) (Or.inl ⟨by rfl, ?_⟩) ?_ ?_
 rotate_left
 ·intro w'
  go_simp
  with_reducible rfl
 rotate_left
 ·simp only [Act.put, List.setIfInBounds_toArray, List.set_cons_zero, List.set_cons_succ]
  rfl
 refine pure_ (i := 8) (N := (some 17)) (v := ?_) (a' := ?_) #[true, true, true, true, true, true, true, true, true, false, false] rfl rfl (by kernel_rfl) (fun _ _ _ h => h) (Or.inl ⟨by rfl, ?_⟩) ?_ ?_
 rotate_left
 ·intro w'
  go_simp
  with_reducible rfl
 rotate_left
 ·simp only [Act.put, List.setIfInBounds_toArray, List.set_cons_zero, List.set_cons_succ]
  rfl
 refine pure_ (i := 9) (N := (some 6)) (v := ?_) (a' := ?_) #[true, true, true, true, true, true, true, true, true, true, false] rfl rfl (by kernel_rfl) (fun _ _ _ h => h) (Or.inl ⟨by rfl, ?_⟩) ?_ ?_
 rotate_left
 ·intro w'
  go_simp
  with_reducible rfl
 rotate_left
 ·simp only [Act.put, List.setIfInBounds_toArray, List.set_cons_zero, List.set_cons_succ]
  rfl
 refine pure_ (i := 10) (N := (some 7)) (v := ?_) (a' := ?_) #[true, true, true, true, true, true, true, true, true, true, true] rfl rfl (by kernel_rfl) (fun _ _ _ h => h) (Or.inl ⟨by rfl, ?_⟩) ?_ ?_
 rotate_left
 ·intro w'
  go_simp
  with_reducible rfl
 rotate_left
 ·simp only [Act.put, List.setIfInBounds_toArray, List.set_cons_zero, List.set_cons_succ]
  rfl
 refine done_ (by kernel_rfl) ?_
 clear hHeld
 have HU := Lib.hid (show MM U ((w1.setCell ⟨n, 2, none⟩ (.string t)).drew) m room mp r N P (reText D n t) (a ++ n :: b) kv by rw [← HL.out]; exact HT.out.step (Below.drew (Below.refl _ _)))
 have HBT := Lib.hid (show KU U w ((w1.setCell ⟨n, 2, none⟩ (.string t)).drew) from (HB1.out.setCell (p := ⟨n, 2, none⟩) (by have h1 := HM1.out.base.2.2 n (by rw [HL.out]; simp); exact h1) _).drew)
 have HUSE := Lib.hid HU.out.use
 go_wp2_with fail
 refine HUSE.out.mono ?_
 rintro e w4 ⟨rfl, hb4, N4, P4, hm4⟩
 have HM4 := Lib.hid hm4
 have HB4 := Lib.hid (HBT.out.trans hb4)
 clear hb4 hm4
 go_wp2
 refine bodyPost_ret (results_none rfl _ _ _) rfl ?_
 exact ⟨rfl, HB4.out, N4, P4, _, _, kv, HM4.out, HES.out⟩
end Go.Proofs.YtbahnpdgaoedmaaGreatDoor.Mm
