/- Part 16 of the proof of MemoryForms: Msn, Mpu, Mfi, Mlp, Mnw, Mfg, Mfh. -/
import Derived.Test.YtbahnpdgaoedmaaGreatDoorCO15
import Derived.Test.YtbahnpdgaoedmaaGreatDoorCO11
import Derived.LaidEqlPtr
namespace Go.Proofs.YtbahnpdgaoedmaaGreatDoor.Mm
open Go.RowKit Go.Proofs.YtbahnpdgaoedmaaGreatDoorW.PrintWords Go.Proofs.YtbahnpdgaoedmaaGreatDoorW.PrintLast Go.Proofs.YtbahnpdgaoedmaaGreatDoorW.PrintMore Go.Proofs.YtbahnpdgaoedmaaGreatDoor.PMemoryExact
set_option linter.unusedSimpArgs false
set_option linter.unusedVariables false
/-- D, with an entry at n. -/
def newEnt (D : Nat → Ent) (n : Nat) (e : Ent) : Nat → Ent := fun z => if z = n then e else D z
theorem newEnt_same (D : Nat → Ent) (n : Nat) (e : Ent) : newEnt D n e n = e := if_pos rfl
theorem newEnt_ne (D : Nat → Ent) {n z : Nat} (e : Ent) (h : z ≠ n) : newEnt D n e z = D z := if_neg h
/-- A new node is laid, and told to the map. -/
theorem MM.lay {U : Nat → Prop} {w w7 : World} {m room mp r : Nat} {N P : Nat → Nat} {D : Nat → Ent} {l : List Nat} {kv : List (Key × Nat)} (h : MM U w m room mp r N P D l kv) (hB : ∀ k, w.heap.size ≤ k → U k) (e : Ent) (hk : e.key ∉ l.map fun n => (D n).key)
  (hfar : ∀ k, k ≠ mp → w7.heap[k]? = (w.alloc (.cells (nu e (.pointer none) (.pointer none)) 59)).heap[k]?) (hmap : MapIs w7 mp (kv ++ [(e.key, w.heap.size)])) :
  Calls Tryz.prog 40 #[.pointer (some ⟨m, 0, none⟩), .pointer (some ⟨w.heap.size, 0, none⟩)] w7 fun en w' => en = .returned (.tuple #[]) ∧ KU U w7 w' ∧ ∃ N' P', MM U w' m room mp r N' P' (newEnt D w.heap.size e) (l ++ [w.heap.size]) (kv ++ [(e.key, w.heap.size)]) := by
 have hlt : ∀ x ∈ r :: l, x < w.heap.size := fun x hx => blk_lt (h.rg.nodes x hx)
 have hne : ∀ x ∈ r :: l, x ≠ w.heap.size := fun x hx => Nat.ne_of_lt (hlt x hx)
 have hml := blk_lt h.mem
 have hmpl : mp < w.heap.size := by
  obtain ⟨es, cl, h2, _⟩ := h.map
  exact blk_lt h2
 have hc1 : l.map (fun n => ((newEnt D w.heap.size e n).key, n)) = l.map fun n => ((D n).key, n) := List.map_congr_left (fun z hz => by rw [newEnt_ne D e (hne z (List.mem_cons_of_mem _ hz))])
 have hc2 : l.map (fun n => (newEnt D w.heap.size e n).key) = l.map fun n => (D n).key := List.map_congr_left (fun z hz => by rw [newEnt_ne D e (hne z (List.mem_cons_of_mem _ hz))])
 have hT : MT U w7 m room mp r w.heap.size N P (newEnt D w.heap.size e) l (kv ++ [(e.key, w.heap.size)]) := by
  refine ⟨(hfar m (Ne.symm h.mp_m)).trans ((Below.heap_alloc _ _ _ hml).trans h.mem), ⟨h.rg.ring, fun x hx => ?_⟩, ⟨.pointer none, .pointer none, ?_⟩, fun hx => hne _ hx rfl, hmap, h.base.1, h.base.2.1, h.base.2.2, hB _ (Nat.le_refl _)⟩
  ·rw [newEnt_ne D e (hne x hx)]
   exact (hfar x (Ne.symm (h.m_ne x hx).2)).trans ((Below.heap_alloc _ _ _ (hlt x hx)).trans (h.rg.nodes x hx))
  ·rw [newEnt_same]
   exact (hfar _ (Ne.symm (Nat.ne_of_lt hmpl))).trans (blk_new w _)
 refine hT.add ?_ ?_
 ·rw [List.map_append, hc1]
  refine List.Perm.append h.perm ?_
  simp [newEnt_same]
 ·rw [List.map_append, hc2, List.nodup_append]
  refine ⟨h.keys, by simp, ?_⟩
  intro x hx y hy hxy
  simp [newEnt_same] at hy
  exact hk (by rw [← hy, ← hxy]; exact hx)
theorem lay_map {w : World} {D : Nat → Ent} {l : List Nat} (h : ∀ x ∈ l, x < w.heap.size) (e : Ent) : (l ++ [w.heap.size]).map (newEnt D w.heap.size e) = l.map D ++ [e] := by
 rw [List.map_append, List.map_congr_left (fun z hz => newEnt_ne D e (Nat.ne_of_lt (h z hz)))]
 simp [newEnt_same]
set_option maxRecDepth 1000000 in
set_option maxHeartbeats 4000000 in
theorem MM.store_new {U : Nat → Prop} {w : World} {m room mp r : Nat} {N P : Nat → Nat} {D : Nat → Ent} {l : List Nat} {kv : List (Key × Nat)} (h : MM U w m room mp r N P D l kv) (hB : ∀ k, w.heap.size ≤ k → U k) (k : Key) (t : ByteArray) (hnk : k ∉ l.map fun n => (D n).key) (hroom : 1 ≤ room) (hr256 : room ≤ 256) (hlen : l.length ≤ room) :
  Calls Tryz.prog 26 #[.pointer (some ⟨m, 0, none⟩), .agg #[.string k.1, .string k.2], .string t] w fun e w' => e = .returned (.tuple #[]) ∧ KU U w w' ∧ ∃ N' P' D' l' kv', MM U w' m room mp r N' P' D' l' kv' ∧ l'.map D' = mStore room (l.map D) k t := by
 have HKB := Lib.hid (key_two w k)
 have HB1 := Lib.hid (show KU U w (w.alloc (.cells #[.string k.1, .string k.2] 57)) from KU.of HKB.out.2)
 have HM1 := Lib.hid (h.step HKB.out.2)
 have HAT := Lib.hid (show atK kv k = none from atK_none (fun e => hnk (h.kvkeys.mem_iff.1 e)))
 have HNK := Lib.hid hnk
 have HES := Lib.hid (show mStore room (l.map D) k t = (if l.length = room then (l.map D).tail else l.map D) ++ [⟨k.1, k.2, t⟩] by
  have hh : hasK (l.map D) k = false := hasK_not.2 (fun e he hek => by
   obtain ⟨n, hn, rfl⟩ := List.mem_map.1 he
   exact hnk (List.mem_map.2 ⟨n, hn, hek⟩))
  unfold mStore
  rw [hh, List.length_map]
  rfl)
 have HKL := Lib.hid (show kv.length = l.length by have := h.perm.length_eq; rwa [List.length_map] at this)
 have HBW := Lib.hid hB
 have HLEN := Lib.hid hlen
 have HROOM := Lib.hid hroom
 clear h hB hnk hlen hroom
 go_enter Tryz.func26, Tryz.ntmps26
 go_wp2
 obtain ⟨w1, hw1⟩ : ∃ w1, w.alloc (.cells #[.string k.1, .string k.2] 57) = w1 := ⟨_, rfl⟩
 rw [hw1] at HKB HM1 HB1 ⊢
 have hM := HM1.out
 obtain ⟨m0, m1, m2⟩ := mc_cells hM.mem
 have kk0 : w1.cell? ⟨w.heap.size, 0, none⟩ = some (.string k.1) := blk_cell HKB.out.1 0
 have kk1 : w1.cell? ⟨w.heap.size, 1, none⟩ = some (.string k.2) := blk_cell HKB.out.1 1
 have HS := Lib.hid (show w1.drew.cell? ⟨m, 1, none⟩ = some (.map (some mp)) ∧ w1.drew.cell? ⟨w.heap.size, 0, none⟩ = some (.string k.1) ∧ w1.drew.cell? ⟨w.heap.size, 1, none⟩ = some (.string k.2) ∧ MapIs w1.drew mp kv from ⟨m1, kk0, kk1, hM.map⟩)
 clear hM m0 m1 m2 kk0 kk1 hw1
 refine start_ (n := 11) (S := fun w' => w'.cell? ⟨m, 1, none⟩ = some (.map (some mp)) ∧ w'.cell? ⟨w.heap.size, 0, none⟩ = some (.string k.1) ∧ w'.cell? ⟨w.heap.size, 1, none⟩ = some (.string k.2) ∧ MapIs w' mp kv) (ds := []) #[false, false, false, false, false, false, false, false, false, false, false] (by kernel_rfl) rfl rfl HS.out (fun hHeld => ?_)
 refine pure_ (i := 0) (N := (some 10)) (v := ?_) (a' := ?_) #[true, false, false, false, false, false, false, false, false, false, false] rfl rfl (by kernel_rfl) (fun _ _ _ h => h) (Or.inl ⟨by rfl, ?_⟩) ?_ ?_
 rotate_left
 ·intro w'
  go_simp
  with_reducible rfl
 rotate_left
 ·simp only [Act.put, List.setIfInBounds_toArray, List.set_cons_zero, List.set_cons_succ]
  rfl
 refine pure_ (i := 1) (N := (some 11)) (v := ?_) (a' := ?_) #[true, true, false, false, false, false, false, false, false, false, false] rfl rfl (by kernel_rfl) (fun _ _ _ h => h) (Or.inl ⟨by rfl, ?_⟩) ?_ ?_
 rotate_left
 ·intro w'
  go_simp
  with_reducible rfl
 rotate_left
 ·simp only [Act.put, List.setIfInBounds_toArray, List.set_cons_zero, List.set_cons_succ]
  rfl
 refine pure_ (i := 2) (N := (some 12)) (v := ?_) (a' := ?_) #[true, true, true, false, false, false, false, false, false, false, false] rfl rfl (by kernel_rfl) (fun _ _ _ h => h) (Or.inl ⟨by rfl, ?_⟩) ?_ ?_
 rotate_left
 ·intro w'
  go_simp
  with_reducible rfl
 rotate_left
 ·simp only [Act.put, List.setIfInBounds_toArray, List.set_cons_zero, List.set_cons_succ]
  rfl
 refine take_ (i := 3) (N := (some 13)) (v := ?_) (a' := ?_) #[true, true, true, true, false, false, false, false, false, false, false] rfl rfl (by kernel_rfl) (fun _ _ _ h => h) (Or.inl ⟨by rfl, ?_⟩) hHeld ?_ ?_
 rotate_left
 ·rintro w' ⟨s1, s2, s3, s4⟩
  clear s4
  go_simp
  with_reducible rfl
 rotate_left
 ·simp only [Act.put, List.setIfInBounds_toArray, List.set_cons_zero, List.set_cons_succ]
  rfl
 refine take_ (i := 4) (N := (some 14)) (v := ?_) (a' := ?_) #[true, true, true, true, true, false, false, false, false, false, false] rfl rfl (by kernel_rfl) (fun _ _ _ h => h) (Or.inl ⟨by rfl, ?_⟩) hHeld ?_ ?_
 rotate_left
 ·rintro w' ⟨s1, s2, s3, s4⟩
  clear s4
  go_simp
  with_reducible rfl
 rotate_left
 ·simp only [Act.put, List.setIfInBounds_toArray, List.set_cons_zero, List.set_cons_succ]
  rfl
 refine take_ (i := 5) (N := (some 15)) (v := ?_) (a' := ?_) #[true, true, true, true, true, true, false, false, false, false, false] rfl rfl (by kernel_rfl) (fun _ _ _ h => h) (Or.inl ⟨by rfl, ?_⟩) hHeld ?_ ?_
 rotate_left
 ·rintro w' ⟨s1, s2, s3, s4⟩
  have hl : (Instr.lookup 60 (.map (some mp)) (.agg #[.string k.1, .string k.2]) true).run Tryz.prog w' = .ok (.tuple #[.pointer none, .bool false]) w' := by have := s4.lookup k; rw [HAT.out] at this; exact this
  clear s4
  go_simp
  with_reducible rfl
 rotate_left
 ·simp only [Act.put, List.setIfInBounds_toArray, List.set_cons_zero, List.set_cons_succ]
  rfl
 refine pure_ (i := 6) (N := (some 9)) (v := ?_) (a' := ?_) #[true, true, true, true, true, true, true, false, false, false, false] rfl rfl (by kernel_rfl) (fun _ _ _ h => h) (Or.inl ⟨by rfl, ?_⟩) ?_ ?_
 rotate_left
 ·intro w'
  go_simp
  with_reducible rfl
 rotate_left
 ·simp only [Act.put, List.setIfInBounds_toArray, List.set_cons_zero, List.set_cons_succ]
  rfl
 refine pure_ (i := 7) (N := (some 16)) (v := ?_) (a' := ?_) #[true, true, true, true, true, true, true, true, false, false, false] rfl rfl (by kernel_rfl) (fun _ _ _ h => h) (Or.inl ⟨by rfl, ?_⟩) ?_ ?_
 rotate_left
 ·intro w'
  go_simp
  with_reducible rfl
 rotate_left
 ·simp only [Act.put, List.setIfInBounds_toArray, List.set_cons_zero, List.set_cons_succ]
  rfl
 refine pure_ (i := 8) (N := (some 17)) (v := ?_) (a' := ?_) #[true, true, true, true, true, true, true, true, true, false, false] rfl rfl (by kernel_rfl) (fun _ _ _ h => h) (Or.inl ⟨by rfl, ?_⟩) ?_ ?_
 rotate_left
 ·intro w'
  go_simp
  with_reducible rfl
 rotate_left
 ·simp only [Act.put, List.setIfInBounds_toArray, List.set_cons_zero, List.set_cons_succ]
  rfl
 refine pure_ (i := 9) (N := (some 6)) (v := ?_) (a' := ?_) #[true, true, true, true, true, true, true, true, true, true, false] rfl rfl (by kernel_rfl) (fun _ _ _ h => h) (Or.inl ⟨by rfl, ?_⟩) ?_ ?_
 rotate_left
 ·intro w'
  go_simp
  with_reducible rfl
 rotate_left
 ·simp only [Act.put, List.setIfInBounds_toArray, List.set_cons_zero, List.set_cons_succ]
  rfl
 refine pure_ (i := 10) (N := (some 7)) (v := ?_) (a' := ?_) #[true, true, true, true, true, true, true, true, true, true, true] rfl rfl (by kernel_rfl) (fun _ _ _ h => h) (Or.inl ⟨by rfl, ?_⟩) ?_ ?_
 rotate_left
 ·intro w'
  go_simp
  with_reducible rfl
 rotate_left
 ·simp only [Act.put, List.setIfInBounds_toArray, List.set_cons_zero, List.set_cons_succ]
  rfl
 refine done_ (by kernel_rfl) ?_
 clear hHeld
 have HM2 := Lib.hid (HM1.out.step (w' := w1.drew) (Below.drew (Below.refl _ _)))
 have HK2 := Lib.hid (show w1.drew.heap[w.heap.size]? = some (.cells #[.string k.1, .string k.2] 57 (0, 0)) from HKB.out.1)
 have HB2 := Lib.hid (show KU U w w1.drew from HB1.out.drew)
 go_wp2
 generalize w1.drew = w2 at HM2 HK2 HB2 ⊢
 have hM := HM2.out
 obtain ⟨m0, m1, m2⟩ := mc_cells hM.mem
 have HS2 := Lib.hid (show w2.drew.cell? ⟨m, 0, none⟩ = some (.int .i64 room) ∧ w2.drew.cell? ⟨m, 1, none⟩ = some (.map (some mp)) ∧ MapIs w2.drew mp kv from ⟨m0, m1, hM.map⟩)
 clear hM m0 m1 m2
 refine start_ (n := 10) (S := fun w' => w'.cell? ⟨m, 0, none⟩ = some (.int .i64 room) ∧ w'.cell? ⟨m, 1, none⟩ = some (.map (some mp)) ∧ MapIs w' mp kv) (ds := []) #[false, false, false, false, false, false, false, false, false, false] (by kernel_rfl) rfl rfl HS2.out (fun hHeld => ?_)
 refine pure_ (i := 0) (N := (some 26)) (v := ?_) (a' := ?_) #[true, false, false, false, false, false, false, false, false, false] rfl rfl (by kernel_rfl) (fun _ _ _ h => h) (Or.inl ⟨by rfl, ?_⟩) ?_ ?_
 rotate_left
 ·intro w'
  go_simp
  with_reducible rfl
 rotate_left
 ·simp only [Act.put, List.setIfInBounds_toArray, List.set_cons_zero, List.set_cons_succ]
  rfl
 refine pure_ (i := 1) (N := (some 27)) (v := ?_) (a' := ?_) #[true, true, false, false, false, false, false, false, false, false] rfl rfl (by kernel_rfl) (fun _ _ _ h => h) (Or.inl ⟨by rfl, ?_⟩) ?_ ?_
 rotate_left
 ·intro w'
  go_simp
  with_reducible rfl
 rotate_left
 ·simp only [Act.put, List.setIfInBounds_toArray, List.set_cons_zero, List.set_cons_succ]
  rfl
 refine pure_ (i := 2) (N := (some 28)) (v := ?_) (a' := ?_) #[true, true, true, false, false, false, false, false, false, false] rfl rfl (by kernel_rfl) (fun _ _ _ h => h) (Or.inl ⟨by rfl, ?_⟩) ?_ ?_
 rotate_left
 ·intro w'
  go_simp
  with_reducible rfl
 rotate_left
 ·simp only [Act.put, List.setIfInBounds_toArray, List.set_cons_zero, List.set_cons_succ]
  rfl
 refine take_ (i := 3) (N := (some 29)) (v := ?_) (a' := ?_) #[true, true, true, true, false, false, false, false, false, false] rfl rfl (by kernel_rfl) (fun _ _ _ h => h) (Or.inl ⟨by rfl, ?_⟩) hHeld ?_ ?_
 rotate_left
 ·rintro w' ⟨s1, s2, s3⟩
  clear s3
  go_simp
  with_reducible rfl
 rotate_left
 ·simp only [Act.put, List.setIfInBounds_toArray, List.set_cons_zero, List.set_cons_succ]
  rfl
 refine take_ (i := 4) (N := (some 30)) (v := ?_) (a' := ?_) #[true, true, true, true, true, false, false, false, false, false] rfl rfl (by kernel_rfl) (fun _ _ _ h => h) (Or.inl ⟨by rfl, ?_⟩) hHeld ?_ ?_
 rotate_left
 ·rintro w' ⟨s1, s2, s3⟩
  have hln : (Builtin.len_ #[60] 3 #[.map (some mp)]).run Tryz.prog w' = .ok (.int .i64 kv.length) w' := s3.len 3
  clear s3
  go_simp
  with_reducible rfl
 rotate_left
 ·simp only [Act.put, List.setIfInBounds_toArray, List.set_cons_zero, List.set_cons_succ]
  rfl
 refine pure_ (i := 5) (N := (some 31)) (v := ?_) (a' := ?_) #[true, true, true, true, true, true, false, false, false, false] rfl rfl (by kernel_rfl) (fun _ _ _ h => h) (Or.inl ⟨by rfl, ?_⟩) ?_ ?_
 rotate_left
 ·intro w'
  go_simp
  with_reducible rfl
 rotate_left
 ·simp only [Act.put, List.setIfInBounds_toArray, List.set_cons_zero, List.set_cons_succ]
  rfl
 refine pure_ (i := 6) (N := (some 32)) (v := ?_) (a' := ?_) #[true, true, true, true, true, true, true, false, false, false] rfl rfl (by kernel_rfl) (fun _ _ _ h => h) (Or.inl ⟨by rfl, ?_⟩) ?_ ?_
 rotate_left
 ·intro w'
  go_simp
  with_reducible rfl
 rotate_left
 ·simp only [Act.put, List.setIfInBounds_toArray, List.set_cons_zero, List.set_cons_succ]
  rfl
 refine pure_ (i := 7) (N := (some 33)) (v := ?_) (a' := ?_) #[true, true, true, true, true, true, true, true, false, false] rfl rfl (by kernel_rfl) (fun _ _ _ h => h) (Or.inl ⟨by rfl, ?_⟩) ?_ ?_
 rotate_left
 ·intro w'
  go_simp
  with_reducible rfl
 rotate_left
 ·simp only [Act.put, List.setIfInBounds_toArray, List.set_cons_zero, List.set_cons_succ]
  rfl
 refine take_ (i := 8) (N := (some 34)) (v := ?_) (a' := ?_) #[true, true, true, true, true, true, true, true, true, false] rfl rfl (by kernel_rfl) (fun _ _ _ h => h) (Or.inl ⟨by rfl, ?_⟩) hHeld ?_ ?_
 rotate_left
 ·rintro w' ⟨s1, s2, s3⟩
  clear s3
  go_simp
  with_reducible rfl
 rotate_left
 ·simp only [Act.put, List.setIfInBounds_toArray, List.set_cons_zero, List.set_cons_succ]
  rfl
 refine pure_ (i := 9) (N := (some 35)) (v := ?_) (a' := ?_) #[true, true, true, true, true, true, true, true, true, true] rfl rfl (by kernel_rfl) (fun _ _ _ h => h) (Or.inl ⟨by rfl, ?_⟩) ?_ ?_
 rotate_left
 ·intro w'
  go_simp
  with_reducible rfl
 rotate_left
 ·simp only [Act.put, List.setIfInBounds_toArray, List.set_cons_zero, List.set_cons_succ]
  rfl
 refine done_ (by kernel_rfl) ?_
 clear hHeld
 have HM3 := Lib.hid (HM2.out.step (w' := w2.drew) (Below.drew (Below.refl _ _)))
 have HK3 := Lib.hid (show w2.drew.heap[w.heap.size]? = some (.cells #[.string k.1, .string k.2] 57 (0, 0)) from HK2.out)
 have HB3 := Lib.hid (show KU U w w2.drew from HB2.out.drew)
 by_cases hf : l.length = room
 ·cases l with
  | nil => exact absurd HROOM.out (by simp at hf; omega)
  | cons n b =>
   have g1 : ((kv.length : Int) == (room : Int)) = true := beq_iff_eq.mpr (by have := HKL.out; omega)
   have g2 : (kv.length == room) = true := beq_iff_eq.mpr (by have := HKL.out; omega)
   have HES2 := Lib.hid (show mStore room ((n :: b).map D) k t = b.map D ++ [⟨k.1, k.2, t⟩] by rw [HES.out, if_pos hf]; rfl)
   have HNK5 := Lib.hid (show k ∉ b.map fun n => (D n).key from fun e => HNK.out (by rw [List.map_cons]; exact List.mem_cons_of_mem _ e))
   clear hf
   generalize w2.drew = w4 at HM3 HK3 HB3 ⊢
   have hM := HM3.out
   have hfirst := rg_first hM.rg.ring
   have m2 : w4.cell? ⟨m, 2, none⟩ = some (.pointer (some ⟨r, 0, none⟩)) := blk_cell hM.mem 2
   have r4 : w4.cell? ⟨r, 4, none⟩ = some (.pointer (some ⟨n, 0, none⟩)) := by
    have := blk_cell (hM.rg.nodes r (by simp)) 4
    rw [this, hfirst]
    rfl
   have HREM := Lib.hid (MM.remove (a := []) (b := b) (n := n) hM)
   have HKN := Lib.hid (show w.heap.size ≠ mp ∧ w.heap.size ∉ r :: n :: b from ⟨(fun e => by
    obtain ⟨es, cl, h2, _⟩ := hM.map
    rw [← e, HK3.out] at h2
    injection h2 with h2
    cases h2), (fun e => by
    have h2 := hM.rg.nodes _ e
    rw [HK3.out] at h2
    injection h2 with h2
    injection h2 with _ h2
    exact absurd h2 (by decide))⟩)
   clear hM hfirst
   go_wp2_with fail
   refine HREM.out.mono ?_
   rintro e w5 ⟨rfl, hb5, hkp5, hsz5, N5, P5, hm5⟩
   obtain ⟨kv5, hkv5⟩ : ∃ kv5, kv.eraseIdx (((atK kv (D n).key).map (·.1)).getD 0) = kv5 := ⟨_, rfl⟩
   rw [hkv5, List.nil_append] at hm5
   have HM5 := Lib.hid hm5
   have HB5 := Lib.hid (HB3.out.trans hb5)
   have HK5 := Lib.hid ((hkp5 w.heap.size HKN.out.1 HKN.out.2).trans HK3.out)
   have HAT5 := Lib.hid (show atK kv5 k = none from atK_none (fun e => HNK5.out (hm5.kvkeys.mem_iff.1 e)))
   clear hb5 hkp5 hsz5 hm5 hkv5 m2 r4 g1 g2
   have hM5 := HM5.out
   have kk0 : w5.cell? ⟨w.heap.size, 0, none⟩ = some (.string k.1) := blk_cell HK5.out 0
   have kk1 : w5.cell? ⟨w.heap.size, 1, none⟩ = some (.string k.2) := blk_cell HK5.out 1
   have hBw5 : ∀ k, w5.heap.size ≤ k → U k := fun k hk => HBW.out k (by have h1 := blk_lt HK5.out; omega)
   have hlt5 : ∀ x ∈ r :: b, x < w5.heap.size := fun x hx => blk_lt (hM5.rg.nodes x hx)
   have HLT5 := Lib.hid (show ∀ x ∈ b, x < w5.heap.size from fun x hx => hlt5 x (List.mem_cons_of_mem _ hx))
   have HA6 := Lib.hid ((Below.refl w5.heap.size w5).alloc (Nat.le_refl _) (.cells #[.string k.1, .string k.2, .string t, .pointer none, .pointer none] 59))
   have hM6 := hM5.step HA6.out
   obtain ⟨m0, m1, m2⟩ := mc_cells hM6.mem
   have kk6 := blk_cell ((HA6.out.block _ (blk_lt HK5.out)).trans HK5.out) 0
   have kk7 := blk_cell ((HA6.out.block _ (blk_lt HK5.out)).trans HK5.out) 1
   obtain ⟨o, hup, hmp⟩ := MapIs.add (w := (w5.alloc (.cells #[.string k.1, .string k.2, .string t, .pointer none, .pointer none] 59)).drew) (show MapIs (w5.alloc (.cells #[.string k.1, .string k.2, .string t, .pointer none, .pointer none] 59)).drew mp (kv5) from hM6.map) k w5.heap.size HAT5.out
   have HFAR := Lib.hid (show ∀ j, j ≠ mp → ({ (w5.alloc (.cells #[.string k.1, .string k.2, .string t, .pointer none, .pointer none] 59)).drew with heap := (w5.alloc (.cells #[.string k.1, .string k.2, .string t, .pointer none, .pointer none] 59)).drew.heap.setIfInBounds mp o } : World).heap[j]? = (w5.alloc (.cells #[.string k.1, .string k.2, .string t, .pointer none, .pointer none] 59)).heap[j]? from fun j hj => set_other (w := (w5.alloc (.cells #[.string k.1, .string k.2, .string t, .pointer none, .pointer none] 59)).drew) o hj)
   have HBD := Lib.hid (show KU U w5 ({ (w5.alloc (.cells #[.string k.1, .string k.2, .string t, .pointer none, .pointer none] 59)).drew with heap := (w5.alloc (.cells #[.string k.1, .string k.2, .string t, .pointer none, .pointer none] 59)).drew.heap.setIfInBounds mp o } : World) from (KU.of HA6.out).trans ⟨rfl, rfl, rfl, by show (w5.alloc (.cells #[.string k.1, .string k.2, .string t, .pointer none, .pointer none] 59)).heap.size ≤ ((w5.alloc (.cells #[.string k.1, .string k.2, .string t, .pointer none, .pointer none] 59)).heap.setIfInBounds mp o).size; simp, fun j _ hu => set_other (w := (w5.alloc (.cells #[.string k.1, .string k.2, .string t, .pointer none, .pointer none] 59)).drew) o (fun e => hu (e ▸ hM5.base.2.1))⟩)
   have HLAY := Lib.hid (hM5.lay (w7 := ({ (w5.alloc (.cells #[.string k.1, .string k.2, .string t, .pointer none, .pointer none] 59)).drew with heap := (w5.alloc (.cells #[.string k.1, .string k.2, .string t, .pointer none, .pointer none] 59)).drew.heap.setIfInBounds mp o } : World)) hBw5 ⟨k.1, k.2, t⟩ (show k ∉ _ from HNK5.out) HFAR.out hmp)
   have HS5 := Lib.hid (show (w5.alloc (.cells #[.string k.1, .string k.2, .string t, .pointer none, .pointer none] 59)).drew.cell? ⟨m, 1, none⟩ = some (.map (some mp)) ∧ (w5.alloc (.cells #[.string k.1, .string k.2, .string t, .pointer none, .pointer none] 59)).drew.cell? ⟨w.heap.size, 0, none⟩ = some (.string k.1) ∧ (w5.alloc (.cells #[.string k.1, .string k.2, .string t, .pointer none, .pointer none] 59)).drew.cell? ⟨w.heap.size, 1, none⟩ = some (.string k.2) from ⟨m1, kk6, kk7⟩)
   generalize ({ (w5.alloc (.cells #[.string k.1, .string k.2, .string t, .pointer none, .pointer none] 59)).drew with heap := (w5.alloc (.cells #[.string k.1, .string k.2, .string t, .pointer none, .pointer none] 59)).drew.heap.setIfInBounds mp o } : World) = w7 at hup HFAR HBD HLAY
   have HUP := Lib.hid hup
   clear hM5 hM6 hlt5 m0 m1 m2 kk6 kk7 hmp hup
   go_wp2
   refine start_ (n := 7) (S := fun w' => w'.cell? ⟨m, 1, none⟩ = some (.map (some mp)) ∧ w'.cell? ⟨w.heap.size, 0, none⟩ = some (.string k.1) ∧ w'.cell? ⟨w.heap.size, 1, none⟩ = some (.string k.2)) (ds := [6]) #[false, false, false, false, false, false, false] (by kernel_rfl) rfl rfl HS5.out (fun hHeld => ?_)
   refine pure_ (i := 0) (N := (some 49)) (v := ?_) (a' := ?_) #[true, false, false, false, false, false, false] rfl rfl (by kernel_rfl) (fun _ _ _ h => h) (Or.inl ⟨by rfl, ?_⟩) ?_ ?_
   rotate_left
   ·intro w'
    go_simp
    with_reducible rfl
   rotate_left
   ·simp only [Act.put, List.setIfInBounds_toArray, List.set_cons_zero, List.set_cons_succ]
    rfl
   refine pure_ (i := 1) (N := (some 50)) (v := ?_) (a' := ?_) #[true, true, false, false, false, false, false] rfl rfl (by kernel_rfl) (fun _ _ _ h => h) (Or.inl ⟨by rfl, ?_⟩) ?_ ?_
   rotate_left
   ·intro w'
    go_simp
    with_reducible rfl
   rotate_left
   ·simp only [Act.put, List.setIfInBounds_toArray, List.set_cons_zero, List.set_cons_succ]
    rfl
   refine pure_ (i := 2) (N := (some 51)) (v := ?_) (a' := ?_) #[true, true, true, false, false, false, false] rfl rfl (by kernel_rfl) (fun _ _ _ h => h) (Or.inl ⟨by rfl, ?_⟩) ?_ ?_
   rotate_left
   ·intro w'
    go_simp
    with_reducible rfl
   rotate_left
   ·simp only [Act.put, List.setIfInBounds_toArray, List.set_cons_zero, List.set_cons_succ]
    rfl
   refine take_ (i := 3) (N := (some 52)) (v := ?_) (a' := ?_) #[true, true, true, true, false, false, false] rfl rfl (by kernel_rfl) (fun _ _ _ h => h) (Or.inl ⟨by rfl, ?_⟩) hHeld ?_ ?_
   rotate_left
   ·rintro w' ⟨s1, s2, s3⟩
    go_simp
    with_reducible rfl
   rotate_left
   ·simp only [Act.put, List.setIfInBounds_toArray, List.set_cons_zero, List.set_cons_succ]
    rfl
   refine take_ (i := 4) (N := (some 53)) (v := ?_) (a' := ?_) #[true, true, true, true, true, false, false] rfl rfl (by kernel_rfl) (fun _ _ _ h => h) (Or.inl ⟨by rfl, ?_⟩) hHeld ?_ ?_
   rotate_left
   ·rintro w' ⟨s1, s2, s3⟩
    go_simp
    with_reducible rfl
   rotate_left
   ·simp only [Act.put, List.setIfInBounds_toArray, List.set_cons_zero, List.set_cons_succ]
    rfl
   refine pure_ (i := 5) (N := (some 54)) (v := ?_) (a' := ?_) #[true, true, true, true, true, true, false] rfl rfl (by kernel_rfl) (fun _ _ _ h => h) (Or.inl ⟨by rfl, ?_⟩) ?_ ?_
   rotate_left
   ·intro w'
    go_simp
    with_reducible rfl
   rotate_left
   ·simp only [Act.put, List.setIfInBounds_toArray, List.set_cons_zero, List.set_cons_succ]
    rfl
   refine last_ (i := 6) (N := none) #[true, true, true, true, true, true, true] rfl rfl (by kernel_rfl) (by decide) (fun K hK => ?_)
   have hup2 : (Instr.mapUpdate 60 (.map (some mp)) (.agg #[.string k.1, .string k.2]) (.pointer (some ⟨w5.heap.size, 0, none⟩))).run Tryz.prog (w5.alloc (.cells #[.string k.1, .string k.2, .string t, .pointer none, .pointer none] 59)).drew = .ok () w7 := HUP.out
   go_simp
   refine hK.out _ _ ?_
   clear hK K
   (try simp only [Act.put, List.setIfInBounds_toArray, List.set_cons_zero, List.set_cons_succ])
   refine done_ (by kernel_rfl) ?_
   go_wp2_with fail
   refine HLAY.out.mono ?_
   rintro e w8 ⟨rfl, hb8, N8, P8, hm8⟩
   have HM8 := Lib.hid hm8
   have HB8 := Lib.hid ((HB5.out.trans HBD.out).trans hb8)
   clear hb8 hm8
   go_wp2
   go_end0
   exact ⟨rfl, HB8.out, N8, P8, _, _, _, HM8.out, by rw [lay_map HLT5.out, HES2.out]⟩
 ·have g1 : ((kv.length : Int) == (room : Int)) = false := beq_eq_false_iff_ne.mpr (by have := HKL.out; omega)
  have g2 : (kv.length == room) = false := beq_eq_false_iff_ne.mpr (by have := HKL.out; omega)
  have HES2 := Lib.hid (show mStore room (l.map D) k t = l.map D ++ [⟨k.1, k.2, t⟩] by rw [HES.out, if_neg hf])
  clear hf
  generalize w2.drew = w5 at HM3 HK3 HB3 ⊢
  have hM5 := HM3.out
  have kk0 : w5.cell? ⟨w.heap.size, 0, none⟩ = some (.string k.1) := blk_cell HK3.out 0
  have kk1 : w5.cell? ⟨w.heap.size, 1, none⟩ = some (.string k.2) := blk_cell HK3.out 1
  have hBw5 : ∀ k, w5.heap.size ≤ k → U k := fun k hk => HBW.out k (by have h1 := blk_lt HK3.out; omega)
  have hlt5 : ∀ x ∈ r :: l, x < w5.heap.size := fun x hx => blk_lt (hM5.rg.nodes x hx)
  have HLT5 := Lib.hid (show ∀ x ∈ l, x < w5.heap.size from fun x hx => hlt5 x (List.mem_cons_of_mem _ hx))
  have HA6 := Lib.hid ((Below.refl w5.heap.size w5).alloc (Nat.le_refl _) (.cells #[.string k.1, .string k.2, .string t, .pointer none, .pointer none] 59))
  have hM6 := hM5.step HA6.out
  obtain ⟨m0, m1, m2⟩ := mc_cells hM6.mem
  have kk6 := blk_cell ((HA6.out.block _ (blk_lt HK3.out)).trans HK3.out) 0
  have kk7 := blk_cell ((HA6.out.block _ (blk_lt HK3.out)).trans HK3.out) 1
  obtain ⟨o, hup, hmp⟩ := MapIs.add (w := (w5.alloc (.cells #[.string k.1, .string k.2, .string t, .pointer none, .pointer none] 59)).drew) (show MapIs (w5.alloc (.cells #[.string k.1, .string k.2, .string t, .pointer none, .pointer none] 59)).drew mp (kv) from hM6.map) k w5.heap.size HAT.out
  have HFAR := Lib.hid (show ∀ j, j ≠ mp → ({ (w5.alloc (.cells #[.string k.1, .string k.2, .string t, .pointer none, .pointer none] 59)).drew with heap := (w5.alloc (.cells #[.string k.1, .string k.2, .string t, .pointer none, .pointer none] 59)).drew.heap.setIfInBounds mp o } : World).heap[j]? = (w5.alloc (.cells #[.string k.1, .string k.2, .string t, .pointer none, .pointer none] 59)).heap[j]? from fun j hj => set_other (w := (w5.alloc (.cells #[.string k.1, .string k.2, .string t, .pointer none, .pointer none] 59)).drew) o hj)
  have HBD := Lib.hid (show KU U w5 ({ (w5.alloc (.cells #[.string k.1, .string k.2, .string t, .pointer none, .pointer none] 59)).drew with heap := (w5.alloc (.cells #[.string k.1, .string k.2, .string t, .pointer none, .pointer none] 59)).drew.heap.setIfInBounds mp o } : World) from (KU.of HA6.out).trans ⟨rfl, rfl, rfl, by show (w5.alloc (.cells #[.string k.1, .string k.2, .string t, .pointer none, .pointer none] 59)).heap.size ≤ ((w5.alloc (.cells #[.string k.1, .string k.2, .string t, .pointer none, .pointer none] 59)).heap.setIfInBounds mp o).size; simp, fun j _ hu => set_other (w := (w5.alloc (.cells #[.string k.1, .string k.2, .string t, .pointer none, .pointer none] 59)).drew) o (fun e => hu (e ▸ hM5.base.2.1))⟩)
  have HLAY := Lib.hid (hM5.lay (w7 := ({ (w5.alloc (.cells #[.string k.1, .string k.2, .string t, .pointer none, .pointer none] 59)).drew with heap := (w5.alloc (.cells #[.string k.1, .string k.2, .string t, .pointer none, .pointer none] 59)).drew.heap.setIfInBounds mp o } : World)) hBw5 ⟨k.1, k.2, t⟩ (show k ∉ _ from HNK.out) HFAR.out hmp)
  have HS5 := Lib.hid (show (w5.alloc (.cells #[.string k.1, .string k.2, .string t, .pointer none, .pointer none] 59)).drew.cell? ⟨m, 1, none⟩ = some (.map (some mp)) ∧ (w5.alloc (.cells #[.string k.1, .string k.2, .string t, .pointer none, .pointer none] 59)).drew.cell? ⟨w.heap.size, 0, none⟩ = some (.string k.1) ∧ (w5.alloc (.cells #[.string k.1, .string k.2, .string t, .pointer none, .pointer none] 59)).drew.cell? ⟨w.heap.size, 1, none⟩ = some (.string k.2) from ⟨m1, kk6, kk7⟩)
  generalize ({ (w5.alloc (.cells #[.string k.1, .string k.2, .string t, .pointer none, .pointer none] 59)).drew with heap := (w5.alloc (.cells #[.string k.1, .string k.2, .string t, .pointer none, .pointer none] 59)).drew.heap.setIfInBounds mp o } : World) = w7 at hup HFAR HBD HLAY
  have HUP := Lib.hid hup
  clear hM5 hM6 hlt5 m0 m1 m2 kk6 kk7 hmp hup
  go_wp2
  refine start_ (n := 7) (S := fun w' => w'.cell? ⟨m, 1, none⟩ = some (.map (some mp)) ∧ w'.cell? ⟨w.heap.size, 0, none⟩ = some (.string k.1) ∧ w'.cell? ⟨w.heap.size, 1, none⟩ = some (.string k.2)) (ds := [6]) #[false, false, false, false, false, false, false] (by kernel_rfl) rfl rfl HS5.out (fun hHeld => ?_)
  refine pure_ (i := 0) (N := (some 49)) (v := ?_) (a' := ?_) #[true, false, false, false, false, false, false] rfl rfl (by kernel_rfl) (fun _ _ _ h => h) (Or.inl ⟨by rfl, ?_⟩) ?_ ?_
  rotate_left
  ·intro w'
   go_simp
   with_reducible rfl
  rotate_left
  ·simp only [Act.put, List.setIfInBounds_toArray, List.set_cons_zero, List.set_cons_succ]
   rfl
  refine pure_ (i := 1) (N := (some 50)) (v := ?_) (a' := ?_) #[true, true, false, false, false, false, false] rfl rfl (by kernel_rfl) (fun _ _ _ h => h) (Or.inl ⟨by rfl, ?_⟩) ?_ ?_
  rotate_left
  ·intro w'
   go_simp
   with_reducible rfl
  rotate_left
  ·simp only [Act.put, List.setIfInBounds_toArray, List.set_cons_zero, List.set_cons_succ]
   rfl
  refine pure_ (i := 2) (N := (some 51)) (v := ?_) (a' := ?_) #[true, true, true, false, false, false, false] rfl rfl (by kernel_rfl) (fun _ _ _ h => h) (Or.inl ⟨by rfl, ?_⟩) ?_ ?_
  rotate_left
  ·intro w'
   go_simp
   with_reducible rfl
  rotate_left
  ·simp only [Act.put, List.setIfInBounds_toArray, List.set_cons_zero, List.set_cons_succ]
   rfl
  refine take_ (i := 3) (N := (some 52)) (v := ?_) (a' := ?_) #[true, true, true, true, false, false, false] rfl rfl (by kernel_rfl) (fun _ _ _ h => h) (Or.inl ⟨by rfl, ?_⟩) hHeld ?_ ?_
  rotate_left
  ·rintro w' ⟨s1, s2, s3⟩
   go_simp
   with_reducible rfl
  rotate_left
  ·simp only [Act.put, List.setIfInBounds_toArray, List.set_cons_zero, List.set_cons_succ]
   rfl
  refine take_ (i := 4) (N := (some 53)) (v := ?_) (a' := ?_) #[true, true, true, true, true, false, false] rfl rfl (by kernel_rfl) (fun _ _ _ h => h) (Or.inl ⟨by rfl, ?_⟩) hHeld ?_ ?_
  rotate_left
  ·rintro w' ⟨s1, s2, s3⟩
   go_simp
   with_reducible rfl
  rotate_left
  ·simp only [Act.put, List.setIfInBounds_toArray, List.set_cons_zero, List.set_cons_succ]
   rfl
  refine pure_ (i := 5) (N := (some 54)) (v := ?_) (a' := ?_) #[true, true, true, true, true, true, false] rfl rfl (by kernel_rfl) (fun _ _ _ h => h) (Or.inl ⟨by rfl, ?_⟩) ?_ ?_
  rotate_left
  ·intro w'
   go_simp
   with_reducible rfl
  rotate_left
  ·simp only [Act.put, List.setIfInBounds_toArray, List.set_cons_zero, List.set_cons_succ]
   rfl
  refine last_ (i := 6) (N := none) #[true, true, true, true, true, true, true] rfl rfl (by kernel_rfl) (by decide) (fun K hK => ?_)
  have hup2 : (Instr.mapUpdate 60 (.map (some mp)) (.agg #[.string k.1, .string k.2]) (.pointer (some ⟨w5.heap.size, 0, none⟩))).run Tryz.prog (w5.alloc (.cells #[.string k.1, .string k.2, .string t, .pointer none, .pointer none] 59)).drew = .ok () w7 := HUP.out
  go_simp
  refine hK.out _ _ ?_
  clear hK K
  (try simp only [Act.put, List.setIfInBounds_toArray, List.set_cons_zero, List.set_cons_succ])
  refine done_ (by kernel_rfl) ?_
  go_wp2_with fail
  refine HLAY.out.mono ?_
  rintro e w8 ⟨rfl, hb8, N8, P8, hm8⟩
  have HM8 := Lib.hid hm8
  have HB8 := Lib.hid ((HB3.out.trans HBD.out).trans hb8)
  clear hb8 hm8
  go_wp2
  go_end0
  exact ⟨rfl, HB8.out, N8, P8, _, _, _, HM8.out, by rw [lay_map HLT5.out, HES2.out]⟩
/-- The memory m holds these entries. -/
def MS (U : Nat → Prop) (w : World) (m room : Nat) (es : List Ent) : Prop := ∃ mp r N P D l kv, MM U w m room mp r N P D l kv ∧ l.map D = es ∧ es.length ≤ room ∧ 1 ≤ room ∧ room ≤ 256
theorem MS.mono {U V : Nat → Prop} {w : World} {m room : Nat} {es : List Ent} (h : MS U w m room es) (hi : ∀ k, k < w.heap.size → U k → V k) : MS V w m room es := by
 obtain ⟨mp, r, N, P, D, l, kv, h1, h2⟩ := h
 exact ⟨mp, r, N, P, D, l, kv, h1.mono hi, h2⟩
theorem MS.step {U : Nat → Prop} {w w' : World} {m room : Nat} {es : List Ent} (h : MS U w m room es) (hb : Below w.heap.size w w') : MS U w' m room es := by
 obtain ⟨mp, r, N, P, D, l, kv, h1, h2⟩ := h
 exact ⟨mp, r, N, P, D, l, kv, h1.step hb, h2⟩
theorem MS.keys {U : Nat → Prop} {w : World} {m room : Nat} {es : List Ent} (h : MS U w m room es) : (es.map Ent.key).Nodup := by
 obtain ⟨mp, r, N, P, D, l, kv, h1, rfl, _⟩ := h
 rw [List.map_map]
 exact h1.keys
theorem MS.found {U : Nat → Prop} {w : World} {m room mp r : Nat} {N P : Nat → Nat} {D : Nat → Ent} {l : List Nat} {kv : List (Key × Nat)} (h : MM U w m room mp r N P D l kv) {k : Key} (hh : hasK (l.map D) k = true) : ∃ i n, atK kv k = some (i, n) ∧ n ∈ l ∧ (D n).key = k := by
 obtain ⟨e, he, hk⟩ := hasK_iff.1 hh
 obtain ⟨n, hn, rfl⟩ := List.mem_map.1 he
 obtain ⟨i, hi, _⟩ := atK_some (h.perm.mem_iff.2 (List.mem_map_of_mem (f := fun n => ((D n).key, n)) hn)) (h.kvkeys.nodup_iff.2 h.keys)
 exact ⟨i, n, by rw [← hk]; exact hi, hn, hk⟩
theorem MS.absent {D : Nat → Ent} {l : List Nat} {k : Key} (hh : hasK (l.map D) k = false) : k ∉ l.map fun n => (D n).key := by
 intro h
 obtain ⟨n, hn, hk⟩ := List.mem_map.1 h
 exact (hasK_not.1 hh) (D n) (List.mem_map_of_mem hn) hk
theorem MS.store {U : Nat → Prop} {w : World} {m room : Nat} {es : List Ent} (h : MS U w m room es) (hB : ∀ k, w.heap.size ≤ k → U k) (k : Key) (t : ByteArray) :
  Calls Tryz.prog 26 #[.pointer (some ⟨m, 0, none⟩), .agg #[.string k.1, .string k.2], .string t] w fun e w' => e = .returned (.tuple #[]) ∧ KU U w w' ∧ MS U w' m room (mStore room es k t) := by
 obtain ⟨mp, r, N, P, D, l, kv, h1, rfl, hlen, hr1, hr2⟩ := h
 have hl2 := store_len (k := k) (t := t) hlen (by omega)
 cases hh : hasK (l.map D) k with
 | true =>
  obtain ⟨i, n, hi, hn, hk⟩ := MS.found h1 hh
  refine (h1.store_found k t hi hn hk).mono ?_
  rintro e w' ⟨he, hb, N', P', D', l', kv', h2, h3⟩
  exact ⟨he, hb, mp, r, N', P', D', l', kv', h2, h3, hl2, hr1, hr2⟩
 | false =>
  refine (h1.store_new hB k t (MS.absent hh) hr1 hr2 (by simpa using hlen)).mono ?_
  rintro e w' ⟨he, hb, N', P', D', l', kv', h2, h3⟩
  exact ⟨he, hb, mp, r, N', P', D', l', kv', h2, h3, hl2, hr1, hr2⟩
/-- Put -/
def putF (room : Nat) (es : List Ent) (g : ByteArray) (x : S32) (t : ByteArray) : List Ent × Int := if (keyF g x).2 ≠ 0 then (es, (keyF g x).2) else if 4096 < t.size then (es, 2) else (mStore room es (keyF g x).1 t, 0)
set_option maxRecDepth 1000000 in
set_option maxHeartbeats 4000000 in
theorem MS.put {U : Nat → Prop} {w : World} {m room : Nat} {es : List Ent} (h : MS U w m room es) (hB : ∀ k, w.heap.size ≤ k → U k) (g : ByteArray) {x : S32} {cs : List Value} {ok : Nat → Prop} (t : ByteArray) (hF : Kd.FK k32 w ok x cs) (hok : ∀ k, ok k → k < w.heap.size) (hTB : TB w) (hal : Al x) (hsz : size x < 1000000) :
  Calls Tryz.prog 11 #[.pointer (some ⟨m, 0, none⟩), .string g, .agg cs.toArray, .string t] w fun e w' => e = .returned (.int .i64 (putF room es g x t).2) ∧ KU U w w' ∧ MS U w' m room (putF room es g x t).1 := by
 have HF := Lib.hid hF
 obtain ⟨A2, c2, A5, c5, rfl, -⟩ := k32_openF hF
 have HB1 := Lib.hid (one_blk w #[.int .i64 x.f0, .string x.f1, .slice A2 x.f2.length c2, .int .i64 x.f3, .int .i64 x.f4, .slice A5 x.f5.length c5]).2
 have HKO := Lib.hid (keyof_any (g := g) (Kd.FK_step HF.out (fun k _ hk => HB1.out.block k hk)) (fun k hk => Nat.lt_of_lt_of_le (hok k hk) HB1.out.size) (tb_below hTB HB1.out (Or.inl (Nat.le_refl _))) hal hsz)
 have HP := Lib.hid (show putF room es g x t = if (keyF g x).2 ≠ 0 then (es, (keyF g x).2) else if 4096 < t.size then (es, 2) else (mStore room es (keyF g x).1 t, 0) from rfl)
 have HH := Lib.hid h
 have HBW := Lib.hid hB
 clear hF hok hTB hal hsz h hB
 obtain ⟨q, hq⟩ : ∃ q, keyF g x = q := ⟨_, rfl⟩
 rw [hq] at HKO HP
 clear hq
 obtain ⟨k, z⟩ := q
 dsimp only at HKO HP
 go_enter Tryz.func11, Tryz.ntmps11
 go_wp2_with fail
 refine HKO.out.mono ?_
 rintro e w3 ⟨rfl, hb3⟩
 have HW3 := Lib.hid (below_then HB1.out HB1.out.size hb3)
 have HA3 := Lib.hid (key_two w3 k)
 have HW4 := Lib.hid (below_then HW3.out HW3.out.size HA3.out.2)
 have HM4 := Lib.hid (HH.out.step HW4.out)
 have HB4 := Lib.hid (show KU U w (w3.alloc (.cells #[.string k.1, .string k.2] 57)) from KU.of HW4.out)
 clear hb3
 by_cases h0 : z = 0
 ·subst h0
  by_cases ht : 4096 < t.size
  ·have HP2 := Lib.hid (show putF room es g x t = (es, 2) by rw [HP.out, if_neg (by simp), if_pos ht])
   have g1 : decide ((4096 : Int) < (t.size : Int)) = true := decide_eq_true (by omega)
   have g2 : decide (4096 < t.size) = true := decide_eq_true ht
   clear ht
   go_wp2
   go_ret
   rw [HP2.out]
   exact ⟨rfl, HB4.out, HM4.out⟩
  ·have HP2 := Lib.hid (show putF room es g x t = (mStore room es k t, 0) by rw [HP.out, if_neg (by simp), if_neg ht])
   have g1 : decide ((4096 : Int) < (t.size : Int)) = false := decide_eq_false (by omega)
   have g2 : decide (4096 < t.size) = false := decide_eq_false ht
   have HST := Lib.hid (HM4.out.store (fun j hj => HBW.out j (Nat.le_trans HW4.out.size hj)) k t)
   clear ht
   go_wp2_with fail
   refine HST.out.mono ?_
   rintro e w5 ⟨rfl, hb5, hm5⟩
   have HB5 := Lib.hid (HB4.out.trans hb5)
   have HM5 := Lib.hid hm5
   clear hb5 hm5
   go_wp2
   go_ret
   rw [HP2.out]
   exact ⟨rfl, HB5.out, HM5.out⟩
 ·have HP2 := Lib.hid (show putF room es g x t = (es, z) by rw [HP.out, if_pos h0])
  have gm : (z != (0 : Int)) = true := by simpa using h0
  clear h0
  go_wp2
  go_ret
  rw [HP2.out]
  exact ⟨rfl, HB4.out, HM4.out⟩
/-- Find -/
def findF (es : List Ent) (g : ByteArray) (x : S32) : List Ent × ByteArray × Bool × Int :=
 if (keyF g x).2 ≠ 0 then (es, eStr, false, (keyF g x).2) else match es.find? (fun e => decide (e.key = (keyF g x).1)) with
  | none => (es, eStr, false, 0)
  | some e => (outK es (keyF g x).1 ++ [e], e.text, true, 0)
theorem find_key {es : List Ent} {e : Ent} {k : Key} (hn : (es.map Ent.key).Nodup) (he : e ∈ es) (hk : e.key = k) : es.find? (fun e => decide (e.key = k)) = some e := by
 obtain ⟨a, b, rfl⟩ := List.append_of_mem he
 rw [List.find?_eq_some_iff_append]
 refine ⟨by simpa using hk, a, b, rfl, fun z hz => ?_⟩
 rw [List.map_append, List.map_cons, List.nodup_append] at hn
 have := hn.2.2 z.key (List.mem_map_of_mem hz) e.key (by simp)
 simp only [Bool.not_eq_true', decide_eq_false_iff_not]
 exact fun h => this (h.trans hk.symm)
theorem find_nokey {es : List Ent} {k : Key} (h : hasK es k = false) : es.find? (fun e => decide (e.key = k)) = none := by
 rw [List.find?_eq_none]
 intro z hz
 simpa using (hasK_not.1 h) z hz
set_option maxRecDepth 1000000 in
set_option maxHeartbeats 4000000 in
theorem MS.find {U : Nat → Prop} {w : World} {m room : Nat} {es : List Ent} (h : MS U w m room es) (hB : ∀ k, w.heap.size ≤ k → U k) (g : ByteArray) {x : S32} {cs : List Value} {ok : Nat → Prop} (hF : Kd.FK k32 w ok x cs) (hok : ∀ k, ok k → k < w.heap.size) (hTB : TB w) (hal : Al x) (hsz : size x < 1000000) :
  Calls Tryz.prog 13 #[.pointer (some ⟨m, 0, none⟩), .string g, .agg cs.toArray] w fun e w' => e = .returned (.tuple #[.string (findF es g x).2.1, .bool (findF es g x).2.2.1, .int .i64 (findF es g x).2.2.2]) ∧ KU U w w' ∧ MS U w' m room (findF es g x).1 := by
 have HF := Lib.hid hF
 obtain ⟨A2, c2, A5, c5, rfl, -⟩ := k32_openF hF
 have HB1 := Lib.hid (one_blk w #[.int .i64 x.f0, .string x.f1, .slice A2 x.f2.length c2, .int .i64 x.f3, .int .i64 x.f4, .slice A5 x.f5.length c5]).2
 have HKO := Lib.hid (keyof_any (g := g) (Kd.FK_step HF.out (fun k _ hk => HB1.out.block k hk)) (fun k hk => Nat.lt_of_lt_of_le (hok k hk) HB1.out.size) (tb_below hTB HB1.out (Or.inl (Nat.le_refl _))) hal hsz)
 have HP := Lib.hid (show findF es g x = if (keyF g x).2 ≠ 0 then (es, eStr, false, (keyF g x).2) else match es.find? (fun e => decide (e.key = (keyF g x).1)) with
  | none => (es, eStr, false, 0)
  | some e => (outK es (keyF g x).1 ++ [e], e.text, true, 0) from rfl)
 have HH := Lib.hid h
 have HBW := Lib.hid hB
 clear hF hok hTB hal hsz h hB
 obtain ⟨q, hq⟩ : ∃ q, keyF g x = q := ⟨_, rfl⟩
 rw [hq] at HKO HP
 clear hq
 obtain ⟨k, z⟩ := q
 dsimp only at HKO HP
 go_enter Tryz.func13, Tryz.ntmps13
 go_wp2_with fail
 refine HKO.out.mono ?_
 rintro e w3 ⟨rfl, hb3⟩
 have HW3 := Lib.hid (below_then HB1.out HB1.out.size hb3)
 have HA3 := Lib.hid (key_two w3 k)
 have HW4 := Lib.hid (below_then HW3.out HW3.out.size HA3.out.2)
 have HM4 := Lib.hid (HH.out.step HW4.out)
 have HB4 := Lib.hid (show KU U w (w3.alloc (.cells #[.string k.1, .string k.2] 57)) from KU.of HW4.out)
 clear hb3
 by_cases h0 : z = 0
 ·subst h0
  have HP1 := Lib.hid (show findF es g x = match es.find? (fun e => decide (e.key = k)) with
   | none => (es, eStr, false, 0)
   | some e => (outK es k ++ [e], e.text, true, 0) by rw [HP.out]; rfl)
  obtain ⟨mp, r, N, P, D, l, kv, hM, hes, hlen, hr1, hr2⟩ := HM4.out
  have HMM := Lib.hid hM
  have HRR := Lib.hid (And.intro hlen (And.intro hr1 hr2))
  have HES := Lib.hid hes
  clear hM hes hlen hr1 hr2
  go_wp2
  obtain ⟨w4, hw4⟩ : ∃ w4, w3.alloc (.cells #[.string k.1, .string k.2] 57) = w4 := ⟨_, rfl⟩
  rw [hw4] at HA3 HMM HB4 ⊢
  clear hw4 HM4
  obtain ⟨m0, m1, m2⟩ := mc_cells HMM.out.mem
  have kk0 : w4.cell? ⟨w3.heap.size, 0, none⟩ = some (.string k.1) := blk_cell HA3.out.1 0
  have kk1 : w4.cell? ⟨w3.heap.size, 1, none⟩ = some (.string k.2) := blk_cell HA3.out.1 1
  have HS := Lib.hid (show w4.drew.cell? ⟨m, 1, none⟩ = some (.map (some mp)) ∧ w4.drew.cell? ⟨w3.heap.size, 0, none⟩ = some (.string k.1) ∧ w4.drew.cell? ⟨w3.heap.size, 1, none⟩ = some (.string k.2) ∧ MapIs w4.drew mp kv from ⟨m1, kk0, kk1, HMM.out.map⟩)
  have HM5 := Lib.hid (HMM.out.step (w' := w4.drew) (Below.drew (Below.refl _ _)))
  have HB5 := Lib.hid HB4.out.drew
  clear m0 m1 m2 kk0 kk1
  cases hh : hasK (l.map D) k with
  | true =>
   obtain ⟨i, n, hi, hn, hk⟩ := MS.found HMM.out hh
   have HAT := Lib.hid hi
   have HPF := Lib.hid (show findF es g x = (outK es k ++ [D n], (D n).text, true, 0) by
    rw [HP1.out, find_key HH.out.keys (show D n ∈ es by rw [← HES.out]; exact List.mem_map_of_mem hn) hk])
   obtain ⟨a, b, hl⟩ := List.append_of_mem hn
   have HOUT := Lib.hid (show (a ++ b ++ [n]).map D = outK es k ++ [D n] by
    have hnd := HH.out.keys
    have hsp := outK_split (k := k) (show Kd' es from hnd) (a := a.map D) (b := b.map D) (e := D n) (by rw [← HES.out, hl]; simp) hk
    rw [hsp]
    simp)
   have HLL := Lib.hid (show (outK es k ++ [D n]).length ≤ room by
    have := out_len (es := es) (k := k) (by rw [← HES.out]; exact hh)
    have h2 := HRR.out.1
    rw [List.length_append]
    simp only [List.length_cons, List.length_nil]
    omega)
   have HUSE := Lib.hid ((hl ▸ HM5.out : MM U w4.drew m room mp r N P D (a ++ n :: b) kv).use)
   clear hh hi hn hk hl
   refine start_ (n := 11) (S := fun w' => w'.cell? ⟨m, 1, none⟩ = some (.map (some mp)) ∧ w'.cell? ⟨w3.heap.size, 0, none⟩ = some (.string k.1) ∧ w'.cell? ⟨w3.heap.size, 1, none⟩ = some (.string k.2) ∧ MapIs w' mp kv) (ds := []) #[false, false, false, false, false, false, false, false, false, false, false] (by kernel_rfl) rfl rfl HS.out (fun hHeld => ?_)
   refine pure_ (i := 0) (N := (some 23)) (v := ?_) (a' := ?_) #[true, false, false, false, false, false, false, false, false, false, false] rfl rfl (by kernel_rfl) (fun _ _ _ h => h) (Or.inl ⟨by rfl, ?_⟩) ?_ ?_
   rotate_left
   ·intro w'
    go_simp
    with_reducible rfl
   rotate_left
   ·simp only [Act.put, List.setIfInBounds_toArray, List.set_cons_zero, List.set_cons_succ]
    rfl
   refine pure_ (i := 1) (N := (some 24)) (v := ?_) (a' := ?_) #[true, true, false, false, false, false, false, false, false, false, false] rfl rfl (by kernel_rfl) (fun _ _ _ h => h) (Or.inl ⟨by rfl, ?_⟩) ?_ ?_
   rotate_left
   ·intro w'
    go_simp
    with_reducible rfl
   rotate_left
   ·simp only [Act.put, List.setIfInBounds_toArray, List.set_cons_zero, List.set_cons_succ]
    rfl
   refine pure_ (i := 2) (N := (some 25)) (v := ?_) (a' := ?_) #[true, true, true, false, false, false, false, false, false, false, false] rfl rfl (by kernel_rfl) (fun _ _ _ h => h) (Or.inl ⟨by rfl, ?_⟩) ?_ ?_
   rotate_left
   ·intro w'
    go_simp
    with_reducible rfl
   rotate_left
   ·simp only [Act.put, List.setIfInBounds_toArray, List.set_cons_zero, List.set_cons_succ]
    rfl
   refine take_ (i := 3) (N := (some 26)) (v := ?_) (a' := ?_) #[true, true, true, true, false, false, false, false, false, false, false] rfl rfl (by kernel_rfl) (fun _ _ _ h => h) (Or.inl ⟨by rfl, ?_⟩) hHeld ?_ ?_
   rotate_left
   ·rintro w' ⟨s1, s2, s3, s4⟩
    clear s4
    go_simp
    with_reducible rfl
   rotate_left
   ·simp only [Act.put, List.setIfInBounds_toArray, List.set_cons_zero, List.set_cons_succ]
    rfl
   refine take_ (i := 4) (N := (some 27)) (v := ?_) (a' := ?_) #[true, true, true, true, true, false, false, false, false, false, false] rfl rfl (by kernel_rfl) (fun _ _ _ h => h) (Or.inl ⟨by rfl, ?_⟩) hHeld ?_ ?_
   rotate_left
   ·rintro w' ⟨s1, s2, s3, s4⟩
    clear s4
    go_simp
    with_reducible rfl
   rotate_left
   ·simp only [Act.put, List.setIfInBounds_toArray, List.set_cons_zero, List.set_cons_succ]
    rfl
   refine take_ (i := 5) (N := (some 28)) (v := ?_) (a' := ?_) #[true, true, true, true, true, true, false, false, false, false, false] rfl rfl (by kernel_rfl) (fun _ _ _ h => h) (Or.inl ⟨by rfl, ?_⟩) hHeld ?_ ?_
   rotate_left
   ·rintro w' ⟨s1, s2, s3, s4⟩
    have hl : (Instr.lookup 60 (.map (some mp)) (.agg #[.string k.1, .string k.2]) true).run Tryz.prog w' = .ok (.tuple #[.pointer (some ⟨n, 0, none⟩), .bool true]) w' := by have := s4.lookup k; rw [HAT.out] at this; exact this
    clear s4
    go_simp
    with_reducible rfl
   rotate_left
   ·simp only [Act.put, List.setIfInBounds_toArray, List.set_cons_zero, List.set_cons_succ]
    rfl
   refine pure_ (i := 6) (N := (some 22)) (v := ?_) (a' := ?_) #[true, true, true, true, true, true, true, false, false, false, false] rfl rfl (by kernel_rfl) (fun _ _ _ h => h) (Or.inl ⟨by rfl, ?_⟩) ?_ ?_
   rotate_left
   ·intro w'
    go_simp
    with_reducible rfl
   rotate_left
   ·simp only [Act.put, List.setIfInBounds_toArray, List.set_cons_zero, List.set_cons_succ]
    rfl
   refine pure_ (i := 7) (N := (some 29)) (v := ?_) (a' := ?_) #[true, true, true, true, true, true, true, true, false, false, false] rfl rfl (by kernel_rfl) (fun _ _ _ h => h) (Or.inl ⟨by rfl, ?_⟩) ?_ ?_
   rotate_left
   ·intro w'
    go_simp
    with_reducible rfl
   rotate_left
   ·simp only [Act.put, List.setIfInBounds_toArray, List.set_cons_zero, List.set_cons_succ]
    rfl
   refine pure_ (i := 8) (N := (some 30)) (v := ?_) (a' := ?_) #[true, true, true, true, true, true, true, true, true, false, false] rfl rfl (by kernel_rfl) (fun _ _ _ h => h) (Or.inl ⟨by rfl, ?_⟩) ?_ ?_
   rotate_left
   ·intro w'
    go_simp
    with_reducible rfl
   rotate_left
   ·simp only [Act.put, List.setIfInBounds_toArray, List.set_cons_zero, List.set_cons_succ]
    rfl
   refine pure_ (i := 9) (N := (some 11)) (v := ?_) (a' := ?_) #[true, true, true, true, true, true, true, true, true, true, false] rfl rfl (by kernel_rfl) (fun _ _ _ h => h) (Or.inl ⟨by rfl, ?_⟩) ?_ ?_
   rotate_left
   ·intro w'
    go_simp
    with_reducible rfl
   rotate_left
   ·simp only [Act.put, List.setIfInBounds_toArray, List.set_cons_zero, List.set_cons_succ]
    rfl
   refine pure_ (i := 10) (N := (some 12)) (v := ?_) (a' := ?_) #[true, true, true, true, true, true, true, true, true, true, true] rfl rfl (by kernel_rfl) (fun _ _ _ h => h) (Or.inl ⟨by rfl, ?_⟩) ?_ ?_
   rotate_left
   ·intro w'
    go_simp
    with_reducible rfl
   rotate_left
   ·simp only [Act.put, List.setIfInBounds_toArray, List.set_cons_zero, List.set_cons_succ]
    rfl
   refine done_ (by kernel_rfl) ?_
   clear hHeld
   go_wp2_with fail
   refine HUSE.out.mono ?_
   rintro e w6 ⟨rfl, hb6, N6, P6, hm6⟩
   have HM6 := Lib.hid hm6
   have HB6 := Lib.hid (HB5.out.trans hb6)
   have n2 : w6.cell? ⟨n, 2, none⟩ = some (.string (D n).text) := blk_cell (hm6.rg.nodes n (by simp)) 2
   clear hb6 hm6
   go_wp2
   go_ret3
   rw [HPF.out]
   exact ⟨rfl, HB6.out, mp, r, N6, P6, D, _, kv, HM6.out, HOUT.out, HLL.out, HRR.out.2.1, HRR.out.2.2⟩
  | false =>
   have HAT := Lib.hid (show atK kv k = none from atK_none (fun e => MS.absent hh (HMM.out.kvkeys.mem_iff.1 e)))
   have HPF := Lib.hid (show findF es g x = (es, eStr, false, 0) by rw [HP1.out, find_nokey (by rw [← HES.out]; exact hh)])
   clear hh
   refine start_ (n := 11) (S := fun w' => w'.cell? ⟨m, 1, none⟩ = some (.map (some mp)) ∧ w'.cell? ⟨w3.heap.size, 0, none⟩ = some (.string k.1) ∧ w'.cell? ⟨w3.heap.size, 1, none⟩ = some (.string k.2) ∧ MapIs w' mp kv) (ds := []) #[false, false, false, false, false, false, false, false, false, false, false] (by kernel_rfl) rfl rfl HS.out (fun hHeld => ?_)
   refine pure_ (i := 0) (N := (some 23)) (v := ?_) (a' := ?_) #[true, false, false, false, false, false, false, false, false, false, false] rfl rfl (by kernel_rfl) (fun _ _ _ h => h) (Or.inl ⟨by rfl, ?_⟩) ?_ ?_
   rotate_left
   ·intro w'
    go_simp
    with_reducible rfl
   rotate_left
   ·simp only [Act.put, List.setIfInBounds_toArray, List.set_cons_zero, List.set_cons_succ]
    rfl
   refine pure_ (i := 1) (N := (some 24)) (v := ?_) (a' := ?_) #[true, true, false, false, false, false, false, false, false, false, false] rfl rfl (by kernel_rfl) (fun _ _ _ h => h) (Or.inl ⟨by rfl, ?_⟩) ?_ ?_
   rotate_left
   ·intro w'
    go_simp
    with_reducible rfl
   rotate_left
   ·simp only [Act.put, List.setIfInBounds_toArray, List.set_cons_zero, List.set_cons_succ]
    rfl
   refine pure_ (i := 2) (N := (some 25)) (v := ?_) (a' := ?_) #[true, true, true, false, false, false, false, false, false, false, false] rfl rfl (by kernel_rfl) (fun _ _ _ h => h) (Or.inl ⟨by rfl, ?_⟩) ?_ ?_
   rotate_left
   ·intro w'
    go_simp
    with_reducible rfl
   rotate_left
   ·simp only [Act.put, List.setIfInBounds_toArray, List.set_cons_zero, List.set_cons_succ]
    rfl
   refine take_ (i := 3) (N := (some 26)) (v := ?_) (a' := ?_) #[true, true, true, true, false, false, false, false, false, false, false] rfl rfl (by kernel_rfl) (fun _ _ _ h => h) (Or.inl ⟨by rfl, ?_⟩) hHeld ?_ ?_
   rotate_left
   ·rintro w' ⟨s1, s2, s3, s4⟩
    clear s4
    go_simp
    with_reducible rfl
   rotate_left
   ·simp only [Act.put, List.setIfInBounds_toArray, List.set_cons_zero, List.set_cons_succ]
    rfl
   refine take_ (i := 4) (N := (some 27)) (v := ?_) (a' := ?_) #[true, true, true, true, true, false, false, false, false, false, false] rfl rfl (by kernel_rfl) (fun _ _ _ h => h) (Or.inl ⟨by rfl, ?_⟩) hHeld ?_ ?_
   rotate_left
   ·rintro w' ⟨s1, s2, s3, s4⟩
    clear s4
    go_simp
    with_reducible rfl
   rotate_left
   ·simp only [Act.put, List.setIfInBounds_toArray, List.set_cons_zero, List.set_cons_succ]
    rfl
   refine take_ (i := 5) (N := (some 28)) (v := ?_) (a' := ?_) #[true, true, true, true, true, true, false, false, false, false, false] rfl rfl (by kernel_rfl) (fun _ _ _ h => h) (Or.inl ⟨by rfl, ?_⟩) hHeld ?_ ?_
   rotate_left
   ·rintro w' ⟨s1, s2, s3, s4⟩
    have hl : (Instr.lookup 60 (.map (some mp)) (.agg #[.string k.1, .string k.2]) true).run Tryz.prog w' = .ok (.tuple #[.pointer none, .bool false]) w' := by have := s4.lookup k; rw [HAT.out] at this; exact this
    clear s4
    go_simp
    with_reducible rfl
   rotate_left
   ·simp only [Act.put, List.setIfInBounds_toArray, List.set_cons_zero, List.set_cons_succ]
    rfl
   refine pure_ (i := 6) (N := (some 22)) (v := ?_) (a' := ?_) #[true, true, true, true, true, true, true, false, false, false, false] rfl rfl (by kernel_rfl) (fun _ _ _ h => h) (Or.inl ⟨by rfl, ?_⟩) ?_ ?_
   rotate_left
   ·intro w'
    go_simp
    with_reducible rfl
   rotate_left
   ·simp only [Act.put, List.setIfInBounds_toArray, List.set_cons_zero, List.set_cons_succ]
    rfl
   refine pure_ (i := 7) (N := (some 29)) (v := ?_) (a' := ?_) #[true, true, true, true, true, true, true, true, false, false, false] rfl rfl (by kernel_rfl) (fun _ _ _ h => h) (Or.inl ⟨by rfl, ?_⟩) ?_ ?_
   rotate_left
   ·intro w'
    go_simp
    with_reducible rfl
   rotate_left
   ·simp only [Act.put, List.setIfInBounds_toArray, List.set_cons_zero, List.set_cons_succ]
    rfl
   refine pure_ (i := 8) (N := (some 30)) (v := ?_) (a' := ?_) #[true, true, true, true, true, true, true, true, true, false, false] rfl rfl (by kernel_rfl) (fun _ _ _ h => h) (Or.inl ⟨by rfl, ?_⟩) ?_ ?_
   rotate_left
   ·intro w'
    go_simp
    with_reducible rfl
   rotate_left
   ·simp only [Act.put, List.setIfInBounds_toArray, List.set_cons_zero, List.set_cons_succ]
    rfl
   refine pure_ (i := 9) (N := (some 11)) (v := ?_) (a' := ?_) #[true, true, true, true, true, true, true, true, true, true, false] rfl rfl (by kernel_rfl) (fun _ _ _ h => h) (Or.inl ⟨by rfl, ?_⟩) ?_ ?_
   rotate_left
   ·intro w'
    go_simp
    with_reducible rfl
   rotate_left
   ·simp only [Act.put, List.setIfInBounds_toArray, List.set_cons_zero, List.set_cons_succ]
    rfl
   refine pure_ (i := 10) (N := (some 12)) (v := ?_) (a' := ?_) #[true, true, true, true, true, true, true, true, true, true, true] rfl rfl (by kernel_rfl) (fun _ _ _ h => h) (Or.inl ⟨by rfl, ?_⟩) ?_ ?_
   rotate_left
   ·intro w'
    go_simp
    with_reducible rfl
   rotate_left
   ·simp only [Act.put, List.setIfInBounds_toArray, List.set_cons_zero, List.set_cons_succ]
    rfl
   refine done_ (by kernel_rfl) ?_
   clear hHeld
   go_wp2
   go_ret3
   rw [HPF.out]
   exact ⟨rfl, HB5.out, mp, r, N, P, D, l, kv, HM5.out, HES.out, HRR.out.1, HRR.out.2.1, HRR.out.2.2⟩
 ·have HP2 := Lib.hid (show findF es g x = (es, eStr, false, z) by rw [HP.out, if_pos h0])
  have gm : (z != (0 : Int)) = true := by simpa using h0
  clear h0
  go_wp2
  go_ret3
  rw [HP2.out]
  exact ⟨rfl, HB4.out, HM4.out⟩
open Go.RowKit Go.Proofs.YtbahnpdgaoedmaaGreatDoorW.PrintWords Go.Proofs.YtbahnpdgaoedmaaGreatDoor.PMemoryExact
abbrev nwF : ByteArray := ⟨#[110, 101, 119]⟩
abbrev nwrF : ByteArray := ⟨#[110, 101, 119, 101, 114]⟩
theorem key_of {g : ByteArray} {x : S32} {k : Key} (h : keyF g x = (k, 0)) : validF x = true ∧ limF (nf0 x) = true ∧ k = (g, ⟨(textB (nf0 x)).toArray⟩) := by
 unfold keyF ofF fitF at h
 by_cases hv : validF x = true
 ·rw [if_pos hv] at h
  by_cases hl : limF (nf x false) = true
  ·rw [if_pos hl, if_pos rfl] at h
   exact ⟨hv, hl, (congrArg (fun p => p.1) h).symm⟩
  ·rw [if_neg hl] at h
   exact absurd (show (2 : Int) = 0 from congrArg (fun p => p.2) h) (by decide)
 ·rw [if_neg hv] at h
  exact absurd (show (1 : Int) = 0 from congrArg (fun p => p.2) h) (by decide)
theorem key_err (g : ByteArray) (x : S32) : (keyF g x).2 = if validF x = true then (if limF (nf0 x) = true then 0 else 2) else 1 := by
 unfold keyF ofF fitF
 by_cases hv : validF x = true
 ·by_cases hl : limF (nf0 x) = true
  ·simp [hv, hl]
  ·simp [hv, hl]
 ·simp [hv]
theorem key_zero {g : ByteArray} {x : S32} (h : (keyF g x).2 = 0) : ∃ k, keyF g x = (k, 0) := ⟨(keyF g x).1, by rw [← h]⟩
theorem same_err {g : ByteArray} {f y : S32} {k : Key} (h : keyF g f = (k, 0)) : (sameF f y).2 = (keyF g y).2 := by
 obtain ⟨h1, h2, _⟩ := key_of h
 rw [key_err]
 unfold sameF
 rw [h1, h2]
 by_cases hv : validF y = true
 ·by_cases hl : limF (nf0 y) = true
  ·simp [hv, hl]
  ·simp [hv, hl]
 ·simp [hv]
theorem same_iff {g : ByteArray} {f y : S32} {k q : Key} (h : keyF g f = (k, 0)) (h' : keyF g y = (q, 0)) (hf : Al f) (hy : Al y) : (sameF f y).1 = decide (k = q) := by
 obtain ⟨f1, f2, f3⟩ := key_of h
 obtain ⟨y1, y2, y3⟩ := key_of h'
 have hs : (sameF f y).1 = (cF (nf0 f) (nf0 y) == 0) := by
  unfold sameF
  rw [f1, y1, f2, y2]
  rfl
 rw [hs]
 have hwf : Wf (nf0 f) := ⟨_, fm_nf f false _ (valid_wf f1).1.choose_spec⟩
 have hwy : Wf (nf0 y) := ⟨_, fm_nf y false _ (valid_wf y1).1.choose_spec⟩
 by_cases e : nf0 f = nf0 y
 ·rw [f3, y3, e, decide_eq_true rfl, cF_refl]
  rfl
 ·have h1 : k ≠ q := fun hk => by
   rw [f3, y3] at hk
   have h2 := congrArg (fun p : Key => p.2.data.toList) hk
   exact e (textB_inj hwf (al_nf f false hf) hwy (al_nf y false hy) (by simpa using h2))
  rw [decide_eq_false h1, beq_eq_false_iff_ne]
  exact fun h => e (lin_cF.eq _ _ trivial trivial h)
theorem find_hit {es : List Ent} {g : ByteArray} {x : S32} {k : Key} {e : Ent} (hk : keyF g x = (k, 0)) (hn : Kd' es) (he : e ∈ es) (hke : e.key = k) : findF es g x = (outK es k ++ [e], e.text, true, 0) ∧ (outK es k ++ [e]).length = es.length ∧ Kd' (outK es k ++ [e]) := by
 refine ⟨?_, ?_, ?_⟩
 ·unfold findF
  rw [hk, find_key hn he hke]
  rfl
 ·obtain ⟨a, b, rfl⟩ := List.append_of_mem he
  rw [outK_split hn rfl hke]
  simp
 ·subst hke
  exact nodup_snoc (nodup_sub (outK_sub es _) hn) (outK_not es _)
theorem find_miss {es : List Ent} {g : ByteArray} {x : S32} {k : Key} (hk : keyF g x = (k, 0)) (hh : hasK es k = false) : findF es g x = (es, eStr, false, 0) := by
 unfold findF
 rw [hk, find_nokey hh]
 rfl
theorem put_is {room : Nat} {es : List Ent} {g t : ByteArray} {x : S32} {k : Key} (hk : keyF g x = (k, 0)) (ht : t.size ≤ 4096) : putF room es g x t = (mStore room es k t, 0) := by
 unfold putF
 rw [hk, if_neg (by simp), if_neg (by omega)]
/-- What the statement asks, of the entries. -/
theorem forms_pure {es0 : List Ent} {g : ByteArray} {f y : S32} {kf : Key} (hl : ∀ e ∈ es0, e.lang ≠ g) (hn : Kd' es0) (h10 : es0.length ≤ 10) (hf : Al f) (hy : Al y) (hk : keyF g f = (kf, 0)) :
  ∃ es1, putF 10 es0 g f nwF = (es1, 0) ∧ 1 ≤ es1.length ∧ es1.length ≤ 10 ∧
   (((sameF f y).2 ≠ 0 ∧ findF es1 g y = (es1, eStr, false, (sameF f y).2)) ∨
       ((sameF f y).2 = 0 ∧ (sameF f y).1 = true ∧ ∃ es2 es3 es4, findF es1 g y = (es2, nwF, true, 0) ∧ putF 10 es2 g y nwrF = (es3, 0) ∧ findF es3 g f = (es4, nwrF, true, 0) ∧ es4.length = es1.length) ∨
       ((sameF f y).2 = 0 ∧ (sameF f y).1 = false ∧ findF es1 g y = (es1, eStr, false, 0) ∧ ∃ es3 es4 t has, putF 10 es1 g y nwrF = (es3, 0) ∧ findF es3 g f = (es4, t, has, 0) ∧ es4.length = min (es1.length + 1) 10 ∧ (has = true → t = nwF))) := by
 obtain ⟨_, _, hkf⟩ := key_of hk
 have hkg : kf.1 = g := by rw [hkf]
 have hmiss : hasK es0 kf = false := hasK_not.2 (fun e he h => hl e he (by rw [← hkg, ← h]; rfl))
 obtain ⟨es0', he0⟩ : ∃ es0', (if es0.length = 10 then es0.tail else es0) = es0' := ⟨_, rfl⟩
 have hsub : es0'.Sublist es0 := by
  rw [← he0]
  split
  ·exact List.tail_sublist _
  ·exact List.Sublist.refl _
 have hlen0 : es0'.length ≤ 9 := by
  rw [← he0]
  split
  ·rw [List.length_tail]; omega
  ·omega
 have hst : mStore 10 es0 kf nwF = es0' ++ [⟨kf.1, kf.2, nwF⟩] := by
  unfold mStore
  rw [hmiss, he0]
  rfl
 have hp1 : putF 10 es0 g f nwF = (es0' ++ [⟨kf.1, kf.2, nwF⟩], 0) := by rw [put_is hk (by decide), hst]
 obtain ⟨es1, he1⟩ : ∃ es1, es0' ++ [(⟨kf.1, kf.2, nwF⟩ : Ent)] = es1 := ⟨_, rfl⟩
 have hn1 : Kd' es1 := by
  rw [← he1, ← hst]
  exact store_nodup hn
 have hlen1 : es1.length = es0'.length + 1 := by rw [← he1]; simp
 have hmem : (⟨kf.1, kf.2, nwF⟩ : Ent) ∈ es1 := by rw [← he1]; simp
 have honly : ∀ e ∈ es1, e.lang = g → e = ⟨kf.1, kf.2, nwF⟩ := fun e he hg => by
  rw [← he1] at he
  rcases List.mem_append.1 he with h | h
  ·exact absurd hg (hl e (hsub.subset h))
  ·simpa using h
 rw [he1] at hp1
 refine ⟨es1, hp1, by omega, by omega, ?_⟩
 by_cases hz : (sameF f y).2 = 0
 ·right
  have hz2 := hz
  rw [same_err hk] at hz2
  obtain ⟨ky, hky⟩ := key_zero hz2
  obtain ⟨_, _, hkyf⟩ := key_of hky
  have hkyg : ky.1 = g := by rw [hkyf]
  have hsi := same_iff hk hky hf hy
  by_cases e : kf = ky
  ·left
   subst e
   obtain ⟨a1, a2, a3⟩ := find_hit hky hn1 hmem rfl
   obtain ⟨es2, he2⟩ : ∃ es2, outK es1 kf ++ [(⟨kf.1, kf.2, nwF⟩ : Ent)] = es2 := ⟨_, rfl⟩
   have hm2 : hasK es2 kf = true := hasK_iff.2 ⟨⟨kf.1, kf.2, nwF⟩, by rw [← he2]; simp, rfl⟩
   rw [he2] at a1 a2 a3
   have hp2 : putF 10 es2 g y nwrF = (outK es2 kf ++ [⟨kf.1, kf.2, nwrF⟩], 0) := by
    rw [put_is hky (by decide)]
    unfold mStore
    rw [if_pos hm2]
   have hn3 : Kd' (outK es2 kf ++ [(⟨kf.1, kf.2, nwrF⟩ : Ent)]) := by
    have := store_nodup (room := 10) (k := kf) (t := nwrF) a3
    unfold mStore at this
    rwa [if_pos hm2] at this
   have hlen3 : (outK es2 kf ++ [(⟨kf.1, kf.2, nwrF⟩ : Ent)]).length = es2.length := by
    obtain ⟨e, he, hke⟩ := hasK_iff.1 hm2
    have := (find_hit hky a3 he hke).2.1
    simpa using this
   obtain ⟨b1, b2, _⟩ := find_hit (e := ⟨kf.1, kf.2, nwrF⟩) hk hn3 (by simp) rfl
   exact ⟨hz, by rw [hsi]; simp, es2, _, _, a1, hp2, b1, by rw [b2, hlen3, a2]⟩
  ·right
   have hmiss1 : hasK es1 ky = false := hasK_not.2 (fun x hx h => by
    have h1 := honly x hx (by rw [← hkyg, ← h]; rfl)
    rw [h1] at h
    exact e h)
   refine ⟨hz, by rw [hsi, decide_eq_false e], find_miss hky hmiss1, ?_⟩
   have hp2 : putF 10 es1 g y nwrF = ((if es1.length = 10 then es1.tail else es1) ++ [⟨ky.1, ky.2, nwrF⟩], 0) := by
    rw [put_is hky (by decide)]
    unfold mStore
    rw [hmiss1]
    rfl
   obtain ⟨es3, he3⟩ : ∃ es3, (if es1.length = 10 then es1.tail else es1) ++ [(⟨ky.1, ky.2, nwrF⟩ : Ent)] = es3 := ⟨_, rfl⟩
   have hn3 : Kd' es3 := by
    have := store_nodup (room := 10) (k := ky) (t := nwrF) hn1
    unfold mStore at this
    rw [hmiss1] at this
    rw [← he3]
    exact this
   have hlen3 : es3.length = min (es1.length + 1) 10 := by
    rw [← he3, List.length_append]
    split
    ·rw [List.length_tail]; simp only [List.length_cons, List.length_nil]; omega
    ·simp only [List.length_cons, List.length_nil]; omega
   rw [he3] at hp2
   cases hh : hasK es3 kf with
   | false => exact ⟨es3, es3, eStr, false, hp2, find_miss hk hh, hlen3, fun h => by cases h⟩
   | true =>
    obtain ⟨x, hx, hkx⟩ := hasK_iff.1 hh
    obtain ⟨b1, b2, _⟩ := find_hit hk hn3 hx hkx
    refine ⟨es3, _, _, true, hp2, b1, by rw [b2, hlen3], fun _ => ?_⟩
    rw [← he3] at hx
    rcases List.mem_append.1 hx with h | h
    ·have h1 : x ∈ es1 := by
      split at h
      ·exact List.mem_of_mem_tail h
      ·exact h
     rw [honly x h1 (by rw [← hkg, ← hkx]; rfl)]
    ·simp only [List.mem_singleton] at h
     rw [h] at hkx
     exact absurd hkx.symm e
 ·left
  refine ⟨hz, ?_⟩
  have hz2 := hz
  rw [same_err hk] at hz2
  unfold findF
  rw [if_pos hz2, same_err hk]
set_option maxRecDepth 1000000 in
set_option maxHeartbeats 4000000 in
theorem MS.len {U : Nat → Prop} {w : World} {m room : Nat} {es : List Ent} (h : MS U w m room es) :
  Calls Tryz.prog 21 #[.pointer (some ⟨m, 0, none⟩)] w fun e w' => e = .returned (.int .i64 es.length) ∧ w' = w := by
 obtain ⟨mp, r, N, P, D, l, kv, hM, hes, hlen, hr1, hr2⟩ := h
 obtain ⟨m0, m1, m2⟩ := mc_cells hM.mem
 have HL := Lib.hid (show (kv.length : Int) = es.length by have := hM.perm.length_eq; rw [List.length_map] at this; rw [← hes, List.length_map, this])
 have hln : (Builtin.len_ #[60] 3 #[.map (some mp)]).run Tryz.prog w = .ok (.int .i64 kv.length) w := hM.map.len 3
 clear hM hes hlen hr1 hr2
 go_enter Tryz.func21, Tryz.ntmps21
 go_wp2
 go_ret
 exact ⟨by rw [← HL.out]; rfl, rfl⟩
def roomOf (n : Int) : Nat := (min (max n 1) 256).toNat
theorem roomOf_is (n : Int) : ((roomOf n : Nat) : Int) = min (max n 1) 256 := by unfold roomOf; omega
theorem rg_nil (r : Nat) : Rg (fun _ => r) (fun _ => r) r [] := ⟨by simp, rfl, rfl, trivial⟩
theorem new_state (w : World) (n : Int) : MS (fun k => w.heap.size ≤ k) (((w.alloc (.cells (nd ⟨eStr, eStr, eStr⟩ w.heap.size w.heap.size) 59)).alloc (.map #[] 0)).alloc (.cells #[.int .i64 (min (max n 1) 256), .map (some (w.heap.size + 1)), .pointer (some ⟨w.heap.size, 0, none⟩)] 62)) (w.heap.size + 2) (roomOf n) [] ∧
  Below w.heap.size w (((w.alloc (.cells (nd ⟨eStr, eStr, eStr⟩ w.heap.size w.heap.size) 59)).alloc (.map #[] 0)).alloc (.cells #[.int .i64 (min (max n 1) 256), .map (some (w.heap.size + 1)), .pointer (some ⟨w.heap.size, 0, none⟩)] 62)) := by
 have hs1 : (w.alloc (.cells (nd ⟨eStr, eStr, eStr⟩ w.heap.size w.heap.size) 59)).heap.size = w.heap.size + 1 := by show (w.heap.push _).size = _; simp
 have hs2 : ((w.alloc (.cells (nd ⟨eStr, eStr, eStr⟩ w.heap.size w.heap.size) 59)).alloc (.map #[] 0)).heap.size = w.heap.size + 2 := by show ((w.heap.push _).push _).size = _; simp
 have b1 := blk_new w (.cells (nd ⟨eStr, eStr, eStr⟩ w.heap.size w.heap.size) 59)
 have b2 : ((w.alloc (.cells (nd ⟨eStr, eStr, eStr⟩ w.heap.size w.heap.size) 59)).alloc (.map #[] 0)).heap[w.heap.size + 1]? = some (.map #[] 0) := by
  show ((w.heap.push _).push _)[w.heap.size + 1]? = _
  rw [Array.getElem?_push]
  simp
 have b3 := blk_new ((w.alloc (.cells (nd ⟨eStr, eStr, eStr⟩ w.heap.size w.heap.size) 59)).alloc (.map #[] 0)) (.cells #[.int .i64 (min (max n 1) 256), .map (some (w.heap.size + 1)), .pointer (some ⟨w.heap.size, 0, none⟩)] 62)
 rw [hs2] at b3
 have hr := roomOf_is n
 refine ⟨⟨w.heap.size + 1, w.heap.size, fun _ => w.heap.size, fun _ => w.heap.size, fun _ => ⟨eStr, eStr, eStr⟩, [], [], ⟨?_, ⟨rg_nil _, fun x hx => ?_⟩, ⟨#[], 0, ?_, rfl⟩, List.Perm.nil, List.nodup_nil, by omega, by omega, fun x hx => ?_⟩, rfl, Nat.zero_le _, by omega, by omega⟩, ?_⟩
 ·unfold mc
  rw [hr]
  exact b3
 ·have : x = w.heap.size := by simpa using hx
  subst this
  exact (Below.heap_alloc _ _ _ (by rw [hs2]; omega)).trans ((Below.heap_alloc _ _ _ (by rw [hs1]; omega)).trans b1)
 ·exact (Below.heap_alloc _ _ _ (by rw [hs2]; omega)).trans b2
 ·have : x = w.heap.size := by simpa using hx
  omega
 ·exact (((Below.refl _ _).alloc (Nat.le_refl _) _).alloc (by rw [hs1]; omega) _).alloc (by rw [hs2]; omega) _
set_option maxRecDepth 1000000 in
set_option maxHeartbeats 4000000 in
theorem new_any (w : World) (n : Int) : Calls Tryz.prog 9 #[.int .i64 n] w fun e w' => ∃ m, e = .returned (.pointer (some ⟨m, 0, none⟩)) ∧ MS (fun k => w.heap.size ≤ k) w' m (roomOf n) [] ∧ Below w.heap.size w w' := by
 have HN := Lib.hid (new_state w n)
 have hmk : ∀ W : World, (Instr.makeMap 60 none).run Tryz.prog W = .ok (.map (some W.heap.size)) (W.alloc (.map #[] 0)) := fun W => by kernel_rfl
 go_enter Tryz.func9, Tryz.ntmps9
 go_wp2
 go_ret
 exact ⟨w.heap.size + 2, rfl, HN.out⟩
/-- The closure's variables: the language, the memory, the count. -/
structure FgV (w : World) (q1 q2 q3 m : Nat) (g : ByteArray) (c : Int) : Prop where
 lang : w.heap[q1]? = some (.cells #[.string g] 9 (0, 0))
 mem : w.heap[q2]? = some (.cells #[.pointer (some ⟨m, 0, none⟩)] 25 (0, 0))
 cnt : w.heap[q3]? = some (.cells #[.int .i64 c] 3 (0, 0))
/-- A block of cells that are no node's and no memory's stands still. -/
theorem keep_blk {U : Nat → Prop} {w w' : World} {m room mp r : Nat} {N P : Nat → Nat} {D : Nat → Ent} {l : List Nat} {kv : List (Key × Nat)} (h : MM U w m room mp r N P D l kv) (hk : Keep mp (r :: l) w w') {q t : Nat} {X : Array Value} (hq : w.heap[q]? = some (.cells X t (0, 0))) (ht : t ≠ 59) : w'.heap[q]? = some (.cells X t (0, 0)) := by
 refine (hk q (fun e => ?_) (fun e => ?_)).trans hq
 ·obtain ⟨es, cl, h2, _⟩ := h.map
  rw [← e, hq] at h2
  injection h2 with h2
  cases h2
 ·have h2 := h.rg.nodes q e
  rw [hq] at h2
  injection h2 with h2
  injection h2 with _ h2
  exact ht h2
theorem MM.set {U : Nat → Prop} {w : World} {m room mp r : Nat} {N P : Nat → Nat} {D : Nat → Ent} {l : List Nat} {kv : List (Key × Nat)} (h : MM U w m room mp r N P D l kv) {q t : Nat} {X : Array Value} (hq : w.heap[q]? = some (.cells X t (0, 0))) (ht : t ≠ 59) (ht2 : t ≠ 62) (i : Nat) (v : Value) : MM U (w.setCell ⟨q, i, none⟩ v) m room mp r N P D l kv := by
 have h1 : m ≠ q := fun e => by
  have h2 := h.mem
  rw [e, hq] at h2
  injection h2 with h2
  injection h2 with _ h2
  exact ht2 h2
 have h2 : mp ≠ q := fun e => by
  obtain ⟨es, cl, h2, _⟩ := h.map
  rw [e, hq] at h2
  injection h2 with h2
  cases h2
 have h3 : ∀ x ∈ r :: l, x ≠ q := fun x hx e => by
  have h2 := h.rg.nodes x hx
  rw [e, hq] at h2
  injection h2 with h2
  injection h2 with _ h2
  exact ht h2
 exact ⟨(Below.heap_setCell _ _ _ _ h1).trans h.mem, h.rg.step (fun x hx => Below.heap_setCell _ _ _ _ (h3 x hx)), h.map.step (Below.heap_setCell _ _ _ _ h2), h.perm, h.keys, h.base⟩
theorem lang_beq (a b : ByteArray) : (a.toList == b.toList) = decide (a = b) := by
 by_cases h : a = b
 ·subst h; simp
 ·rw [decide_eq_false h, beq_eq_false_iff_ne]
  exact fun e => h (toList_inj e)
set_option maxRecDepth 1000000 in
set_option maxHeartbeats 4000000 in
theorem forget1_gone {U : Nat → Prop} {w : World} {m room mp r n q1 q2 q3 : Nat} {N P : Nat → Nat} {D : Nat → Ent} {a b : List Nat} {kv : List (Key × Nat)} {g : ByteArray} {c : Int} (h : MM U w m room mp r N P D (a ++ n :: b) kv) (hv : FgV w q1 q2 q3 m g c) (hc0 : 0 ≤ c) (hc1 : c < 1000000) (hg : (D n).lang = g) (hq3 : U q3) :
  Calls Tryz.prog 33 #[.pointer (some ⟨n, 0, none⟩), .pointer (some ⟨q1, 0, none⟩), .pointer (some ⟨q2, 0, none⟩), .pointer (some ⟨q3, 0, none⟩)] w fun e w' => e = .returned (.tuple #[]) ∧ KU U w w' ∧ FgV w' q1 q2 q3 m g (c + 1) ∧ ∃ N' P' kv', MM U w' m room mp r N' P' D (a ++ b) kv' := by
 have n0 := blk_cell (h.rg.nodes n (by simp)) 0
 have l0 := blk_cell hv.lang 0
 have HS := Lib.hid (show w.drew.cell? ⟨n, 0, none⟩ = some (.string (D n).lang) ∧ w.drew.cell? ⟨q1, 0, none⟩ = some (.string g) from ⟨n0, l0⟩)
 have HG := Lib.hid (show ((D n).lang.toList == g.toList) = true by rw [lang_beq, hg]; simp)
 have HM := Lib.hid (h.step (w' := w.drew) (Below.drew (Below.refl _ _)))
 have HV := Lib.hid (show FgV w.drew q1 q2 q3 m g c from ⟨hv.lang, hv.mem, hv.cnt⟩)
 have hgg := HG.out
 clear h hv n0 l0 hg
 go_enter Tryz.func33, Tryz.ntmps33
 go_wp2
 refine start_ (n := 7) (S := fun w' => w'.cell? ⟨n, 0, none⟩ = some (.string (D n).lang) ∧ w'.cell? ⟨q1, 0, none⟩ = some (.string g)) (ds := []) #[false, false, false, false, false, false, false] (by kernel_rfl) rfl rfl HS.out (fun hHeld => ?_)
 refine pure_ (i := 0) (N := (some 5)) (v := ?_) (a' := ?_) #[true, false, false, false, false, false, false] rfl rfl (by kernel_rfl) (fun _ _ _ h => h) (Or.inl ⟨by rfl, ?_⟩) ?_ ?_
 rotate_left
 ·intro w'
  go_simp
  with_reducible rfl
 rotate_left
 ·simp only [Act.put, List.setIfInBounds_toArray, List.set_cons_zero, List.set_cons_succ]
  rfl
 refine pure_ (i := 1) (N := (some 6)) (v := ?_) (a' := ?_) #[true, true, false, false, false, false, false] rfl rfl (by kernel_rfl) (fun _ _ _ h => h) (Or.inl ⟨by rfl, ?_⟩) ?_ ?_
 rotate_left
 ·intro w'
  go_simp
  with_reducible rfl
 rotate_left
 ·simp only [Act.put, List.setIfInBounds_toArray, List.set_cons_zero, List.set_cons_succ]
  rfl
 refine pure_ (i := 2) (N := (some 7)) (v := ?_) (a' := ?_) #[true, true, true, false, false, false, false] rfl rfl (by kernel_rfl) (fun _ _ _ h => h) (Or.inl ⟨by rfl, ?_⟩) ?_ ?_
 rotate_left
 ·intro w'
  go_simp
  with_reducible rfl
 rotate_left
 ·simp only [Act.put, List.setIfInBounds_toArray, List.set_cons_zero, List.set_cons_succ]
  rfl
 refine pure_ (i := 3) (N := (some 8)) (v := ?_) (a' := ?_) #[true, true, true, true, false, false, false] rfl rfl (by kernel_rfl) (fun _ _ _ h => h) (Or.inl ⟨by rfl, ?_⟩) ?_ ?_
 rotate_left
 ·intro w'
  go_simp
  with_reducible rfl
 rotate_left
 ·simp only [Act.put, List.setIfInBounds_toArray, List.set_cons_zero, List.set_cons_succ]
  rfl
 refine take_ (i := 4) (N := (some 9)) (v := ?_) (a' := ?_) #[true, true, true, true, true, false, false] rfl rfl (by kernel_rfl) (fun _ _ _ h => h) (Or.inl ⟨by rfl, ?_⟩) hHeld ?_ ?_
 rotate_left
 ·rintro w' ⟨s1, s2⟩
  go_simp
  with_reducible rfl
 rotate_left
 ·simp only [Act.put, List.setIfInBounds_toArray, List.set_cons_zero, List.set_cons_succ]
  rfl
 refine take_ (i := 5) (N := (some 10)) (v := ?_) (a' := ?_) #[true, true, true, true, true, true, false] rfl rfl (by kernel_rfl) (fun _ _ _ h => h) (Or.inl ⟨by rfl, ?_⟩) hHeld ?_ ?_
 rotate_left
 ·rintro w' ⟨s1, s2⟩
  go_simp
  with_reducible rfl
 rotate_left
 ·simp only [Act.put, List.setIfInBounds_toArray, List.set_cons_zero, List.set_cons_succ]
  rfl
 refine pure_ (i := 6) (N := (some 11)) (v := ?_) (a' := ?_) #[true, true, true, true, true, true, true] rfl rfl (by kernel_rfl) (fun _ _ _ h => h) (Or.inl ⟨by rfl, ?_⟩) ?_ ?_
 rotate_left
 ·intro w'
  go_simp
  with_reducible rfl
 rotate_left
 ·simp only [Act.put, List.setIfInBounds_toArray, List.set_cons_zero, List.set_cons_succ]
  rfl
 refine done_ (by kernel_rfl) ?_
 clear hHeld
 have HBD := Lib.hid (show KU U w w.drew from (KU.refl _ _).drew)
 generalize w.drew = w2 at HM HV HBD ⊢
 have m2 : w2.cell? ⟨q2, 0, none⟩ = some (.pointer (some ⟨m, 0, none⟩)) := blk_cell HV.out.mem 0
 have HR := Lib.hid HM.out.remove
 go_wp2_with fail
 refine HR.out.mono ?_
 rintro e w3 ⟨rfl, hb3, hk3, hs3, N3, P3, hm3⟩
 have HV3 := Lib.hid (show FgV w3 q1 q2 q3 m g c from ⟨keep_blk HM.out hk3 HV.out.lang (by decide), keep_blk HM.out hk3 HV.out.mem (by decide), keep_blk HM.out hk3 HV.out.cnt (by decide)⟩)
 have HM3 := Lib.hid hm3
 have HB3 := Lib.hid (HBD.out.trans hb3)
 have c3 : w3.cell? ⟨q3, 0, none⟩ = some (.int .i64 c) := blk_cell HV3.out.cnt 0
 have f3 : w3.frozen? ⟨q3, 0, none⟩ = false := blk_frozen HV3.out.cnt 0
 clear hb3 hk3 hs3 hm3 m2 hgg
 go_wp2
 go_end0
 have hw : wrap64 (c + 1) = c + 1 := wrap_small (by omega) (by omega)
 have hq31 : q1 ≠ q3 := fun e => by have h1 := HV3.out.lang; rw [e, HV3.out.cnt] at h1; injection h1 with h1; injection h1 with _ h1; exact absurd h1 (by decide)
 have hq32 : q2 ≠ q3 := fun e => by have h1 := HV3.out.mem; rw [e, HV3.out.cnt] at h1; injection h1 with h1; injection h1 with _ h1; exact absurd h1 (by decide)
 have hset := blk_set HV3.out.cnt 0 (.int .i64 (c + 1))
 exact ⟨rfl, HB3.out.setCell (p := ⟨q3, 0, none⟩) hq3 _, ⟨(Below.heap_setCell _ _ _ _ hq31).trans HV3.out.lang, (Below.heap_setCell _ _ _ _ hq32).trans HV3.out.mem, by simpa using hset⟩, N3, P3, _, HM3.out.set HV3.out.cnt (by decide) (by decide) 0 _⟩
set_option maxRecDepth 1000000 in
set_option maxHeartbeats 4000000 in
theorem forget1_stay {U : Nat → Prop} {w : World} {m room mp r n q1 q2 q3 : Nat} {N P : Nat → Nat} {D : Nat → Ent} {l : List Nat} {kv : List (Key × Nat)} {g : ByteArray} {c : Int} (h : MM U w m room mp r N P D l kv) (hnl : n ∈ l) (hv : FgV w q1 q2 q3 m g c) (hg : (D n).lang ≠ g) :
  Calls Tryz.prog 33 #[.pointer (some ⟨n, 0, none⟩), .pointer (some ⟨q1, 0, none⟩), .pointer (some ⟨q2, 0, none⟩), .pointer (some ⟨q3, 0, none⟩)] w fun e w' => e = .returned (.tuple #[]) ∧ w' = w.drew := by
 have n0 := blk_cell (h.rg.nodes n (List.mem_cons_of_mem _ hnl)) 0
 have l0 := blk_cell hv.lang 0
 have HS := Lib.hid (show w.drew.cell? ⟨n, 0, none⟩ = some (.string (D n).lang) ∧ w.drew.cell? ⟨q1, 0, none⟩ = some (.string g) from ⟨n0, l0⟩)
 have hgg : ((D n).lang.toList == g.toList) = false := by rw [lang_beq, decide_eq_false hg]
 clear h hv n0 l0 hg hnl
 go_enter Tryz.func33, Tryz.ntmps33
 go_wp2
 refine start_ (n := 7) (S := fun w' => w'.cell? ⟨n, 0, none⟩ = some (.string (D n).lang) ∧ w'.cell? ⟨q1, 0, none⟩ = some (.string g)) (ds := []) #[false, false, false, false, false, false, false] (by kernel_rfl) rfl rfl HS.out (fun hHeld => ?_)
 refine pure_ (i := 0) (N := (some 5)) (v := ?_) (a' := ?_) #[true, false, false, false, false, false, false] rfl rfl (by kernel_rfl) (fun _ _ _ h => h) (Or.inl ⟨by rfl, ?_⟩) ?_ ?_
 rotate_left
 ·intro w'
  go_simp
  with_reducible rfl
 rotate_left
 ·simp only [Act.put, List.setIfInBounds_toArray, List.set_cons_zero, List.set_cons_succ]
  rfl
 refine pure_ (i := 1) (N := (some 6)) (v := ?_) (a' := ?_) #[true, true, false, false, false, false, false] rfl rfl (by kernel_rfl) (fun _ _ _ h => h) (Or.inl ⟨by rfl, ?_⟩) ?_ ?_
 rotate_left
 ·intro w'
  go_simp
  with_reducible rfl
 rotate_left
 ·simp only [Act.put, List.setIfInBounds_toArray, List.set_cons_zero, List.set_cons_succ]
  rfl
 refine pure_ (i := 2) (N := (some 7)) (v := ?_) (a' := ?_) #[true, true, true, false, false, false, false] rfl rfl (by kernel_rfl) (fun _ _ _ h => h) (Or.inl ⟨by rfl, ?_⟩) ?_ ?_
 rotate_left
 ·intro w'
  go_simp
  with_reducible rfl
 rotate_left
 ·simp only [Act.put, List.setIfInBounds_toArray, List.set_cons_zero, List.set_cons_succ]
  rfl
 refine pure_ (i := 3) (N := (some 8)) (v := ?_) (a' := ?_) #[true, true, true, true, false, false, false] rfl rfl (by kernel_rfl) (fun _ _ _ h => h) (Or.inl ⟨by rfl, ?_⟩) ?_ ?_
 rotate_left
 ·intro w'
  go_simp
  with_reducible rfl
 rotate_left
 ·simp only [Act.put, List.setIfInBounds_toArray, List.set_cons_zero, List.set_cons_succ]
  rfl
 refine take_ (i := 4) (N := (some 9)) (v := ?_) (a' := ?_) #[true, true, true, true, true, false, false] rfl rfl (by kernel_rfl) (fun _ _ _ h => h) (Or.inl ⟨by rfl, ?_⟩) hHeld ?_ ?_
 rotate_left
 ·rintro w' ⟨s1, s2⟩
  go_simp
  with_reducible rfl
 rotate_left
 ·simp only [Act.put, List.setIfInBounds_toArray, List.set_cons_zero, List.set_cons_succ]
  rfl
 refine take_ (i := 5) (N := (some 10)) (v := ?_) (a' := ?_) #[true, true, true, true, true, true, false] rfl rfl (by kernel_rfl) (fun _ _ _ h => h) (Or.inl ⟨by rfl, ?_⟩) hHeld ?_ ?_
 rotate_left
 ·rintro w' ⟨s1, s2⟩
  go_simp
  with_reducible rfl
 rotate_left
 ·simp only [Act.put, List.setIfInBounds_toArray, List.set_cons_zero, List.set_cons_succ]
  rfl
 refine pure_ (i := 6) (N := (some 11)) (v := ?_) (a' := ?_) #[true, true, true, true, true, true, true] rfl rfl (by kernel_rfl) (fun _ _ _ h => h) (Or.inl ⟨by rfl, ?_⟩) ?_ ?_
 rotate_left
 ·intro w'
  go_simp
  with_reducible rfl
 rotate_left
 ·simp only [Act.put, List.setIfInBounds_toArray, List.set_cons_zero, List.set_cons_succ]
  rfl
 refine done_ (by kernel_rfl) ?_
 clear hHeld
 go_wp2
 go_end0
 exact ⟨rfl, rfl⟩
theorem neq_other (w : World) {a b : Addr} {ca cb : Array Value} {ta tb : TypeId} (hne : a ≠ b) (ha : w.heap[a.block]? = some (.cells ca ta (0, 0))) (hb : w.heap[b.block]? = some (.cells cb tb (0, 0))) : (binOp .neq 55 (.pointer (some a)) (.pointer (some b))).run Tryz.prog w = .ok (.bool true) w := by
 obtain ⟨j, hj, hz⟩ := Option.map_eq_some_iff.1 (show (Tryz.prog.info? 59).map (·.size) = some 5 by kernel_rfl)
 have h : ∀ d : Nat, (Op.equalIn (d + 1) 55 (.pointer (some a)) (.pointer (some b))).run Tryz.prog w = .ok false w := fun d => by
  simp [Op.equalIn, run_underlying Tryz.underlying55, sizeOf, typeInfo, hj, hz, run_sameAddr_other w hne ha hb]
 simp only [binOp]
 simp [Op.equal, Op.maxDepth, h 9999]
theorem neq_same (w : World) (a : Addr) : (binOp .neq 55 (.pointer (some a)) (.pointer (some a))).run Tryz.prog w = .ok (.bool false) w := by
 obtain ⟨j, hj, hz⟩ := Option.map_eq_some_iff.1 (show (Tryz.prog.info? 59).map (·.size) = some 5 by kernel_rfl)
 exact Lib.run_neq_ptr_same w a Tryz.underlying55 hj
def keepG (D : Nat → Ent) (g : ByteArray) (p : List Nat) : List Nat := p.filter fun n => decide ((D n).lang ≠ g)
/-- Forget, under way: p is done, b is to do. -/
def EfRel (U : Nat → Prop) (w : World) (m room mp r q1 q2 q3 : Nat) (g : ByteArray) (D : Nat → Ent) (l : List Nat) (v4 : Value) (wr : World) : Prop :=
 ∃ (p b : List Nat) (N P : Nat → Nat) (kv : List (Key × Nat)), l = p ++ b ∧ v4 = .pointer (some ⟨(b ++ [r]).head (by simp), 0, none⟩) ∧ MM U wr m room mp r N P D (keepG D g p ++ b) kv ∧ FgV wr q1 q2 q3 m g ((p.length - (keepG D g p).length : Nat) : Int) ∧ KU U w wr
def ptrOf : Value → Nat
 | .pointer (some a) => a.block
 | _ => 0
theorem idx_mid {p t : List Nat} {x : Nat} (h : x ∉ p) : (p ++ x :: t).idxOf x = p.length := by
 rw [List.idxOf_append, if_neg h]; simp
theorem meas_fall {l p b' : List Nat} {r n : Nat} (hl : l = p ++ n :: b') (hnd : (r :: l).Nodup) : (l ++ [r]).length - (l ++ [r]).idxOf ((b' ++ [r]).head (by simp)) < (l ++ [r]).length - (l ++ [r]).idxOf n := by
 have hd : (l ++ [r]).Nodup := by
  rw [List.nodup_cons] at hnd
  rw [List.nodup_append]
  exact ⟨hnd.2, by simp, by intro a ha b hb e; simp at hb; subst hb; subst e; exact hnd.1 ha⟩
 obtain ⟨x, t, hx⟩ : ∃ x t, b' ++ [r] = x :: t := by
  cases b' with
  | nil => exact ⟨r, [], rfl⟩
  | cons y b' => exact ⟨y, b' ++ [r], rfl⟩
 have e : l ++ [r] = p ++ n :: (x :: t) := by rw [hl, List.append_assoc, List.cons_append, hx]
 have e2 : p ++ n :: (x :: t) = (p ++ [n]) ++ x :: t := by simp
 have h1 : n ∉ p := by
  intro hp
  rw [e, List.nodup_append] at hd
  exact hd.2.2 n hp n (by simp) rfl
 have h2 : x ∉ p ++ [n] := by
  intro hp
  rw [e, e2, List.nodup_append] at hd
  exact hd.2.2 x hp x (by simp) rfl
 simp only [hx, List.head_cons]
 have i1 : (l ++ [r]).idxOf n = p.length := by rw [e]; exact idx_mid h1
 have i2 : (l ++ [r]).idxOf x = p.length + 1 := by rw [e, e2, idx_mid h2]; simp
 have h3 : (l ++ [r]).length = p.length + t.length + 2 := by rw [e]; simp; omega
 rw [i1, i2, h3]
 omega
set_option maxRecDepth 1000000 in
set_option maxHeartbeats 4000000 in
theorem each_forget {U : Nat → Prop} {w : World} {m room mp r q1 q2 q3 : Nat} {N P : Nat → Nat} {D : Nat → Ent} {l : List Nat} {kv : List (Key × Nat)} {g : ByteArray} (h : MM U w m room mp r N P D l kv) (hv : FgV w q1 q2 q3 m g 0) (hq3 : U q3) (hlen : l.length < 1000000) :
  Calls Tryz.prog 32 #[.pointer (some ⟨m, 0, none⟩), .func (.func 33) #[] #[.pointer (some ⟨q1, 0, none⟩), .pointer (some ⟨q2, 0, none⟩), .pointer (some ⟨q3, 0, none⟩)]] w fun e w' => e = .returned (.tuple #[]) ∧ KU U w w' ∧ ∃ N' P' kv', MM U w' m room mp r N' P' D (keepG D g l) kv' ∧ FgV w' q1 q2 q3 m g ((l.length - (keepG D g l).length : Nat) : Int) := by
 have HM := Lib.hid h
 have HV := Lib.hid hv
 have m2 := blk_cell h.mem 2
 have r4 := blk_cell (h.rg.nodes r (by simp)) 4
 have HN := Lib.hid (rg_first h.rg.ring)
 have HND := Lib.hid h.rg.ring.1
 have m2' : w.cell? ⟨m, 2, none⟩ = some (.pointer (some ⟨r, 0, none⟩)) := m2
 have r4' : w.cell? ⟨r, 4, none⟩ = some (.pointer (some ⟨N r, 0, none⟩)) := r4
 clear h hv m2 r4
 go_enter Tryz.func32, Tryz.ntmps32
 go_wp2
 go_loopw [4] (fun v4 wr => EfRel U w m room mp r q1 q2 q3 g D l v4 wr) (fun v4 _ => (l ++ [r]).length - (l ++ [r]).idxOf (ptrOf v4))
 case atStart => exact ⟨[], l, N, P, kv, rfl, by rw [HN.out], HM.out, HV.out, KU.refl _ _⟩
 case round =>
  clear m2' r4'
  obtain ⟨p, b, N1, P1, kv1, hl, rfl, hM, hV, hB⟩ := hrel
  have HM1 := Lib.hid hM
  have HV1 := Lib.hid hV
  have HB1 := Lib.hid hB
  have HL := Lib.hid hl
  have m2 : wr.cell? ⟨m, 2, none⟩ = some (.pointer (some ⟨r, 0, none⟩)) := blk_cell hM.mem 2
  clear hM hV hB hl
  cases b with
  | nil =>
   have hns := neq_same wr ⟨r, 0, none⟩
   have HLP := Lib.hid (show l = p by rw [HL.out, List.append_nil])
   have HM2 := Lib.hid (show MM U wr m room mp r N1 P1 D (keepG D g p) kv1 by have := HM1.out; rwa [List.append_nil] at this)
   simp only [List.nil_append, List.head_cons]
   go_wp2
   go_end0
   rw [HLP.out]
   exact ⟨rfl, HB1.out, N1, P1, kv1, HM2.out, HV1.out⟩
  | cons n b' =>
   have hnr := rg_ne HM1.out.rg.ring
   have hno := neq_other wr (a := ⟨n, 0, none⟩) (b := ⟨r, 0, none⟩) (fun e => hnr.2.2.1 (congrArg Addr.block e)) (HM1.out.rg.nodes n (by simp)) (HM1.out.rg.nodes r (by simp))
   have hnx : N1 n = (b' ++ [r]).head (by simp) := by
    have h2 := (rg_split HM1.out.rg.ring).2
    cases b' with
    | nil => exact h2.1
    | cons y b' => exact h2.1
   have n4 : wr.cell? ⟨n, 4, none⟩ = some (.pointer (some ⟨N1 n, 0, none⟩)) := blk_cell (HM1.out.rg.nodes n (by simp)) 4
   rw [hnx] at n4
   have HKL := Lib.hid (show (keepG D g p).length ≤ p.length from List.length_filter_le _ _)
   have HPL := Lib.hid (show p.length < 1000000 by have := congrArg List.length HL.out; rw [List.length_append] at this; omega)
   clear hnr hnx
   have HMEA := Lib.hid (meas_fall HL.out HND.out)
   simp only [List.cons_append, List.head_cons]
   by_cases hg : (D n).lang = g
   ·have HC := Lib.hid (forget1_gone HM1.out HV1.out (by omega) (by have := HPL.out; omega) hg hq3)
    have HK := Lib.hid (show keepG D g (p ++ [n]) = keepG D g p by unfold keepG; rw [List.filter_append]; simp [hg])
    clear hg
    go_wp2_with fail
    refine HC.out.mono ?_
    rintro e w5 ⟨rfl, hb5, hv5, N5, P5, kv5, hm5⟩
    have HR := Lib.hid (show EfRel U w m room mp r q1 q2 q3 g D l (.pointer (some ⟨(b' ++ [r]).head (by simp), 0, none⟩)) w5 from ⟨p ++ [n], b', N5, P5, kv5, by rw [HL.out]; simp, rfl, by rw [HK.out]; exact hm5, by rw [HK.out]; have := HKL.out; rw [show (((p ++ [n]).length - (keepG D g p).length : Nat) : Int) = ((p.length - (keepG D g p).length : Nat) : Int) + 1 by simp; omega]; exact hv5, HB1.out.trans hb5⟩)
    clear hb5 hv5 hm5
    go_wp2
    go_roundw
    case rel => exact HR.out
    case measure => exact HMEA.out
   ·have HC := Lib.hid (forget1_stay HM1.out (show n ∈ keepG D g p ++ n :: b' by simp) HV1.out hg)
    have HK := Lib.hid (show keepG D g (p ++ [n]) = keepG D g p ++ [n] by unfold keepG; rw [List.filter_append]; simp [hg])
    clear hg
    go_wp2_with fail
    refine HC.out.mono ?_
    rintro e w5 ⟨rfl, rfl⟩
    have HR := Lib.hid (show EfRel U w m room mp r q1 q2 q3 g D l (.pointer (some ⟨(b' ++ [r]).head (by simp), 0, none⟩)) wr.drew from ⟨p ++ [n], b', N1, P1, kv1, by rw [HL.out]; simp, rfl, by rw [HK.out, List.append_assoc]; exact HM1.out.step (Below.drew (Below.refl _ _)), by rw [HK.out]; have := HKL.out; rw [show (((p ++ [n]).length - (keepG D g p ++ [n]).length : Nat) : Int) = ((p.length - (keepG D g p).length : Nat) : Int) by simp]; exact ⟨HV1.out.lang, HV1.out.mem, HV1.out.cnt⟩, HB1.out.drew⟩)
    go_wp2
    go_roundw
    case rel => exact HR.out
    case measure => exact HMEA.out
end Go.Proofs.YtbahnpdgaoedmaaGreatDoor.Mm
