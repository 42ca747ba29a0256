/- Part 17 of the proof of MemoryForms: Mfo, Men, Met, Mq, PMemoryExactx25, Maw, Rq, Mop. -/
import Derived.Test.YtbahnpdgaoedmaaGreatDoorCO16
import Derived.Test.YtbahnpdgaoedmaaGreatDoorCO3
import Derived.Test.YtbahnpdgaoedmaaGreatDoorCO2
import Derived.ChangeArms
import Derived.DataReads
import Derived.ChangeSame
import Derived.Deep.Strs
import Derived.Test.YtbahnpdgaoedmaaGreatDoorCO5
import Derived.OpenShut
namespace Go.Proofs.YtbahnpdgaoedmaaGreatDoor.Mm
open Go.RowKit Go.Proofs.YtbahnpdgaoedmaaGreatDoorW.PrintWords Go.Proofs.YtbahnpdgaoedmaaGreatDoorW.PrintLast Go.Proofs.YtbahnpdgaoedmaaGreatDoorW.PrintMore Go.Proofs.YtbahnpdgaoedmaaGreatDoor.PMemoryExact
set_option linter.unusedSimpArgs false
set_option linter.unusedVariables false
theorem keepG_map (D : Nat → Ent) (g : ByteArray) (l : List Nat) : (keepG D g l).map D = mForget (l.map D) g := by
 unfold keepG mForget
 rw [List.filter_map]
 rfl
theorem forget_boxes (w : World) (m : Nat) (g : ByteArray) :
  FgV (((w.alloc (.cells #[.pointer (some ⟨m, 0, none⟩)] 25)).alloc (.cells #[.string g] 9)).alloc (.cells #[.int .i64 0] 3)) (w.heap.size + 1) w.heap.size (w.heap.size + 2) m g 0 ∧
  Below w.heap.size w (((w.alloc (.cells #[.pointer (some ⟨m, 0, none⟩)] 25)).alloc (.cells #[.string g] 9)).alloc (.cells #[.int .i64 0] 3)) := by
 have hs1 : (w.alloc (.cells #[.pointer (some ⟨m, 0, none⟩)] 25)).heap.size = w.heap.size + 1 := by show (w.heap.push _).size = _; simp
 have hs2 : ((w.alloc (.cells #[.pointer (some ⟨m, 0, none⟩)] 25)).alloc (.cells #[.string g] 9)).heap.size = w.heap.size + 2 := by show ((w.heap.push _).push _).size = _; simp
 have b1 := blk_new w (.cells #[.pointer (some ⟨m, 0, none⟩)] 25)
 have b2 := blk_new (w.alloc (.cells #[.pointer (some ⟨m, 0, none⟩)] 25)) (.cells #[.string g] 9)
 have b3 := blk_new ((w.alloc (.cells #[.pointer (some ⟨m, 0, none⟩)] 25)).alloc (.cells #[.string g] 9)) (.cells #[.int .i64 0] 3)
 rw [hs1] at b2
 rw [hs2] at b3
 refine ⟨⟨?_, ?_, b3⟩, ?_⟩
 ·exact (Below.heap_alloc _ _ _ (by rw [hs2]; omega)).trans b2
 ·exact (Below.heap_alloc _ _ _ (by rw [hs2]; omega)).trans ((Below.heap_alloc _ _ _ (by rw [hs1]; omega)).trans b1)
 ·exact (((Below.refl _ _).alloc (Nat.le_refl _) _).alloc (by rw [hs1]; omega) _).alloc (by rw [hs2]; omega) _
set_option maxRecDepth 1000000 in
set_option maxHeartbeats 4000000 in
theorem MS.forget {U : Nat → Prop} {w : World} {m room : Nat} {es : List Ent} (h : MS U w m room es) (hB : ∀ k, w.heap.size ≤ k → U k) (g : ByteArray) :
  Calls Tryz.prog 15 #[.pointer (some ⟨m, 0, none⟩), .string g] w fun e w' => e = .returned (.int .i64 ((es.length - (mForget es g).length : Nat) : Int)) ∧ KU U w w' ∧ MS U w' m room (mForget es g) := by
 obtain ⟨mp, r, N, P, D, l, kv, hM, hes, hlen, hr1, hr2⟩ := h
 have HFB := Lib.hid (forget_boxes w m g)
 have HEF := Lib.hid (each_forget (hM.step HFB.out.2) HFB.out.1 (hB _ (by omega)) (by rw [← hes, List.length_map] at hlen; omega))
 have HB := Lib.hid (show KU U w _ from KU.of HFB.out.2)
 have HL := Lib.hid (show (es.length - (mForget es g).length : Nat) = l.length - (keepG D g l).length ∧ (keepG D g l).map D = mForget es g ∧ (mForget es g).length ≤ room by
  have h1 : (keepG D g l).map D = mForget es g := by rw [keepG_map, hes]
  have h2 : (mForget es g).length ≤ es.length := (forget_sub es g).length_le
  refine ⟨?_, h1, by omega⟩
  rw [← h1, ← hes, List.length_map, List.length_map])
 clear hM hes hlen hB
 go_enter Tryz.func15, Tryz.ntmps15
 go_wp2_with fail
 refine HEF.out.mono ?_
 rintro e w3 ⟨rfl, hb3, N3, P3, kv3, hm3, hv3⟩
 have HM3 := Lib.hid hm3
 have HB3 := Lib.hid (HB.out.trans hb3)
 have c3 : w3.cell? ⟨w.heap.size + 2, 0, none⟩ = some (.int .i64 ((l.length - (keepG D g l).length : Nat) : Int)) := blk_cell hv3.cnt 0
 clear hb3 hm3 hv3
 go_wp2
 go_ret
 rw [HL.out.1]
 exact ⟨rfl, HB3.out, mp, r, N3, P3, D, _, kv3, HM3.out, HL.out.2.1, HL.out.2.2, hr1, hr2⟩
/-- A row of pairs of strings. -/
def kp : Kd (ByteArray × ByteArray) := Kd.pair Kd.string Kd.string
theorem kp_mkF (W : World) (ok : Nat → Prop) (x : ByteArray × ByteArray) : Kd.FK kp W ok x [.string x.1, .string x.2] := fun W2 _ => ⟨[.string x.1], [.string x.2], rfl, rfl, rfl⟩
theorem info48 : (Tryz.prog.info? 48).map (fun i => (i.zero, i.size, i.bytes)) = some (some (.agg #[.string ⟨#[]⟩, .string ⟨#[]⟩]), 2, 32) := by kernel_rfl
/-- The closure's variable: the row so far. -/
def EnV (w0 w : World) (q : Nat) (xs : List (ByteArray × ByteArray)) : Prop := ∃ v, w.heap[q]? = some (.cells #[v] 44 (0, 0)) ∧ Kd.N kp 48 w (q + 1) (fun k => q + 1 ≤ k) v xs ∧ Below q w0 w ∧ q < w.heap.size
set_option maxRecDepth 1000000 in
set_option maxHeartbeats 4000000 in
theorem entries1 {w0 w : World} {q n p x : Nat} {D : Ent} {xs : List (ByteArray × ByteArray)} (hn : w.heap[n]? = some (.cells (nd D p x) 59 (0, 0))) (hnq : n < q) (hv : EnV w0 w q xs) (hlen : xs.length < 1000000) :
  Calls Tryz.prog 36 #[.pointer (some ⟨n, 0, none⟩), .pointer (some ⟨q, 0, none⟩)] w fun e w' => e = .returned (.tuple #[]) ∧ EnV w0 w' q (xs ++ [(D.lang, D.text)]) := by
 obtain ⟨v, hq, hN, hB, hqs⟩ := hv
 have HS := Lib.hid (show w.cell? ⟨n, 0, none⟩ = some (.string D.lang) ∧ w.cell? ⟨n, 2, none⟩ = some (.string D.text) ∧ w.cell? ⟨q, 0, none⟩ = some v from ⟨blk_cell hn 0, blk_cell hn 2, blk_cell hq 0⟩)
 have HQ := Lib.hid hq
 have HCK := Lib.hid (show ∀ w', Below (q + 1) w w' → w'.cell? ⟨n, 0, none⟩ = some (.string D.lang) ∧ w'.cell? ⟨n, 2, none⟩ = some (.string D.text) ∧ w'.cell? ⟨q, 0, none⟩ = some v from fun w' s0 => ⟨(s0.cell (by show n < q + 1; omega)).trans HS.out.1, (s0.cell (by show n < q + 1; omega)).trans HS.out.2.1, (s0.cell (by show q < q + 1; omega)).trans HS.out.2.2⟩)
 have HN := Lib.hid (show Kd.N kp 48 w.drew (q + 1) (fun k => q + 1 ≤ k) v xs from Kd.N_below hN (Below.drew (Below.refl _ _)))
 have HB := Lib.hid hB
 have HQS := Lib.hid (And.intro hnq (And.intro hqs (And.intro (World.block_lt_of_cell? w _ HS.out.1) hlen)))
 clear hn hnq hq hN hB hqs hlen
 go_enter Tryz.func36, Tryz.ntmps36
 refine start_ (n := 14) (S := fun w' => Below (q + 1) w w') (ds := [12, 13]) #[false, false, false, false, false, false, false, false, false, false, false, false, false, false] (by kernel_rfl) rfl rfl (Below.drew (Below.refl _ _)) (fun hHeld => ?_)
 refine take_ (i := 0) (N := (some 3)) (v := ?_) (a' := ?_) #[true, false, false, false, false, false, false, false, false, false, false, false, false, false] rfl rfl (by kernel_rfl) (fun _ _ _ h => h) (Or.inl ⟨by rfl, ?_⟩) hHeld ?_ ?_
 rotate_left
 ·rintro w' s0
  obtain ⟨k0, k2, kq⟩ := HCK.out _ s0
  go_simp
  with_reducible rfl
 rotate_left
 ·simp only [Act.put, List.setIfInBounds_toArray, List.set_cons_zero, List.set_cons_succ]
  rfl
 refine pure_ (i := 1) (N := (some 4)) (v := ?_) (a' := ?_) #[true, true, false, false, false, false, false, false, false, false, false, false, false, false] rfl rfl (by kernel_rfl) (fun _ _ _ h => h) (Or.inl ⟨by rfl, ?_⟩) ?_ ?_
 rotate_left
 ·intro w'
  go_simp
  with_reducible rfl
 rotate_left
 ·simp only [Act.put, List.setIfInBounds_toArray, List.set_cons_zero, List.set_cons_succ]
  rfl
 refine pure_ (i := 2) (N := (some 5)) (v := ?_) (a' := ?_) #[true, true, true, false, false, false, false, false, false, false, false, false, false, false] rfl rfl (by kernel_rfl) (fun _ _ _ h => h) (Or.inl ⟨by rfl, ?_⟩) ?_ ?_
 rotate_left
 ·intro w'
  go_simp
  with_reducible rfl
 rotate_left
 ·simp only [Act.put, List.setIfInBounds_toArray, List.set_cons_zero, List.set_cons_succ]
  rfl
 refine pure_ (i := 3) (N := (some 6)) (v := ?_) (a' := ?_) #[true, true, true, true, false, false, false, false, false, false, false, false, false, false] rfl rfl (by kernel_rfl) (fun _ _ _ h => h) (Or.inl ⟨by rfl, ?_⟩) ?_ ?_
 rotate_left
 ·intro w'
  go_simp
  with_reducible rfl
 rotate_left
 ·simp only [Act.put, List.setIfInBounds_toArray, List.set_cons_zero, List.set_cons_succ]
  rfl
 refine pure_ (i := 4) (N := (some 7)) (v := ?_) (a' := ?_) #[true, true, true, true, true, false, false, false, false, false, false, false, false, false] rfl rfl (by kernel_rfl) (fun _ _ _ h => h) (Or.inl ⟨by rfl, ?_⟩) ?_ ?_
 rotate_left
 ·intro w'
  go_simp
  with_reducible rfl
 rotate_left
 ·simp only [Act.put, List.setIfInBounds_toArray, List.set_cons_zero, List.set_cons_succ]
  rfl
 refine take_ (i := 5) (N := (some 8)) (v := ?_) (a' := ?_) #[true, true, true, true, true, true, false, false, false, false, false, false, false, false] rfl rfl (by kernel_rfl) (fun _ _ _ h => h) (Or.inl ⟨by rfl, ?_⟩) hHeld ?_ ?_
 rotate_left
 ·rintro w' s0
  obtain ⟨k0, k2, kq⟩ := HCK.out _ s0
  go_simp
  with_reducible rfl
 rotate_left
 ·simp only [Act.put, List.setIfInBounds_toArray, List.set_cons_zero, List.set_cons_succ]
  rfl
 refine pure_ (i := 6) (N := (some 9)) (v := ?_) (a' := ?_) #[true, true, true, true, true, true, true, false, false, false, false, false, false, false] rfl rfl (by kernel_rfl) (fun _ _ _ h => h) (Or.inl ⟨by rfl, ?_⟩) ?_ ?_
 rotate_left
 ·intro w'
  go_simp
  with_reducible rfl
 rotate_left
 ·simp only [Act.put, List.setIfInBounds_toArray, List.set_cons_zero, List.set_cons_succ]
  rfl
 refine pure_ (i := 7) (N := (some 10)) (v := ?_) (a' := ?_) #[true, true, true, true, true, true, true, true, false, false, false, false, false, false] rfl rfl (by kernel_rfl) (fun _ _ _ h => h) (Or.inl ⟨by rfl, ?_⟩) ?_ ?_
 rotate_left
 ·intro w'
  go_simp
  with_reducible rfl
 rotate_left
 ·simp only [Act.put, List.setIfInBounds_toArray, List.set_cons_zero, List.set_cons_succ]
  rfl
 refine pure_ (i := 8) (N := (some 11)) (v := ?_) (a' := ?_) #[true, true, true, true, true, true, true, true, true, false, false, false, false, false] rfl rfl (by kernel_rfl) (fun _ _ _ h => h) (Or.inl ⟨by rfl, ?_⟩) ?_ ?_
 rotate_left
 ·intro w'
  go_simp
  with_reducible rfl
 rotate_left
 ·simp only [Act.put, List.setIfInBounds_toArray, List.set_cons_zero, List.set_cons_succ]
  rfl
 refine take_ (i := 9) (N := (some 12)) (v := ?_) (a' := ?_) #[true, true, true, true, true, true, true, true, true, true, false, false, false, false] rfl rfl (by kernel_rfl) (fun _ _ _ h => h) (Or.inl ⟨by rfl, ?_⟩) hHeld ?_ ?_
 rotate_left
 ·rintro w' s0
  obtain ⟨k0, k2, kq⟩ := HCK.out _ s0
  go_simp
  with_reducible rfl
 rotate_left
 ·simp only [Act.put, List.setIfInBounds_toArray, List.set_cons_zero, List.set_cons_succ]
  rfl
 refine pure_ (i := 10) (N := (some 13)) (v := ?_) (a' := ?_) #[true, true, true, true, true, true, true, true, true, true, true, false, false, false] rfl rfl (by kernel_rfl) (fun _ _ _ h => h) (Or.inl ⟨by rfl, ?_⟩) ?_ ?_
 rotate_left
 ·intro w'
  go_simp
  with_reducible rfl
 rotate_left
 ·simp only [Act.put, List.setIfInBounds_toArray, List.set_cons_zero, List.set_cons_succ]
  rfl
 refine one_ (i := 11) (N := (some 14)) #[true, true, true, true, true, true, true, true, true, true, true, true, false, false] rfl rfl (by kernel_rfl) (by decide) (fun K hK => ?_)
 go_simp
 refine hK.out _ _ (hHeld.alloc (by have := hHeld.size; have := HQS.out.2.1; omega) _) (fun hHeld => ?_)
 clear hK K
 (try simp only [Act.put, List.setIfInBounds_toArray, List.set_cons_zero, List.set_cons_succ])
 refine last_ (i := 12) (N := (some 15)) #[true, true, true, true, true, true, true, true, true, true, true, true, true, false] rfl rfl (by kernel_rfl) (by decide) (fun K hK => ?_)
 refine Kd.N_append_step kp (w0 := w) (W := w.drew) (q + 1) (by rfl) (.tmp 3) (.tmp 14) 44 48 (.agg #[.string ⟨#[]⟩, .string ⟨#[]⟩]) 32 rfl Tryz.underlying44 info48 rfl (by show 0 < 2; decide) (by decide) v xs (D.lang, D.text) [.string D.lang, .string D.text] (fun k => q + 1 ≤ k) (fun _ => False) rfl rfl (kp_mkF _ _ _) (fun _ h => h.elim) (fun k hk => by have : w.heap.size ≤ k := hk; have := HQS.out.2.1; omega) HN.out (Below.drew (Below.refl _ _)) (by show q + 1 ≤ w.heap.size; have := HQS.out.2.1; omega) (by have := HQS.out.2.2.2; omega) ?_
 intro v1 w1 hr hb hg hat
 obtain ⟨A1, cc1, rfl⟩ := Kd.N_slice hr
 have HN1 := Lib.hid hr
 have HB1 := Lib.hid hb
 have HQ1 := Lib.hid ((hb.block q (Nat.lt_succ_self q)).trans HQ.out)
 have c1 : w1.cell? ⟨q, 0, none⟩ = some v := blk_cell HQ1.out 0
 have f1 : w1.frozen? ⟨q, 0, none⟩ = false := blk_frozen HQ1.out 0
 clear hr hb hg hat
 refine hK.out _ _ ?_
 clear hK K
 (try simp only [Act.put, List.setIfInBounds_toArray, List.set_cons_zero, List.set_cons_succ])
 refine last_ (i := 13) (N := none) #[true, true, true, true, true, true, true, true, true, true, true, true, true, true] rfl rfl (by kernel_rfl) (by decide) (fun K hK => ?_)
 go_simp
 refine hK.out _ _ ?_
 clear hK K
 (try simp only [Act.put, List.setIfInBounds_toArray, List.set_cons_zero, List.set_cons_succ])
 refine done_ (by kernel_rfl) ?_
 go_wp2
 go_end0
 have hset := blk_set HQ1.out 0 (.slice A1 (xs.length + 1) cc1)
 have hB2 : Below (q + 1) w w1 := HB1.out
 have hB3 : Below q w (w1.setCell ⟨q, 0, none⟩ (.slice A1 (xs.length + 1) cc1)) := (hB2.mono (Nat.le_succ q)).setCell (p := ⟨q, 0, none⟩) (Nat.le_refl q) _
 exact ⟨rfl, _, by simpa using hset, Kd.N_far HN1.out (p := ⟨q, 0, none⟩) (fun k hk => by show k ≠ q; omega) _, HB.out.trans hB3, Nat.lt_of_lt_of_le HQS.out.2.1 hB3.size⟩
def pr (e : Ent) : ByteArray × ByteArray := (e.lang, e.text)
/-- Entries, under way: p is done, b is to do. -/
def EeRel (w0 : World) (D : Nat → Ent) (l : List Nat) (r : Nat) (v4 : Value) (wr : World) : Prop :=
 ∃ p b : List Nat, l = p ++ b ∧ v4 = .pointer (some ⟨(b ++ [r]).head (by simp), 0, none⟩) ∧ EnV w0 wr w0.heap.size (p.map fun n => pr (D n))
set_option maxRecDepth 1000000 in
set_option maxHeartbeats 4000000 in
theorem each_entries {U : Nat → Prop} {w0 w : World} {m room mp r : Nat} {N P : Nat → Nat} {D : Nat → Ent} {l : List Nat} {kv : List (Key × Nat)} (h : MM U w0 m room mp r N P D l kv) (hv : EnV w0 w w0.heap.size []) (hlen : l.length < 1000000) :
  Calls Tryz.prog 32 #[.pointer (some ⟨m, 0, none⟩), .func (.func 36) #[] #[.pointer (some ⟨w0.heap.size, 0, none⟩)]] w fun e w' => e = .returned (.tuple #[]) ∧ EnV w0 w' w0.heap.size (l.map fun n => pr (D n)) := by
 have HM0 := Lib.hid h
 have HLEN := Lib.hid hlen
 have HV := Lib.hid hv
 have HST := Lib.hid (show ∀ W xs, EnV w0 W w0.heap.size xs → MM U W m room mp r N P D l kv from fun W xs hv => by obtain ⟨_, _, _, hb, _⟩ := hv; exact HM0.out.step hb)
 have h := HST.out _ _ hv
 have m2 := blk_cell h.mem 2
 have r4 := blk_cell (h.rg.nodes r (by simp)) 4
 have HN := Lib.hid (rg_first h.rg.ring)
 have HND := Lib.hid h.rg.ring.1
 have m2' : w.cell? ⟨m, 2, none⟩ = some (.pointer (some ⟨r, 0, none⟩)) := m2
 have r4' : w.cell? ⟨r, 4, none⟩ = some (.pointer (some ⟨N r, 0, none⟩)) := r4
 clear h hv m2 r4 hlen
 go_enter Tryz.func32, Tryz.ntmps32
 go_wp2
 go_loopw [4] (fun v4 wr => EeRel w0 D l r v4 wr) (fun v4 _ => (l ++ [r]).length - (l ++ [r]).idxOf (ptrOf v4))
 case atStart => exact ⟨[], l, rfl, by rw [HN.out], HV.out⟩
 case round =>
  clear m2' r4'
  obtain ⟨p, b, hl, rfl, hV⟩ := hrel
  have HV1 := Lib.hid hV
  have hM := HST.out _ _ hV
  have HM1 := Lib.hid hM
  have HL := Lib.hid hl
  have m2 : wr.cell? ⟨m, 2, none⟩ = some (.pointer (some ⟨r, 0, none⟩)) := blk_cell hM.mem 2
  clear hM hV hl
  cases b with
  | nil =>
   have hns := neq_same wr ⟨r, 0, none⟩
   have HLP := Lib.hid (show l = p by rw [HL.out, List.append_nil])
   simp only [List.nil_append, List.head_cons]
   go_wp2
   go_end0
   rw [HLP.out]
   exact ⟨rfl, HV1.out⟩
  | cons n b' =>
   have hmem : n ∈ r :: l := by rw [HL.out]; simp
   have hR1 := HM1.out.rg.ring
   rw [HL.out] at hR1
   have hnr := rg_ne hR1
   have hno := neq_other wr (a := ⟨n, 0, none⟩) (b := ⟨r, 0, none⟩) (fun e => hnr.2.2.1 (congrArg Addr.block e)) (HM1.out.rg.nodes n hmem) (HM1.out.rg.nodes r (by simp))
   have hnx : N n = (b' ++ [r]).head (by simp) := by
    have h2 := (rg_split hR1).2
    cases b' with
    | nil => exact h2.1
    | cons y b' => exact h2.1
   have n4 : wr.cell? ⟨n, 4, none⟩ = some (.pointer (some ⟨N n, 0, none⟩)) := blk_cell (HM1.out.rg.nodes n hmem) 4
   rw [hnx] at n4
   have HPL := Lib.hid (show (p.map fun n => pr (D n)).length < 1000000 by have := congrArg List.length HL.out; rw [List.length_append] at this; rw [List.length_map]; have := HLEN.out; omega)
   have HMEA := Lib.hid (meas_fall HL.out HND.out)
   have HC := Lib.hid (entries1 (HM1.out.rg.nodes n hmem) (blk_lt (HM0.out.rg.nodes n hmem)) HV1.out HPL.out)
   clear hnr hnx hR1 hmem
   simp only [List.cons_append, List.head_cons]
   go_wp2_with fail
   refine HC.out.mono ?_
   rintro e w5 ⟨rfl, hv5⟩
   have HR := Lib.hid (show EeRel w0 D l r (.pointer (some ⟨(b' ++ [r]).head (by simp), 0, none⟩)) w5 from ⟨p ++ [n], b', by rw [HL.out]; simp, rfl, by rw [List.map_append]; exact hv5⟩)
   clear hv5
   go_wp2
   go_roundw
   case rel => exact HR.out
   case measure => exact HMEA.out
theorem en_start (w : World) : EnV w (w.alloc (.cells #[.slice none 0 0] 44)) w.heap.size [] := by
 refine ⟨_, blk_new w _, Kd.N_nil _ _ _ _ _, (Below.refl _ _).alloc (Nat.le_refl _) _, ?_⟩
 show w.heap.size < (w.heap.push _).size
 simp
set_option maxRecDepth 1000000 in
set_option maxHeartbeats 4000000 in
theorem MS.entries {U : Nat → Prop} {w : World} {m room : Nat} {es : List Ent} (h : MS U w m room es) :
  Calls Tryz.prog 20 #[.pointer (some ⟨m, 0, none⟩)] w fun e w' => ∃ A c, e = .returned (.slice A es.length c) ∧ Kd.N kp 48 w' (w.heap.size + 1) (fun k => w.heap.size + 1 ≤ k) (.slice A es.length c) (es.map pr) ∧ Below w.heap.size w w' := by
 obtain ⟨mp, r, N, P, D, l, kv, hM, hes, hlen, hr1, hr2⟩ := h
 have HE := Lib.hid (each_entries hM (en_start w) (by rw [← hes, List.length_map] at hlen; omega))
 have HES := Lib.hid hes
 clear hM hes hlen
 go_enter Tryz.func20, Tryz.ntmps20
 go_wp2_with fail
 refine HE.out.mono ?_
 rintro e w3 ⟨rfl, v, hq, hN, hB, hqs⟩
 have c3 : w3.cell? ⟨w.heap.size, 0, none⟩ = some v := blk_cell hq 0
 have HN := Lib.hid hN
 have HB := Lib.hid hB
 clear hq hN hB hqs
 go_wp2
 go_ret
 have hm : (l.map fun n => pr (D n)) = es.map pr := by rw [← HES.out, List.map_map]; rfl
 have hN := HN.out
 rw [hm] at hN
 obtain ⟨A, c, rfl⟩ := Kd.N_slice hN
 rw [List.length_map] at hN ⊢
 exact ⟨A, c, rfl, hN, HB.out⟩
theorem eq9 (w : World) (d : Nat) (x y : ByteArray) : (Op.equalIn (d + 1) 9 (.string x) (.string y)).run Tryz.prog w = .ok (x == y) w := by
 rw [Op.equalIn, Sem.run_bind, run_underlying Tryz.underlying9, Result.andThen_ok]
 rfl
theorem eq48 (w : World) (a b : Key) : (Op.equal 48 (.agg #[.string a.1, .string a.2]) (.agg #[.string b.1, .string b.2])).run Tryz.prog w = .ok (a.1 == b.1 && (a.2 == b.2)) w := by
 unfold Op.equal Op.maxDepth
 have p0 : ∀ x y : ByteArray, (Go.part 9 #[.string x, .string y] (0 * 1)).run Tryz.prog w = .ok (.string x) w := fun x y => by kernel_rfl
 have p1 : ∀ x y : ByteArray, (Go.part 9 #[.string x, .string y] (1 * 1)).run Tryz.prog w = .ok (.string y) w := fun x y => by kernel_rfl
 have hs : (sizeOf 9).run Tryz.prog w = .ok 1 w := by kernel_rfl
 rw [Op.equalIn, Sem.run_bind, run_underlying Tryz.underlying48, Result.andThen_ok]
 simp only [Sem.run_bind, hs, Result.andThen_ok]
 simp only [Std.Legacy.Range.forIn_eq_forIn_range', Std.Legacy.Range.size, show List.range' 0 ((2 - 0 + 1 - 1) / 1) 1 = [0, 1] from rfl, List.forIn_cons, List.forIn_nil]
 simp [p0, p1, eq9]
 cases (a.1 == b.1) <;> cases (a.2 == b.2) <;> rfl
theorem eql48 (w : World) (a b : Key) : (binOp .eql 48 (.agg #[.string a.1, .string a.2]) (.agg #[.string b.1, .string b.2])).run Tryz.prog w = .ok (.bool (decide (a = b))) w := by
 simp only [binOp]
 simp [eq48, key_beq]
theorem pair_F {w wr : World} {ok : Nat → Prop} {A : Option Addr} {l : List Key} (h : Kd.F kp w ok A l.length l) (hB : Below w.heap.size w wr) (i : Nat) (hi : i < l.length) :
  ∃ ad, A = some ad ∧ wr.cell? (ad.add (i * 2)) = some (.string l[i].1) ∧ wr.cell? ⟨(ad.add (i * 2)).block, (ad.add (i * 2)).off + 1, none⟩ = some (.string l[i].2) := by
 obtain ⟨ad, c, e, _, hK, hc0, _⟩ := Kd.F_get h (eStr, eStr) (i : Int) (by omega) (by omega)
 rw [Int.toNat_natCast] at hK hc0
 have hr : l.getD i (eStr, eStr) = l[i] := by simp [List.getD_eq_getElem?_getD, hi]
 rw [hr] at hK
 have hc : ∀ j u, c[j]? = some u → w.cell? (ad.add (i * 2 + j)) = some u := hc0
 obtain ⟨_, _, rfl, rfl, rfl⟩ := Kd.FK_now hK
 exact ⟨ad, e, cell_up hB (hc 0 _ rfl), cell_up hB (by rw [← add_field _ _ 1 (by omega)]; exact hc 1 _ rfl)⟩
end Go.Proofs.YtbahnpdgaoedmaaGreatDoor.Mm
namespace Go.Proofs.YtbahnpdgaoedmaaGreatDoor.PMemoryExact
open Go.RowKit Go.Proofs.YtbahnpdgaoedmaaGreatDoorW.PrintWords Go.Proofs.YtbahnpdgaoedmaaGreatDoorW.PrintLast Go.Proofs.YtbahnpdgaoedmaaGreatDoorW.PrintMore
attribute [local go_sem] max2_int min2_int max_two min_two max_three min_three max_four min_four   -- for this text's walks alone
set_option linter.unusedVariables false
set_option linter.unusedSimpArgs false
/-! ### strconv_isPowerOfTwo: function 148 -/
def strconv_isPowerOfTwo.f (a0 : Int) : Option (Bool) := some ((Go.bits .and .i64 a0 (wrap64 (a0 - 1))) == 0)
set_option maxHeartbeats 8000000 in
set_option maxRecDepth 100000 in
theorem strconv_isPowerOfTwo.calls (a0 : Int) (r : Bool) (w : World) (h : strconv_isPowerOfTwo.f a0 = some r) :
  Calls Tryz.prog 148 #[.int .i64 a0] w fun e w' => e = .returned (.bool r) ∧ Drawn0 w w' := by
 have H : (some ((Go.bits .and .i64 a0 (wrap64 (a0 - 1))) == 0)) = some r := h
 clear h
 obtain rfl := Option.some.inj H
 go_enter Tryz.func148, Tryz.ntmps148
 go_wp2
 go_ret
 exact ⟨by first | rfl | (simp; done) | (simp [*]; done), by repeat (first | exact Drawn0.refl _ | apply Drawn0.step)⟩
-- NOT PRINTED: function 151 (bits_TrailingZeros32)
-- NOT PRINTED: function 152 (bits_TrailingZeros64)
-- NOT PRINTED: function 149 (bits_TrailingZeros)
-- NOT PRINTED: function 136 (strconv_formatBits)
-- NOT PRINTED: function 115 (strconv_FormatInt)
-- NOT PRINTED: function 107 (strconv_Itoa_107)
-- NOT PRINTED: function 87 (strconv_Itoa_87)
-- NOT PRINTED: function 88 (strings_Builder_WriteByte)
-- NOT PRINTED: function 53 (formula_write)
-- NOT PRINTED: function 54 (strings_Builder_String)
-- NOT PRINTED: function 39 (formula_Text)
-- NOT PRINTED: function 25 (memory_keyOf)
-- NOT PRINTED: function 40 (memory_Memory_add)
-- NOT PRINTED: function 44 (memory_Memory_take)
-- NOT PRINTED: function 29 (memory_Memory_use)
-- NOT PRINTED: function 34 (memory_Memory_remove)
-- NOT PRINTED: function 26 (memory_Memory_store)
-- NOT PRINTED: function 11 (memory_Memory_Put)
-- NOT PRINTED: function 13 (memory_Memory_Find)
-- NOT PRINTED: function 32 (memory_Memory_each)
-- NOT PRINTED: function 15 (memory_Memory_Forget)
-- NOT PRINTED: function 20 (memory_Memory_Entries)
-- NOT PRINTED: function 21 (memory_Memory_Len)
/-! ### pentaglotlaw52_atom: function 24 -/
def pentaglotlaw52_atom.f (a0 : ByteArray) : Option (Int × ByteArray × (List (S84)) × Int × Int × (List (S32))) := some (3, a0, (([(⟨2, 0, (⟨#[99]⟩ : ByteArray)⟩ : S84)] : List (S84))), 0, 0, ([] : List (S32)))
set_option maxHeartbeats 8000000 in
set_option maxRecDepth 100000 in
theorem pentaglotlaw52_atom.calls (a0 : ByteArray) (r1 : Int) (r2 : ByteArray) (r3 : List (S84)) (r4 : Int) (r5 : Int) (r6 : List (S32)) (w : World) (h : pentaglotlaw52_atom.f a0 = some (r1, r2, r3, r4, r5, r6)) :
  Calls Tryz.prog 24 #[.string a0] w fun e w' => ∃ v2_ v5_ : Value, e = .returned (.agg #[.int .i64 r1, .string r2, v2_, .int .i64 r4, .int .i64 r5, v5_]) ∧ Kd.R k84 84 w' w.heap.size (fun _ => True) v2_ r3 ∧ Kd.R k32 32 w' w.heap.size (fun k_ => some k_ ≠ (v2_ : Value).ownBlock) v5_ r6 ∧ Below w.heap.size w w' := by
 have hu32 := Tryz.underlying32
 have hu84 := Tryz.underlying84
 have HB := Aside0.mk (Below.refl w.heap.size w)
 have H : (some (3, a0, (([(⟨2, 0, (⟨#[99]⟩ : ByteArray)⟩ : S84)] : List (S84))), 0, 0, ([] : List (S32)))) = some (r1, r2, r3, r4, r5, r6) := h
 clear h
 obtain ⟨y244, hy244⟩ : ∃ y_ : List (S84), y_ = (([(⟨2, 0, (⟨#[99]⟩ : ByteArray)⟩ : S84)] : List (S84))) := ⟨_, rfl⟩
 replace H : (some (3, a0, y244, 0, 0, ([] : List (S32)))) = some (r1, r2, r3, r4, r5, r6) := by first | (rw [hy244]; with_reducible exact H) | (have H2_ := (Option.bind_some _ _).symm.trans H; rw [hy244]; with_reducible exact H2_) | (have H2_ := (Option.bind_some _ _).symm.trans H; with_reducible exact H2_) | with_reducible exact H | (rw [hy244]; exact H) | exact H
 have Ny244 := Aside0.mk hy244
 clear hy244
 simp only [Option.some.injEq, Prod.mk.injEq] at H
 obtain ⟨rfl, rfl, rfl, rfl, rfl, rfl⟩ := H
 go_enter Tryz.func24, Tryz.ntmps24
 go_wp2_with (first | ((with_reducible refine gate_dst (N := 2) rfl ?_); refine box_event ?hg (N := 2) ?hd (cs := #[.int .i64 0, .string (⟨#[]⟩ : ByteArray), .slice none 0 0, .int .i64 0, .int .i64 0, .slice none 0 0]) (t := 32) ?hr ?_; (case hd => rfl); (case hg => rfl); (case hr => first | (go_simp; done) | (go_simp; rfl)); intro gb243 hg w2 hbox hb; have n0_ := Aside0.mk (below_step (by repeat (first | (with_reducible first | exact HB.out | apply below_alloc | apply pw_below_drewN | apply below_drew1) | exact HB.out)) hb); have n1_ := Aside0.mk (hbox); have n2_ := Aside0.mk ((by rw [hg]; exact (below_size (by repeat (first | (with_reducible first | exact HB.out | apply below_alloc | apply pw_below_drewN | apply below_drew1) | exact HB.out))) : w.heap.size ≤ gb243)); have n3_ := Aside0.mk ((by rw [hg]; exact (below_size (by repeat (first | (with_reducible first | exact HB.out | apply below_alloc | apply pw_below_drewN | apply below_drew1) | exact HB.out))) : w.heap.size ≤ gb243)); clear HB; have HB := n0_; have BK243 := n1_; have GW243 := n2_; have GE243 := n3_; clear n0_ n1_ n2_ n3_; clear hb hbox hg) | ((with_reducible refine gate_dst (N := 5) rfl ?_); refine Kd.R_lit k84 _ 84 ?hg (N := 5) ?hd (xs := ([(⟨2, 0, (⟨#[99]⟩ : ByteArray)⟩ : S84)] : List (S84))) (inner := [.int .i64 2, .int .i64 0, .string (⟨#[99]⟩ : ByteArray)]) (ok := fun _ => True) (okp := fun _ => True) ?hr ?hp (fun _ hk => hk) trivial (Below.refl _ _) (Nat.le_refl _) (by simp) ?_; (case hd => rfl); (case hg => rfl); (case hr => first | (go_simp; done) | (go_simp; rfl)); (case hp => exact (Reps.c3 (show Kd.M k84 _ _ _ (⟨2, 0, (⟨#[99]⟩ : ByteArray)⟩ : S84) [.int .i64 2, .int .i64 0, .string (⟨#[99]⟩ : ByteArray)] from (k84_mkM _ _ _ (⟨2, 0, (⟨#[99]⟩ : ByteArray)⟩ : S84) )) (Reps.none _ _))); intro v245 w3 ho4 hb hg_ hnew_; clear hg_ hnew_; (first | rw [← Ny244.out] at ho4 | (simp only [Int.reduceToNat] at ho4; rw [← Ny244.out] at ho4)); have n0_ := Aside0.mk (Kd.R_lower ho4 (below_size (by repeat (first | (with_reducible first | exact HB.out | apply below_alloc | apply pw_below_drewN | apply below_drew1 | refine below_set ?_ GE243.out) | exact HB.out)))); have n1_ := Aside0.mk (blk_below (g := gb243) (o := .cells #[.int .i64 0, .string (⟨#[]⟩ : ByteArray), .slice none 0 0, .int .i64 0, .int .i64 0, .slice none 0 0] 32 (0, 0)) (by (with_reducible repeat (first | refine blk_drewN ?_ _ | refine blk_drew ?_ | refine blk_alloc ?_ _)); exact BK243.out) hb); have n2_ := Aside0.mk (below_step (by repeat (first | (with_reducible first | exact HB.out | apply below_alloc | apply pw_below_drewN | apply below_drew1 | refine below_set ?_ GE243.out) | exact HB.out)) hb); clear BK243; clear HB; have HO246 := n0_; have BK243 := n1_; have HB := n2_; clear n0_ n1_ n2_; clear hb ho4; obtain ⟨Ao5, co5, eo5⟩ := Kd.R_slice HO246.out; subst eo5; have hcz6_0 : w3.cell? ⟨gb243, 0, none⟩ = some (.int .i64 0) := (blk_cell BK243.out 0).trans rfl; have hcz6_1 : w3.cell? ⟨gb243, 1, none⟩ = some (.string (⟨#[]⟩ : ByteArray)) := (blk_cell BK243.out 1).trans rfl; have hcz6_2 : w3.cell? ⟨gb243, 2, none⟩ = some (.slice none 0 0) := (blk_cell BK243.out 2).trans rfl; have hcz6_3 : w3.cell? ⟨gb243, 3, none⟩ = some (.int .i64 0) := (blk_cell BK243.out 3).trans rfl; have hcz6_4 : w3.cell? ⟨gb243, 4, none⟩ = some (.int .i64 0) := (blk_cell BK243.out 4).trans rfl; have hcz6_5 : w3.cell? ⟨gb243, 5, none⟩ = some (.slice none 0 0) := (blk_cell BK243.out 5).trans rfl; have hfz6_0 := blk_frozen BK243.out 0; have hfz6_1 := blk_frozen BK243.out 1; have hfz6_2 := blk_frozen BK243.out 2; have hfz6_3 := blk_frozen BK243.out 3; have hfz6_4 := blk_frozen BK243.out 4; have hfz6_5 := blk_frozen BK243.out 5))
 refine bodyPost_ret (results_cell_row rfl _ _ gb243 32 #[.int .i64 3, .string a0, .slice Ao5 y244.length co5, .int .i64 0, .int .i64 0, .slice none 0 0] (0, 0) _ rfl (by (with_reducible repeat (first | refine blk_drewN ?_ _ | refine blk_drew ?_ | refine blk_alloc ?_ _)); refine blk_put (cs := #[.int .i64 3, .string a0, .slice Ao5 y244.length co5, .int .i64 0, .int .i64 0, .slice none 0 0]) ?_ 5 _ rfl; (with_reducible repeat (first | refine blk_drewN ?_ _ | refine blk_drew ?_ | refine blk_alloc ?_ _)); refine blk_put (cs := #[.int .i64 3, .string a0, .slice Ao5 y244.length co5, .int .i64 0, .int .i64 0, .slice none 0 0]) ?_ 4 _ rfl; (with_reducible repeat (first | refine blk_drewN ?_ _ | refine blk_drew ?_ | refine blk_alloc ?_ _)); refine blk_put (cs := #[.int .i64 3, .string a0, .slice Ao5 y244.length co5, .int .i64 0, .int .i64 0, .slice none 0 0]) ?_ 3 _ rfl; (with_reducible repeat (first | refine blk_drewN ?_ _ | refine blk_drew ?_ | refine blk_alloc ?_ _)); refine blk_put (cs := #[.int .i64 3, .string a0, .slice none 0 0, .int .i64 0, .int .i64 0, .slice none 0 0]) ?_ 2 _ rfl; (with_reducible repeat (first | refine blk_drewN ?_ _ | refine blk_drew ?_ | refine blk_alloc ?_ _)); refine blk_put (cs := #[.int .i64 3, .string (⟨#[]⟩ : ByteArray), .slice none 0 0, .int .i64 0, .int .i64 0, .slice none 0 0]) ?_ 1 _ rfl; (with_reducible repeat (first | refine blk_drewN ?_ _ | refine blk_drew ?_ | refine blk_alloc ?_ _)); refine blk_put (cs := #[.int .i64 0, .string (⟨#[]⟩ : ByteArray), .slice none 0 0, .int .i64 0, .int .i64 0, .slice none 0 0]) ?_ 0 _ rfl; (with_reducible repeat (first | refine blk_drewN ?_ _ | refine blk_drew ?_ | refine blk_alloc ?_ _)); exact BK243.out) Tryz.underlying32 rfl (by kernel_rfl)) rfl ?_
 exact ⟨_, _, by first | rfl | (simp [errW_none, errW_some] <;> rfl) | (simp [*, errW_none, errW_some] <;> rfl), by (with_reducible repeat (first | apply Kd.R_alloc | apply Kd.R_drewN | apply Kd.R_drew)); exact Kd.R_mono (Kd.R_far (p := ⟨gb243, 5, none⟩) (Kd.R_far (p := ⟨gb243, 4, none⟩) (Kd.R_far (p := ⟨gb243, 3, none⟩) (Kd.R_far (p := ⟨gb243, 2, none⟩) (Kd.R_far (p := ⟨gb243, 1, none⟩) (Kd.R_far (p := ⟨gb243, 0, none⟩) (Kd.R_types HO246.out BK243.out (by decide)) (fun _ hk => hk.2) (.int .i64 3)) (fun _ hk => hk.2) (.string a0)) (fun _ hk => hk.2) (.slice Ao5 y244.length co5)) (fun _ hk => hk.2) (.int .i64 0)) (fun _ hk => hk.2) (.int .i64 0)) (fun _ hk => hk.2) (.slice none 0 0)) (fun _ hk => trivial), by first | exact Kd.R_nil _ _ _ _ _ | exact Kd.N_nil _ _ _ _ _ | exact Kd.V_nil _ _ _ _ _ | exact Kd.Q_nil _ _ _ _ _ | exact Kd.S_nil _ _ _ _ _, by repeat (first | (with_reducible first | exact HB.out | apply below_alloc | apply pw_below_drewN | apply below_drew1 | refine below_set ?_ GE243.out) | exact HB.out)⟩
-- NOT PRINTED: function 7 (pentaglotlaw52_awake)
end Go.Proofs.YtbahnpdgaoedmaaGreatDoor.PMemoryExact
namespace Go.Proofs.YtbahnpdgaoedmaaGreatDoor.Mm
open Go.RowKit Go.Proofs.YtbahnpdgaoedmaaGreatDoorW.PrintWords Go.Proofs.YtbahnpdgaoedmaaGreatDoorW.PrintLast Go.Proofs.YtbahnpdgaoedmaaGreatDoorW.PrintMore Go.Proofs.YtbahnpdgaoedmaaGreatDoor.PMemoryExact
set_option linter.unusedSimpArgs false
set_option linter.unusedVariables false
def atm (c : ByteArray) : S32 := ⟨3, c, [⟨2, 0, ⟨#[99]⟩⟩], 0, 0, []⟩
theorem put_1 : putF 2 [] ⟨#[97]⟩ (atm ⟨#[112]⟩) ⟨#[120]⟩ = ([⟨⟨#[97]⟩, ⟨#[112, 40, 99, 41]⟩, ⟨#[120]⟩⟩], 0) := by kernel_rfl
theorem put_2 : putF 2 [⟨⟨#[97]⟩, ⟨#[112, 40, 99, 41]⟩, ⟨#[120]⟩⟩] ⟨#[97]⟩ (atm ⟨#[113]⟩) ⟨#[121]⟩ = ([⟨⟨#[97]⟩, ⟨#[112, 40, 99, 41]⟩, ⟨#[120]⟩⟩, ⟨⟨#[97]⟩, ⟨#[113, 40, 99, 41]⟩, ⟨#[121]⟩⟩], 0) := by kernel_rfl
theorem find_1 : findF [⟨⟨#[97]⟩, ⟨#[112, 40, 99, 41]⟩, ⟨#[120]⟩⟩, ⟨⟨#[97]⟩, ⟨#[113, 40, 99, 41]⟩, ⟨#[121]⟩⟩] ⟨#[97]⟩ (atm ⟨#[112]⟩) = ([⟨⟨#[97]⟩, ⟨#[113, 40, 99, 41]⟩, ⟨#[121]⟩⟩, ⟨⟨#[97]⟩, ⟨#[112, 40, 99, 41]⟩, ⟨#[120]⟩⟩], ⟨#[120]⟩, true, 0) := by kernel_rfl
theorem put_3 : putF 2 [⟨⟨#[97]⟩, ⟨#[113, 40, 99, 41]⟩, ⟨#[121]⟩⟩, ⟨⟨#[97]⟩, ⟨#[112, 40, 99, 41]⟩, ⟨#[120]⟩⟩] ⟨#[97]⟩ (atm ⟨#[114]⟩) ⟨#[122]⟩ = ([⟨⟨#[97]⟩, ⟨#[112, 40, 99, 41]⟩, ⟨#[120]⟩⟩, ⟨⟨#[97]⟩, ⟨#[114, 40, 99, 41]⟩, ⟨#[122]⟩⟩], 0) := by kernel_rfl
theorem find_2 : findF [⟨⟨#[97]⟩, ⟨#[112, 40, 99, 41]⟩, ⟨#[120]⟩⟩, ⟨⟨#[97]⟩, ⟨#[114, 40, 99, 41]⟩, ⟨#[122]⟩⟩] ⟨#[98]⟩ (atm ⟨#[112]⟩) = ([⟨⟨#[97]⟩, ⟨#[112, 40, 99, 41]⟩, ⟨#[120]⟩⟩, ⟨⟨#[97]⟩, ⟨#[114, 40, 99, 41]⟩, ⟨#[122]⟩⟩], eStr, false, 0) := by kernel_rfl
theorem put_4 : putF 2 [⟨⟨#[97]⟩, ⟨#[112, 40, 99, 41]⟩, ⟨#[120]⟩⟩, ⟨⟨#[97]⟩, ⟨#[114, 40, 99, 41]⟩, ⟨#[122]⟩⟩] ⟨#[97]⟩ z32 ⟨#[119]⟩ = ([⟨⟨#[97]⟩, ⟨#[112, 40, 99, 41]⟩, ⟨#[120]⟩⟩, ⟨⟨#[97]⟩, ⟨#[114, 40, 99, 41]⟩, ⟨#[122]⟩⟩], 1) := by kernel_rfl
theorem forget_1 : mForget [⟨⟨#[97]⟩, ⟨#[112, 40, 99, 41]⟩, ⟨#[120]⟩⟩, ⟨⟨#[97]⟩, ⟨#[114, 40, 99, 41]⟩, ⟨#[122]⟩⟩] ⟨#[97]⟩ = [] := by kernel_rfl
theorem atm_al (c : UInt8) : Al (atm ⟨#[c]⟩) := (al_is _).2 ⟨⟨by show 1 ≤ 100; decide, by show 1 ≤ 10; decide, by intro r hr; simp [atm] at hr; subst hr; decide, by show -9223372036854775808 ≤ (0 : Int) ∧ (0 : Int) ≤ 9223372036854775807; decide, by show -9223372036854775808 ≤ (0 : Int) ∧ (0 : Int) ≤ 9223372036854775807; decide⟩, by simp [atm]⟩
theorem atm_size (c : ByteArray) : size (atm c) < 1000000 := by
 have : size (atm c) = 1 := by kernel_rfl
 omega
/-- A row of pairs of strings that the program has laid. -/
def PR (w : World) (v : Value) (xs : List Key) : Prop := Kd.N kp 48 w 0 (fun k => some k = v.ownBlock) v xs
theorem PR.of {w : World} {base : Nat} {ok : Nat → Prop} {v : Value} {xs : List Key} (h : Kd.N kp 48 w base ok v xs) : PR w v xs := by
 obtain ⟨h0, rows, hl, hR, hf⟩ := Kd.N_lower h (Nat.zero_le base)
 refine ⟨fun k hk => hk.symm, rows, hl, hR, fun j x c hx hc => ?_⟩
 obtain ⟨_, _, rfl, rfl, rfl⟩ := Kd.FK_now (hf j x c hx hc)
 exact kp_mkF _ _ x
/-- The blocks in V stand. -/
def KV (V : Nat → Prop) (w w' : World) : Prop := ∀ k, V k → w'.heap[k]? = w.heap[k]?
theorem PR.kv {V : Nat → Prop} {w w' : World} {v : Value} {xs : List Key} (h : PR w v xs) (hv : ∀ k, v.ownBlock = some k → V k) (hb : KV V w w') : PR w' v xs :=
 Kd.N_step h (fun k hk _ => hb k (hv k hk.symm))
theorem PR.below {w w' : World} {v : Value} {xs : List Key} (h : PR w v xs) (hb : Below w.heap.size w w') : PR w' v xs := Kd.N_below h hb
theorem PR.read {w : World} {A : Option Addr} {n c : Nat} {xs : List Key} (h : PR w (.slice A n c) xs) : Kd.F kp w (fun k => some k = (Value.slice A n c).ownBlock) A n xs := Kd.N_F h
/-- The memory m, laid after w0, holds these entries; none of its blocks is in V; the table stands. -/
structure AW (V : Nat → Prop) (w0 w : World) (m room : Nat) (es : List Ent) : Prop where
 bl : Below w0.heap.size w0 w
 tb : TB w0
 old : ∀ k, k < w0.heap.size → V k
 inn : ∀ k, V k → k < w.heap.size
 ms : MS (fun k => ¬ V k) w m room es
theorem AW.tbw {V : Nat → Prop} {w0 w : World} {m room : Nat} {es : List Ent} (h : AW V w0 w m room es) : TB w := tb_below h.tb h.bl (Or.inl (Nat.le_refl _))
theorem AW.new {V : Nat → Prop} {w0 w : World} {m room : Nat} {es : List Ent} (h : AW V w0 w m room es) : ∀ k, w.heap.size ≤ k → ¬ V k := fun k hk hv => absurd (h.inn k hv) (by omega)
theorem AW.after {V : Nat → Prop} {w0 w w' : World} {m room : Nat} {es fs : List Ent} (h : AW V w0 w m room es) (hk : KU (fun k => ¬ V k) w w') (hm : MS (fun k => ¬ V k) w' m room fs) : AW V w0 w' m room fs ∧ KV V w w' :=
 ⟨⟨h.bl.trans (hk.bel (fun k hk' hn => hn (h.old k hk')) h.bl.size), h.tb, h.old, fun k hv => Nat.lt_of_lt_of_le (h.inn k hv) hk.size, hm⟩, fun k hv => hk.block k (h.inn k hv) (fun hn => hn hv)⟩
theorem AW.same {V : Nat → Prop} {w0 w w' : World} {m room : Nat} {es : List Ent} (h : AW V w0 w m room es) (hb : Below w.heap.size w w') : AW V w0 w' m room es := (h.after (KU.of hb) (h.ms.step hb)).1
/-- What others have laid. -/
theorem AW.more {V : Nat → Prop} {w0 w w' : World} {m room : Nat} {es : List Ent} (h : AW V w0 w m room es) (hb : Below w.heap.size w w') : AW (fun k => V k ∨ (w.heap.size ≤ k ∧ k < w'.heap.size)) w0 w' m room es := by
 have h1 := h.same hb
 refine ⟨h1.bl, h1.tb, fun k hk => Or.inl (h.old k hk), fun k hk => ?_, ?_⟩
 ·rcases hk with hk | hk
  ·exact h1.inn k hk
  ·exact hk.2
 ·exact (h.ms.mono (fun k hk hn hv => by
   rcases hv with hv | hv
   ·exact hn hv
   ·omega)).step hb
theorem aw_new {w : World} (hTB : TB w) (n : Int) : Calls Tryz.prog 9 #[.int .i64 n] w fun e w' => ∃ m, e = .returned (.pointer (some ⟨m, 0, none⟩)) ∧ AW (fun k => k < w.heap.size) w w' m (roomOf n) [] := by
 refine (new_any w n).mono ?_
 rintro e w' ⟨m, he, h1, h2⟩
 exact ⟨m, he, h2, hTB, fun _ h => h, fun k hk => Nat.lt_of_lt_of_le hk h2.size, h1.mono (fun k _ h h' => by omega)⟩
theorem AW.put {V : Nat → Prop} {w0 w : World} {m room : Nat} {es : List Ent} (h : AW V w0 w m room es) (g : ByteArray) {x : S32} {cs : List Value} {ok : Nat → Prop} (t : ByteArray) (hF : Kd.FK k32 w ok x cs) (hok : ∀ k, ok k → k < w.heap.size) (hal : Al x) (hsz : size x < 1000000) :
  Calls Tryz.prog 11 #[.pointer (some ⟨m, 0, none⟩), .string g, .agg cs.toArray, .string t] w fun e w' => e = .returned (.int .i64 (putF room es g x t).2) ∧ AW V w0 w' m room (putF room es g x t).1 ∧ KV V w w' := by
 refine (h.ms.put h.new g t hF hok h.tbw hal hsz).mono ?_
 rintro e w' ⟨he, hb, hm⟩
 exact ⟨he, h.after hb hm⟩
theorem AW.find {V : Nat → Prop} {w0 w : World} {m room : Nat} {es : List Ent} (h : AW V w0 w m room es) (g : ByteArray) {x : S32} {cs : List Value} {ok : Nat → Prop} (hF : Kd.FK k32 w ok x cs) (hok : ∀ k, ok k → k < w.heap.size) (hal : Al x) (hsz : size x < 1000000) :
  Calls Tryz.prog 13 #[.pointer (some ⟨m, 0, none⟩), .string g, .agg cs.toArray] w fun e w' => e = .returned (.tuple #[.string (findF es g x).2.1, .bool (findF es g x).2.2.1, .int .i64 (findF es g x).2.2.2]) ∧ AW V w0 w' m room (findF es g x).1 ∧ KV V w w' := by
 refine (h.ms.find h.new g hF hok h.tbw hal hsz).mono ?_
 rintro e w' ⟨he, hb, hm⟩
 exact ⟨he, h.after hb hm⟩
theorem AW.forget {V : Nat → Prop} {w0 w : World} {m room : Nat} {es : List Ent} (h : AW V w0 w m room es) (g : ByteArray) :
  Calls Tryz.prog 15 #[.pointer (some ⟨m, 0, none⟩), .string g] w fun e w' => e = .returned (.int .i64 ((es.length - (mForget es g).length : Nat) : Int)) ∧ AW V w0 w' m room (mForget es g) ∧ KV V w w' := by
 refine (h.ms.forget h.new g).mono ?_
 rintro e w' ⟨he, hb, hm⟩
 exact ⟨he, h.after hb hm⟩
theorem AW.len {V : Nat → Prop} {w0 w : World} {m room : Nat} {es : List Ent} (h : AW V w0 w m room es) : Calls Tryz.prog 21 #[.pointer (some ⟨m, 0, none⟩)] w fun e w' => e = .returned (.int .i64 es.length) ∧ w' = w := h.ms.len
/-- A row of pairs that lies in V. -/
def PV (V : Nat → Prop) (w : World) (v : Value) (xs : List Key) : Prop := PR w v xs ∧ ∀ k, v.ownBlock = some k → V k
theorem PV.kv {V : Nat → Prop} {w w' : World} {v : Value} {xs : List Key} (h : PV V w v xs) (hb : KV V w w') : PV V w' v xs := ⟨h.1.kv h.2 hb, h.2⟩
theorem PV.below {V : Nat → Prop} {w w' : World} {v : Value} {xs : List Key} (h : PV V w v xs) (hb : Below w.heap.size w w') : PV V w' v xs := ⟨h.1.below hb, h.2⟩
theorem PV.mono {V V' : Nat → Prop} {w : World} {v : Value} {xs : List Key} (h : PV V w v xs) (hi : ∀ k, V k → V' k) : PV V' w v xs := ⟨h.1, fun k hk => hi k (h.2 k hk)⟩
theorem AW.entries {V : Nat → Prop} {w0 w : World} {m room : Nat} {es : List Ent} (h : AW V w0 w m room es) :
  Calls Tryz.prog 20 #[.pointer (some ⟨m, 0, none⟩)] w fun e w' => ∃ A c, e = .returned (.slice A es.length c) ∧ es.length ≤ c ∧ PV (fun k => V k ∨ (w.heap.size ≤ k ∧ k < w'.heap.size)) w' (.slice A es.length c) (es.map pr) ∧ AW (fun k => V k ∨ (w.heap.size ≤ k ∧ k < w'.heap.size)) w0 w' m room es ∧ Below w.heap.size w w' := by
 refine (h.ms.entries).mono ?_
 rintro e w' ⟨A, c, he, hN, hb⟩
 have hc : es.length ≤ c := by
  obtain ⟨A', c', e2, hl, _⟩ := Kd.N_reads hN
  rw [List.length_map] at e2 hl
  injection e2 with _ _ e2
  omega
 exact ⟨A, c, he, hc, ⟨PR.of hN, fun k hk => Or.inr ⟨by have := Kd.N_base hN k hk; omega, Kd.N_lt hN k hk⟩⟩, h.more hb, hb⟩
theorem atom_any (w : World) (c : ByteArray) : Calls Tryz.prog 24 #[.string c] w fun e w' => ∃ cs, e = .returned (.agg cs.toArray) ∧ Kd.FK k32 w' (fun k => k < w'.heap.size) (atm c) cs ∧ Below w.heap.size w w' := by
 refine (pentaglotlaw52_atom.calls c 3 c [⟨2, 0, ⟨#[99]⟩⟩] 0 0 [] w rfl).mono ?_
 rintro e w' ⟨v2, v5, rfl, h2, h5, hb⟩
 obtain ⟨A2, c2, rfl, l2, g2⟩ := Kd.R_reads h2
 obtain ⟨A5, c5, rfl, l5, g5⟩ := Kd.R_reads h5
 exact ⟨_, rfl, self_F (k32_mk w' (atm c) l2 g2 l5 g5), hb⟩
end Go.Proofs.YtbahnpdgaoedmaaGreatDoor.Mm
namespace Go.Proofs.YtbahnpdgaoedmaaGreatDoor.Rq
open Go.RowKit Go.ChangeShapes Go.Deep Go.Proofs.YtbahnpdgaoedmaaGreatDoorW.PrintWords
variable {P : Program}
/-- Whatever reads as a datum of type t, within n steps, is of the kind d, and Q holds of it. -/
def OpF {α : Type} (P : Program) (n : Nat) (t : TypeId) (d : Kd α) (Q : α → Prop) : Prop :=
 ∀ (H : Type) (enc : TypeId × Value → H) (w : World) (fuel : Nat), fuel ≤ n → ∀ (cs : List Value) (x : DataW H × List MemPlace), DataW.trod enc P w 0 (fun _ => true) true fuel t cs = some x → ∃ y : α, d.K w y cs ∧ Q y
/-- Fields, one behind the other, from place off on. -/
def OpFs {α : Type} (P : Program) (n : Nat) (fs : List Field) (off : Nat) (d : Kd α) (Q : α → Prop) : Prop :=
 ∀ (H : Type) (enc : TypeId × Value → H) (w : World) (fuel : Nat), fuel ≤ n → ∀ (cs : List Value), cs.length = off + d.sz →
  (∀ (i : Nat) (f : Field), fs[i]? = some f → ∃ y, DataW.trod enc P w 0 (fun _ => true) true fuel f.type ((cs.drop f.offset).take (P.cellsOf f.type)) = some y) → ∃ y : α, d.K w y (cs.drop off) ∧ Q y
abbrev In64 (k : IntKind) (z : Int) : Prop := (Lit.int k z).wf = true
theorem opF_int {n : Nat} {t : TypeId} {k : IntKind} (ht : P.underlying t = some (.int k)) : OpF P n t (Kd.int k) (In64 k) := by
 intro H enc w fuel _ cs x h
 obtain ⟨z, rfl, _, hw⟩ := DataW.trod_int ht h
 exact ⟨z, rfl, hw⟩
theorem opF_string {n : Nat} {t : TypeId} (ht : P.underlying t = some .string) : OpF P n t Kd.string (fun s => s.size ≤ maxLen) := by
 intro H enc w fuel _ cs x h
 cases fuel with
 | zero => simp [DataW.trod] at h
 | succ n =>
  unfold DataW.trod at h
  rw [ht] at h
  split at h <;> simp_all
  exact ⟨_, rfl, h.1⟩
theorem choose_list {α : Type} {Q : Nat → α → Prop} : ∀ n, (∀ i, i < n → ∃ y, Q i y) → ∃ ys : List α, ys.length = n ∧ ∀ i y, ys[i]? = some y → Q i y
 | 0, _ => ⟨[], rfl, fun i y h => by simp at h⟩
 | n + 1, h => by
  obtain ⟨ys, hl, hy⟩ := choose_list n (fun i hi => h i (by omega))
  obtain ⟨z, hz⟩ := h n (by omega)
  refine ⟨ys ++ [z], by simp [hl], fun i y hi => ?_⟩
  by_cases c : i < n
  ·rw [List.getElem?_append_left (by omega)] at hi; exact hy i y hi
  ·have : i = n := by
    have := (List.getElem?_eq_some_iff.1 hi).1
    simp at this; omega
   subst this
   rw [List.getElem?_append_right (by omega)] at hi
   simp [hl] at hi
   subst hi; exact hz
theorem opF_slice {α : Type} {n : Nat} {t e : TypeId} {d : Kd α} {Q : α → Prop} (ht : P.underlying t = some (.slice e)) (hc : P.cellsOf e = d.sz) (hd : ∀ m, m < n → OpF P m e d Q) : OpF P n t (Kd.slice e d) (fun l => l.length ≤ maxLen ∧ ∀ y ∈ l, Q y) := by
 intro H enc w fuel hf cs x h
 rcases DataW.trod_slice ht h with ⟨rfl, _⟩ | ⟨a, len, cap, elems, rest, m, hm', rfl, _, _, hl, hm, hlen, hel, _⟩
 ·exact ⟨[], ⟨none, 0, rfl, Nat.le_refl _, Kd.C_nil d w⟩, Nat.zero_le _, by simp⟩
 ·have hQ : ∀ i, i < len → ∃ y : α, (∃ c : List Value, c.length = d.sz ∧ d.K w y c ∧ ∀ j u, c[j]? = some u → w.cell? (a.add (i * d.sz + j)) = some u) ∧ Q y := by
   intro i hi
   have h1 := hel i hi
   rw [List.getElem?_eq_getElem (by omega), Option.bind_eq_some_iff] at h1
   obtain ⟨c, hc1, hc2⟩ := h1
   obtain ⟨y, hy, hq⟩ := hd m (by omega) H enc w m (Nat.le_refl _) c _ hc2
   obtain ⟨_, hcl, hcell⟩ := World.cells?_some hc1
   refine ⟨y, ⟨c, by rw [hcl, hc], hy, fun j u hj => ?_⟩, hq⟩
   have := hcell j (by rw [← hcl]; exact (List.getElem?_eq_some_iff.1 hj).1)
   rw [← hc]
   rw [Addr.add_add] at this
   rw [this, hj]
  obtain ⟨ys, hyl, hys⟩ := choose_list len hQ
  subst hyl
  refine ⟨ys, ⟨some a, cap, rfl, hl, rfl, by unfold maxLen at hm; omega, fun _ => ⟨a, rfl, fun j p hj => (hys j p hj).1⟩⟩, by omega, fun y hy => ?_⟩
  obtain ⟨i, hi, rfl⟩ := List.mem_iff_getElem.1 hy
  exact (hys i _ (List.getElem?_eq_getElem hi)).2
theorem opFs_one {α : Type} {n off : Nat} {f : Field} {d : Kd α} {Q : α → Prop} (ho : f.offset = off) (hc : P.cellsOf f.type = d.sz) (h : OpF P n f.type d Q) : OpFs P n [f] off d Q := by
 intro H enc w fuel hf cs hl ht
 obtain ⟨y, hy⟩ := ht 0 f rfl
 rw [ho, hc, List.take_of_length_le (by rw [List.length_drop]; omega)] at hy
 exact h H enc w fuel hf _ _ hy
theorem opFs_cons {α β : Type} {n off : Nat} {f : Field} {fs : List Field} {d : Kd α} {e : Kd β} {Q : α → Prop} {R : β → Prop} (ho : f.offset = off) (hc : P.cellsOf f.type = d.sz) (h : OpF P n f.type d Q) (hr : OpFs P n fs (off + d.sz) e R) : OpFs P n (f :: fs) off (Kd.pair d e) (fun p => Q p.1 ∧ R p.2) := by
 intro H enc w fuel hf cs hl ht
 have hsz : (Kd.pair d e).sz = d.sz + e.sz := rfl
 obtain ⟨y, hy⟩ := ht 0 f rfl
 rw [ho, hc] at hy
 obtain ⟨u, hu, hq⟩ := h H enc w fuel hf _ _ hy
 obtain ⟨v, hv, hR⟩ := hr H enc w fuel hf cs (by omega) (fun i g hg => ht (i + 1) g (by simpa using hg))
 exact ⟨(u, v), ⟨(cs.drop off).take d.sz, (cs.drop off).drop d.sz, (List.take_append_drop _ _).symm, hu, by rw [List.drop_drop]; exact hv⟩, hq, hR⟩
theorem opF_struct {α : Type} {n : Nat} {t : TypeId} {fs : Array Field} {d : Kd α} {Q : α → Prop} (ht : P.underlying t = some (.struct fs)) (hc : P.cellsOf t = d.sz) (h : ∀ m, m < n → OpFs P m fs.toList 0 d Q) : OpF P n t d Q := by
 intro H enc w fuel hf cs x hx
 obtain ⟨xs, m, hm, _, hl, hlen, hel⟩ := DataW.trod_struct ht hx
 obtain ⟨y, hy, hq⟩ := h m (by omega) H enc w m (Nat.le_refl _) cs (by omega) (fun i f hi => by
  have hi' : fs[i]? = some f := by rw [← Array.getElem?_toList]; exact hi
  have := hel i f hi'
  have hlt : i < xs.length := by
   have := (Array.getElem?_eq_some_iff.1 hi').1
   omega
  rw [List.getElem?_eq_getElem hlt] at this
  exact ⟨_, this⟩)
 rw [List.drop_zero] at hy
 exact ⟨y, hy, hq⟩
theorem opF_iso {α β : Type} {n : Nat} {t : TypeId} {d : Kd α} {Q : α → Prop} {R : β → Prop} (f : β → α) (g : α → β) (hfg : ∀ x, f (g x) = x) (hQ : ∀ x, Q x → R (g x)) (h : OpF P n t d Q) : OpF P n t (Kd.iso d f) R := by
 intro H enc w fuel hf cs x hx
 obtain ⟨y, hy, hq⟩ := h H enc w fuel hf cs x hx
 exact ⟨g y, by show d.K w (f (g y)) cs; rw [hfg]; exact hy, hQ y hq⟩
end Go.Proofs.YtbahnpdgaoedmaaGreatDoor.Rq
namespace Go.Proofs.YtbahnpdgaoedmaaGreatDoor.Mm
open Go.RowKit Go.Proofs.YtbahnpdgaoedmaaGreatDoorW.PrintWords Go.Proofs.YtbahnpdgaoedmaaGreatDoor.PMemoryExact Go.Proofs.YtbahnpdgaoedmaaGreatDoor.Rq
set_option maxRecDepth 100000
set_option linter.unusedSimpArgs false
set_option linter.unusedVariables false
def RgR (r : S84) : Prop := In64 .i64 r.f0 ∧ In64 .i64 r.f1 ∧ r.f2.size ≤ maxLen
mutual
/-- All numbers are numbers of 64 bits. -/
def Rg32 : S32 → Prop
 | ⟨o, n, a, f, t, k⟩ => In64 .i64 o ∧ n.size ≤ maxLen ∧ (a.length ≤ maxLen ∧ ∀ r ∈ a, RgR r) ∧ In64 .i64 f ∧ In64 .i64 t ∧ k.length ≤ maxLen ∧ Rg32s k
def Rg32s : List S32 → Prop
 | [] => True
 | x :: r => Rg32 x ∧ Rg32s r
end
theorem rg32s_all : ∀ {l : List S32}, Rg32s l ↔ ∀ x ∈ l, Rg32 x
 | [] => by simp [Rg32s]
 | x :: l => by simp [Rg32s, rg32s_all (l := l)]
def RgO (x : S34) : Prop := In64 .i64 x.f0 ∧ x.f1.size ≤ maxLen ∧ Rg32 x.f2 ∧ x.f3.size ≤ maxLen
theorem op84 (n : Nat) : OpF Tryz.prog n 84 k84 RgR :=
 opF_iso (fun x : S84 => (x.f0, x.f1, x.f2)) (fun p => ⟨p.1, p.2.1, p.2.2⟩) (fun _ => rfl) (fun _ h => h)
  (opF_struct Tryz.underlying84 (by kernel_rfl) (fun m _ => opFs_cons rfl (by kernel_rfl) (opF_int Tryz.underlying3) (opFs_cons rfl (by kernel_rfl) (opF_int Tryz.underlying3) (opFs_one rfl (by kernel_rfl) (opF_string Tryz.underlying9)))))
theorem op32 (n : Nat) : OpF Tryz.prog n 32 k32 Rg32 := by
  induction n using Nat.strongRecOn with
  | ind n ih =>
   have h : OpF Tryz.prog n 32 (Kd.pair (Kd.int .i64) (Kd.pair Kd.string (Kd.pair (Kd.slice 84 k84) (Kd.pair (Kd.int .i64) (Kd.pair (Kd.int .i64) (Kd.slice 32 k32)))))) _ :=
    opF_struct Tryz.underlying32 (by kernel_rfl) (fun m hm => opFs_cons rfl (by kernel_rfl) (opF_int Tryz.underlying3) (opFs_cons rfl (by kernel_rfl) (opF_string Tryz.underlying9) (opFs_cons rfl (by kernel_rfl) (opF_slice Tryz.underlying29 (by kernel_rfl) (fun q _ => op84 q))
     (opFs_cons rfl (by kernel_rfl) (opF_int Tryz.underlying3) (opFs_cons rfl (by kernel_rfl) (opF_int Tryz.underlying3) (opFs_one rfl (by kernel_rfl) (opF_slice Tryz.underlying30 (by kernel_rfl) (fun q hq => ih q (by omega)))))))))
   intro H enc w fuel hf cs x hx
   obtain ⟨y, hy, h0, h1, h2, h3, h4, h5, h6⟩ := h H enc w fuel hf cs x hx
   obtain ⟨_, _, rfl, rfl, ⟨_, _, rfl, rfl, ⟨_, _, rfl, ⟨A2, c2, rfl, l2, g2⟩, ⟨_, _, rfl, rfl, ⟨_, _, rfl, rfl, ⟨A5, c5, rfl, l5, g5⟩⟩⟩⟩⟩⟩ := hy
   exact ⟨⟨y.1, y.2.1, y.2.2.1, y.2.2.2.1, y.2.2.2.2.1, y.2.2.2.2.2⟩, k32_mk w ⟨y.1, y.2.1, y.2.2.1, y.2.2.2.1, y.2.2.2.2.1, y.2.2.2.2.2⟩ l2 g2 l5 g5, h0, h1, h2, h3, h4, h5, rg32s_all.2 h6⟩
theorem op34 (n : Nat) : OpF Tryz.prog n 34 k34 RgO :=
 opF_iso (fun x : S34 => (x.f0, x.f1, x.f2, x.f3)) (fun p => ⟨p.1, p.2.1, p.2.2.1, p.2.2.2⟩) (fun _ => rfl) (fun _ h => h)
  (opF_struct Tryz.underlying34 (by kernel_rfl) (fun m _ => opFs_cons rfl (by kernel_rfl) (opF_int Tryz.underlying3) (opFs_cons rfl (by kernel_rfl) (opF_string Tryz.underlying9) (opFs_cons rfl (by kernel_rfl) (op32 m) (opFs_one rfl (by kernel_rfl) (opF_string Tryz.underlying9))))))
theorem cells_slice (A : Option Addr) (n c : Nat) : (Value.slice A n c).cells.toList = [.slice A n c] := rfl
/-- The arguments. -/
theorem open_ops {W : World} {r : Reach} {b0 : Nat} {v : Value} {H : Type} {enc : TypeId × Value → H} {d : DataW H} {ps : List MemPlace} (hv : Value.okWide Tryz.prog W r b0 22 v) (h : DataW.Trod enc Tryz.prog W 0 (fun _ => true) true 22 v d ps) : ∃ A c, ∃ l : List S34, v = .slice A l.length c ∧ l.length ≤ c ∧ k34.C W A l.length l ∧ ∀ x ∈ l, RgO x := by
 obtain ⟨A, n, c, rfl⟩ := Go.WideShapes.okWide_slice Tryz.underlying22 hv
 obtain ⟨fuel, hf⟩ := h
 obtain ⟨l, ⟨A', c', he, hl, hr⟩, _, hq⟩ := opF_slice (n := fuel) Tryz.underlying22 (by kernel_rfl) (fun q _ => op34 q) H enc W fuel (Nat.le_refl _) _ _ hf
 rw [cells_slice] at he
 injection he with he
 injection he with e1 e2 e3
 subst e1 e2 e3
 exact ⟨A, c, l, rfl, hl, hr, hq⟩
theorem open_form {W : World} {v : Value} {H : Type} {enc : TypeId × Value → H} {d : DataW H} {ps : List MemPlace} (h : DataW.Trod enc Tryz.prog W 0 (fun _ => true) true 32 v d ps) : ∃ cs, ∃ x : S32, v = .agg cs.toArray ∧ k32.K W x cs ∧ Rg32 x := by
 obtain ⟨fuel, hf⟩ := h
 obtain ⟨x, hx, hq⟩ := op32 fuel H enc W fuel (Nat.le_refl _) _ _ hf
 refine ⟨v.cells.toList, x, ?_, hx, hq⟩
 obtain ⟨A2, c2, A5, c5, he, _⟩ := k32_open hx
 cases v with
 | agg cells => rw [show (Value.agg cells).cells = cells from rfl]
 | _ => simp [Value.cells] at he
end Go.Proofs.YtbahnpdgaoedmaaGreatDoor.Mm
