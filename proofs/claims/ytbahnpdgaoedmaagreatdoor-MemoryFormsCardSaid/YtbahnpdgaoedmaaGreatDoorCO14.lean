/- Part 14 of the proof of MemoryForms: Mwr5, Mtt, Mky, Mmp, Mr, Mpm. -/
import Derived.Test.YtbahnpdgaoedmaaGreatDoorCO13
import Derived.Test.YtbahnpdgaoedmaaGreatDoorCO12
import Derived.Test.YtbahnpdgaoedmaaGreatDoorCO2
import Derived.Test.YtbahnpdgaoedmaaGreatDoorCO3
namespace Go.Proofs.YtbahnpdgaoedmaaGreatDoor.Mm
open Go.RowKit Go.Proofs.YtbahnpdgaoedmaaGreatDoorW.PrintWords Go.Proofs.YtbahnpdgaoedmaaGreatDoorW.PrintLast Go.Proofs.YtbahnpdgaoedmaaGreatDoorW.PrintMore Go.Proofs.YtbahnpdgaoedmaaGreatDoor.PMemoryExact
set_option linter.unusedSimpArgs false
set_option linter.unusedVariables false
set_option maxRecDepth 1000000 in
set_option maxHeartbeats 8000000 in
theorem wr_dur {n : Nat} (hrec : WrTo n) {o : Int} (ho : o = 10) {nm : ByteArray} {a : List S84} {f t : Int} {k : List S32} (hx : size ⟨o, nm, a, f, t, k⟩ < n + 1) {b : Nat} {l : List UInt8} {w : World} {cs : List Value} (hF : Kd.FK k32 w (fun k => k < b) ⟨o, nm, a, f, t, k⟩ cs) (hBI : BIs b (Lib.byteCells l) w) (hTB : TB w) (hg : ∀ g, Tryz.prog.globalNamed "internal/strconv.uint64pow10" = some g → g < b) (hal : Al ⟨o, nm, a, f, t, k⟩) (hlen : l.length + 2000 * size ⟨o, nm, a, f, t, k⟩ ≤ 1000000000) :
  Calls Tryz.prog 53 #[.pointer (some ⟨b, 0, none⟩), .agg cs.toArray] w fun e w' => e = .returned (.tuple #[]) ∧ Wr b (l ++ textB ⟨o, nm, a, f, t, k⟩) w w' := by
 obtain ⟨A2, c2, A5, c5, rfl, _, g2, l5, g5⟩ := k32_openF hF
 have HREC := Lib.hid hrec
 have HG2 := Lib.hid g2
 have HG5 := Lib.hid g5
 have HBL := Lib.hid (bis_lt hBI)
 have HWB := Lib.hid ((Wr.refl hBI).alloc (.cells #[.int .i64 o, .string nm, .slice A2 a.length c2, .int .i64 f, .int .i64 t, .slice A5 k.length c5] 32))
 have HW0 := Lib.hid (Wr.refl HWB.out.1)
 have HTB := Lib.hid (HWB.out.tb hTB hg)
 have HBX := Lib.hid (blk_new w (.cells #[.int .i64 o, .string nm, .slice A2 a.length c2, .int .i64 f, .int .i64 t, .slice A5 k.length c5] 32))
 have HGG := Lib.hid hg
 have HNM := Lib.hid (al_nm hal)
 have HKAL := Lib.hid ((al_is _).1 hal).2
 have HLEN := Lib.hid hlen
 have HSZ := Lib.hid hx
 have ha5 : a.length ≤ 9223372036854775807 := (Kd.F_now g2).2.1
 have hk5 : k.length ≤ 9223372036854775807 := (Kd.F_now g5).2.1
 have z1 : (o == (1 : Int)) = false := by simp; omega
 have z2 : (o == (2 : Int)) = false := by simp; omega
 have z3 : (o == (3 : Int)) = false := by simp; omega
 have z8 : (o == (8 : Int)) = false := by simp; omega
 have z9 : (o == (9 : Int)) = false := by simp; omega
 have z10 : (o == (10 : Int)) = true := by simp; omega
 have HO := Lib.hid ho
 have HHL := Lib.hid (show (headB ⟨o, nm, a, f, t, k⟩).length ≤ 120 from headB_len HNM.out)
 have HTX := Lib.hid (show textB ⟨o, nm, a, f, t, k⟩ = headB ⟨o, nm, a, f, t, k⟩ ++ 40 :: (commas (a.map refB) ++ commas (k.map textB) ++ [41]) by rw [textB_is]; exact if_neg (by show ¬ (o = 1 ∨ o = 2); omega))
 clear hrec hF hBI hTB hg hal hlen hx g2 g5 l5 ho
 dsimp only at *
 obtain ⟨w1, hw1⟩ : ∃ w1, (w.alloc (.cells #[.int .i64 o, .string nm, .slice A2 a.length c2, .int .i64 f, .int .i64 t, .slice A5 k.length c5] 32)) = w1 := ⟨_, rfl⟩
 have HW10 := Lib.hid hw1
 rw [hw1] at HW0 HWB HTB HBX
 clear hw1
 have HTB1 := Lib.hid HTB.out
 have HBX1 := Lib.hid HBX.out
 go_enter Tryz.func53, Tryz.ntmps53
 obtain ⟨s, hs, hsk⟩ := kw_f o
 have HHE := Lib.hid (show headB ⟨o, nm, a, f, t, k⟩ = s.data.toList ++ 32 :: (Lib.itoa f ++ 32 :: Lib.itoa t) by rw [hsk]; unfold headB; rw [if_neg (by show ¬ o = 3; have := HO.out; omega), if_neg (by show ¬ (o = 8 ∨ o = 9); have := HO.out; omega), if_pos (by show o = 10; have := HO.out; omega)])
 have HSK := Lib.hid hsk
 have HKW := Lib.hid hs
 clear hs hsk
 obtain ⟨S, hS⟩ : ∃ S : ByteArray, (⟨(Lib.itoa f).toArray⟩ : ByteArray) = S := ⟨_, rfl⟩
 obtain ⟨T, hT⟩ : ∃ T : ByteArray, (⟨(Lib.itoa t).toArray⟩ : ByteArray) = T := ⟨_, rfl⟩
 have HSS := Lib.hid (show S.data.toList = Lib.itoa f by rw [← hS])
 have HTT := Lib.hid (show T.data.toList = Lib.itoa t by rw [← hT])
 have hsz1 : s.size ≤ 9 := by have h1 := congrArg List.length HSK.out; have h2 := kwd_len o; have e : s.data.toList.length = s.size := rfl; omega
 have hsz2 : S.size ≤ 21 := by rw [← hS]; have := Lib.itoa_length_le f HNM.out.frm.1 HNM.out.frm.2; simpa [ByteArray.size] using this
 have hsz3 : T.size ≤ 21 := by rw [← hT]; have := Lib.itoa_length_le t HNM.out.too.1 HNM.out.too.2; simpa [ByteArray.size] using this
 have HIF := Lib.hid (show ∀ W, Wr b l w1 W → Calls Tryz.prog 87 #[.int .i64 f] W fun e w' => e = .returned (.string S) ∧ Wr b l w1 w' from fun W hW => (itoa_any f HNM.out.frm.1 HNM.out.frm.2 (hW.tb HTB1.out HGG.out)).mono fun e w' h => by obtain ⟨he, kk, os, rfl⟩ := h; exact ⟨by rw [he, hS], hW.itoa⟩)
 have HIT := Lib.hid (show ∀ W, Wr b l w1 W → Calls Tryz.prog 87 #[.int .i64 t] W fun e w' => e = .returned (.string T) ∧ Wr b l w1 w' from fun W hW => (itoa_any t HNM.out.too.1 HNM.out.too.2 (hW.tb HTB1.out HGG.out)).mono fun e w' h => by obtain ⟨he, kk, os, rfl⟩ := h; exact ⟨by rw [he, hT], hW.itoa⟩)
 clear hS hT
 have hcat : ∀ W : World, (Op.stringOp .add s ⟨#[32]⟩).run Tryz.prog W = .ok (.string (s ++ ⟨#[32]⟩)) W := fun W => run_string_add_sum W _ _ (by show s.size + 1 ≤ _; omega)
 have hcat2 : ∀ W : World, (Op.stringOp .add (s ++ ⟨#[32]⟩) S).run Tryz.prog W = .ok (.string (s ++ ⟨#[32]⟩ ++ S)) W := fun W => run_string_add_sum W _ _ (by rw [ByteArray.size_append]; show s.size + 1 + S.size ≤ _; omega)
 have hcat3 : ∀ W : World, (Op.stringOp .add (s ++ ⟨#[32]⟩ ++ S) ⟨#[32]⟩).run Tryz.prog W = .ok (.string (s ++ ⟨#[32]⟩ ++ S ++ ⟨#[32]⟩)) W := fun W => run_string_add_sum W _ _ (by rw [ByteArray.size_append, ByteArray.size_append]; show s.size + 1 + S.size + 1 ≤ _; omega)
 have hcat4 : ∀ W : World, (Op.stringOp .add (s ++ ⟨#[32]⟩ ++ S ++ ⟨#[32]⟩) T).run Tryz.prog W = .ok (.string (s ++ ⟨#[32]⟩ ++ S ++ ⟨#[32]⟩ ++ T)) W := fun W => run_string_add_sum W _ _ (by rw [ByteArray.size_append, ByteArray.size_append, ByteArray.size_append]; show s.size + 1 + S.size + 1 + T.size ≤ _; omega)
 have hc1 : ¬ (9223372036854775807 < s.size + 1) := by omega
 have hc2 : ¬ (9223372036854775807 < s.size + 1 + S.size) := by omega
 have hc3 : ¬ (9223372036854775807 < s.size + 1 + S.size + 1) := by omega
 have hc4 : ¬ (9223372036854775807 < s.size + 1 + S.size + 1 + T.size) := by omega
 have HCT := Lib.hid (show (s ++ ⟨#[32]⟩ ++ S ++ ⟨#[32]⟩ ++ T).data.toList = s.data.toList ++ 32 :: (Lib.itoa f ++ 32 :: Lib.itoa t) by rw [← HSS.out, ← HTT.out]; simp only [ByteArray.data_append, Array.toList_append]; simp)
 have HC0 := Lib.hid (show ∀ W, Wr b l w1 W → W.cell? ⟨w.heap.size, 0, none⟩ = some (.int .i64 o) ∧ W.cell? ⟨w.heap.size, 3, none⟩ = some (.int .i64 f) ∧ W.cell? ⟨w.heap.size, 4, none⟩ = some (.int .i64 t) from fun W hW => by have h := cells_of (hW.blk HBX1.out (by decide) (by have := HBL.out; omega)); exact ⟨h.1, h.2.2.2.1, h.2.2.2.2.1⟩)
 go_wp2_with fail
 rw [HW10.out]
 refine start_ (n := 15) (S := fun w' => Wr b l w1 w') (ds := [14]) #[false, false, false, false, false, false, false, false, false, false, false, false, false, false, false] (by kernel_rfl) rfl rfl HW0.out.drew (fun hHeld => ?_)
 generalize w1.drew = w3 at hHeld ⊢
 refine pure_ (i := 0) (N := (some 48)) (v := ?_) (a' := ?_) #[true, false, false, false, false, false, false, false, false, false, false, false, false, false, false] rfl rfl (by kernel_rfl) (fun _ _ _ h => h) (Or.inl ⟨by rfl, ?_⟩) ?_ ?_
 rotate_left
 ·intro w'
  go_simp
  with_reducible rfl
 rotate_left
 ·simp only [Act.put, List.setIfInBounds_toArray, List.set_cons_zero, List.set_cons_succ]
  rfl
 refine pure_ (i := 1) (N := (some 49)) (v := ?_) (a' := ?_) #[true, true, false, false, false, false, false, false, false, false, false, false, false, false, false] rfl rfl (by kernel_rfl) (fun _ _ _ h => h) (Or.inl ⟨by rfl, ?_⟩) ?_ ?_
 rotate_left
 ·intro w'
  go_simp
  with_reducible rfl
 rotate_left
 ·simp only [Act.put, List.setIfInBounds_toArray, List.set_cons_zero, List.set_cons_succ]
  rfl
 refine take_ (i := 2) (N := (some 50)) (v := ?_) (a' := ?_) #[true, true, true, false, false, false, false, false, false, false, false, false, false, false, false] rfl rfl (by kernel_rfl) (fun _ _ _ h => h) (Or.inl ⟨by rfl, ?_⟩) hHeld ?_ ?_
 rotate_left
 ·rintro w' s0
  obtain ⟨p0, p3, p4⟩ := HC0.out _ s0
  go_simp
  with_reducible rfl
 rotate_left
 ·simp only [Act.put, List.setIfInBounds_toArray, List.set_cons_zero, List.set_cons_succ]
  rfl
 refine pure_ (i := 5) (N := (some 53)) (v := ?_) (a' := ?_) #[true, true, true, false, false, true, false, false, false, false, false, false, false, false, false] rfl rfl (by kernel_rfl) (fun _ _ _ h => h) (Or.inl ⟨by rfl, ?_⟩) ?_ ?_
 rotate_left
 ·intro w'
  go_simp
  with_reducible rfl
 rotate_left
 ·simp only [Act.put, List.setIfInBounds_toArray, List.set_cons_zero, List.set_cons_succ]
  rfl
 refine take_ (i := 6) (N := (some 54)) (v := ?_) (a' := ?_) #[true, true, true, false, false, true, true, false, false, false, false, false, false, false, false] rfl rfl (by kernel_rfl) (fun _ _ _ h => h) (Or.inl ⟨by rfl, ?_⟩) hHeld ?_ ?_
 rotate_left
 ·rintro w' s0
  obtain ⟨p0, p3, p4⟩ := HC0.out _ s0
  go_simp
  with_reducible rfl
 rotate_left
 ·simp only [Act.put, List.setIfInBounds_toArray, List.set_cons_zero, List.set_cons_succ]
  rfl
 refine pure_ (i := 10) (N := (some 58)) (v := ?_) (a' := ?_) #[true, true, true, false, false, true, true, false, false, false, true, false, false, false, false] rfl rfl (by kernel_rfl) (fun _ _ _ h => h) (Or.inl ⟨by rfl, ?_⟩) ?_ ?_
 rotate_left
 ·intro w'
  go_simp
  with_reducible rfl
 rotate_left
 ·simp only [Act.put, List.setIfInBounds_toArray, List.set_cons_zero, List.set_cons_succ]
  rfl
 refine take_ (i := 11) (N := (some 59)) (v := ?_) (a' := ?_) #[true, true, true, false, false, true, true, false, false, false, true, true, false, false, false] rfl rfl (by kernel_rfl) (fun _ _ _ h => h) (Or.inl ⟨by rfl, ?_⟩) hHeld ?_ ?_
 rotate_left
 ·rintro w' s0
  obtain ⟨p0, p3, p4⟩ := HC0.out _ s0
  go_simp
  with_reducible rfl
 rotate_left
 ·simp only [Act.put, List.setIfInBounds_toArray, List.set_cons_zero, List.set_cons_succ]
  rfl
 refine one_ (i := 3) (N := (some 51)) #[true, true, true, true, false, true, true, false, false, false, true, true, false, false, false] rfl rfl (by kernel_rfl) (by decide) (fun K hK => ?_)
 go_simp
 refine (formula_keyword.calls o s _ HKW.out).mono ?_
 rintro e w4 ⟨rfl, hd⟩
 refine hK.out _ _ (hHeld.drawn hd) (fun hHeld => ?_)
 clear hK K
 (try simp only [Act.put, List.setIfInBounds_toArray, List.set_cons_zero, List.set_cons_succ])
 refine pure_ (i := 4) (N := (some 52)) (v := ?_) (a' := ?_) #[true, true, true, true, true, true, true, false, false, false, true, true, false, false, false] rfl rfl (by kernel_rfl) (fun _ _ _ h => h) (Or.inl ⟨by rfl, ?_⟩) ?_ ?_
 rotate_left
 ·intro w'
  go_simp
  with_reducible rfl
 rotate_left
 ·simp only [Act.put, List.setIfInBounds_toArray, List.set_cons_zero, List.set_cons_succ]
  rfl
 refine one_ (i := 7) (N := (some 55)) #[true, true, true, true, true, true, true, true, false, false, true, true, false, false, false] rfl rfl (by kernel_rfl) (by decide) (fun K hK => ?_)
 go_simp
 refine (HIF.out _ hHeld).mono ?_
 rintro e w6 ⟨rfl, hwi⟩
 refine hK.out _ _ hwi (fun hHeld => ?_)
 clear hK K
 (try simp only [Act.put, List.setIfInBounds_toArray, List.set_cons_zero, List.set_cons_succ])
 refine pure_ (i := 8) (N := (some 56)) (v := ?_) (a' := ?_) #[true, true, true, true, true, true, true, true, true, false, true, true, false, false, false] rfl rfl (by kernel_rfl) (fun _ _ _ h => h) (Or.inl ⟨by rfl, ?_⟩) ?_ ?_
 rotate_left
 ·intro w'
  go_simp
  with_reducible rfl
 rotate_left
 ·simp only [Act.put, List.setIfInBounds_toArray, List.set_cons_zero, List.set_cons_succ]
  rfl
 refine pure_ (i := 9) (N := (some 57)) (v := ?_) (a' := ?_) #[true, true, true, true, true, true, true, true, true, true, true, true, false, false, false] rfl rfl (by kernel_rfl) (fun _ _ _ h => h) (Or.inl ⟨by rfl, ?_⟩) ?_ ?_
 rotate_left
 ·intro w'
  go_simp
  with_reducible rfl
 rotate_left
 ·simp only [Act.put, List.setIfInBounds_toArray, List.set_cons_zero, List.set_cons_succ]
  rfl
 refine one_ (i := 12) (N := (some 60)) #[true, true, true, true, true, true, true, true, true, true, true, true, true, false, false] rfl rfl (by kernel_rfl) (by decide) (fun K hK => ?_)
 go_simp
 refine (HIT.out _ hHeld).mono ?_
 rintro e w7 ⟨rfl, hwt⟩
 refine hK.out _ _ hwt (fun hHeld => ?_)
 clear hK K
 (try simp only [Act.put, List.setIfInBounds_toArray, List.set_cons_zero, List.set_cons_succ])
 refine pure_ (i := 13) (N := (some 61)) (v := ?_) (a' := ?_) #[true, true, true, true, true, true, true, true, true, true, true, true, true, true, false] rfl rfl (by kernel_rfl) (fun _ _ _ h => h) (Or.inl ⟨by rfl, ?_⟩) ?_ ?_
 rotate_left
 ·intro w'
  go_simp
  with_reducible rfl
 rotate_left
 ·simp only [Act.put, List.setIfInBounds_toArray, List.set_cons_zero, List.set_cons_succ]
  rfl
 refine last_ (i := 14) (N := (some 62)) #[true, true, true, true, true, true, true, true, true, true, true, true, true, true, true] rfl rfl (by kernel_rfl) (by decide) (fun K hK => ?_)
 go_simp
 obtain ⟨S2, hS2⟩ : ∃ S2, s ++ (⟨#[32]⟩ : ByteArray) ++ S ++ ⟨#[32]⟩ ++ T = S2 := ⟨_, rfl⟩
 rw [hS2] at HCT ⊢
 clear hS2
 refine (ws_any S2 hHeld.1 (by have h1 := congrArg List.length HCT.out; rw [List.length_append, List.length_cons, List.length_append, List.length_cons] at h1; have e1 : s.data.toList.length = s.size := rfl; have := Lib.itoa_length_le f HNM.out.frm.1 HNM.out.frm.2; have := Lib.itoa_length_le t HNM.out.too.1 HNM.out.too.2; have := HLEN.out; omega)).mono ?_
 rintro e w5 ⟨rfl, hw⟩
 have HWH := Lib.hid (hHeld.step hw)
 rw [HCT.out, ← HHE.out] at HWH
 clear hw
 refine hK.out _ _ ?_
 clear hK K
 (try simp only [Act.put, List.setIfInBounds_toArray, List.set_cons_zero, List.set_cons_succ])
 refine done_ (by kernel_rfl) ?_
 have HBX5 := Lib.hid (HWH.out.blk HBX1.out (by decide) (by have := HBL.out; omega))
 obtain ⟨k0, k1, k2, k3, k4, k5⟩ := cells_of HBX5.out
 go_wp2_with fail
 refine (wb_any 40 40 rfl HWH.out.1 (by have := HHL.out; have := HLEN.out; rw [List.length_append]; omega)).mono ?_
 rintro e w6 ⟨rfl, hw⟩
 have HW6 := Lib.hid (HWH.out.step hw)
 have HBX6 := Lib.hid (HW6.out.blk HBX1.out (by decide) (by have := HBL.out; omega))
 clear hw k0 k1 k2 k3 k4 k5
 obtain ⟨k0, k1, k2, k3, k4, k5⟩ := cells_of HBX6.out
 have HL1 := Lib.hid (show (l ++ headB ⟨o, nm, a, f, t, k⟩ ++ [40]).length ≤ l.length + 121 by have := HHL.out; simp only [List.length_append, List.length_cons, List.length_nil]; omega)
 obtain ⟨L1, hL1⟩ : ∃ L1, l ++ headB ⟨o, nm, a, f, t, k⟩ ++ [40] = L1 := ⟨_, rfl⟩
 rw [hL1] at HW6 HL1
 have HLL1 := Lib.hid hL1
 clear hL1
 go_wp2
 go_loopw [68] (fun v68 wr => RefRel b L1 a w1 v68 wr) (fun v68 _ => a.length - (intOf v68).toNat)
 case atStart => exact ⟨0, rfl, Nat.zero_le _, by simpa [commas] using HW6.out⟩
 case round =>
  obtain ⟨j, rfl, hj, hwr⟩ := hrel
  have HWR := Lib.hid hwr
  clear hwr k0 k1 k2 k3 k4 k5
  have HCL := Lib.hid (show (commas ((a.take j).map refB)).length ≤ 1020 from refs_len (fun r hr => refB_len (HNM.out.ref r hr)) HNM.out.refs j)
  have HLR := Lib.hid (show (L1 ++ commas ((a.take j).map refB)).length ≤ l.length + 1141 by rw [List.length_append]; have := HCL.out; have := HL1.out; omega)
  by_cases hlt : j < a.length
  ·have hj0 : 0 ≤ (j : Int) := by omega
   have hj1 : (j : Int) < (a.length : Int) := by omega
   obtain ⟨ad, e1, q0, q1, q2⟩ := ref_at (Kd.F_now (Kd.F_step HG2.out (fun k hk _ => (HWB.out.base HWR.out).2.1.block k hk))) j hlt
   subst e1
   have HCN := Lib.hid (commas_next refB hlt)
   have HRM := Lib.hid (HNM.out.ref _ (List.getElem_mem hlt))
   obtain ⟨r, hr⟩ : ∃ r, a[j] = r := ⟨_, rfl⟩
   rw [hr] at q0 q1 q2 HCN HRM
   clear hr
   have HR5 := Lib.hid (blk_new wr (.cells #[.int .i64 r.f0, .int .i64 r.f1, .string r.f2] 84))
   have HWA := Lib.hid (HWR.out.alloc (.cells #[.int .i64 r.f0, .int .i64 r.f1, .string r.f2] 84))
   have HWS := Lib.hid (show b < wr.heap.size from bis_lt HWR.out.1)
   obtain ⟨LJ, hLJ⟩ : ∃ LJ, L1 ++ commas ((a.take j).map refB) = LJ := ⟨_, rfl⟩
   rw [hLJ] at HWA HLR
   have HLJ := Lib.hid hLJ
   clear hLJ HCL
   by_cases h0 : j = 0
   ·have HJ0 := Lib.hid h0
    have gz : decide ((0 : Int) < (j : Int)) = false := decide_eq_false (by omega)
    have gzn : decide (0 < j) = false := decide_eq_false (by omega)
    clear h0
    have HWC := Lib.hid HWA.out
    obtain ⟨LC, hLC⟩ : ∃ LC, LJ = LC := ⟨_, rfl⟩
    have HLC2 := Lib.hid hLC
    rw [hLC] at HWC
    have HLC := Lib.hid (show LC.length ≤ l.length + 1143 by rw [← hLC]; have := HLR.out; omega)
    clear hLC
    by_cases h1 : r.f0 = 1
    ·have HRF := Lib.hid (show refB r = 35 :: Lib.itoa r.f1 by unfold refB; rw [if_pos h1])
     have u1 : (r.f0 == (1 : Int)) = true := by simpa using h1
     clear h1
     go_wp2_with fail
     refine (itoa_any r.f1 HRM.out.2.1 HRM.out.2.2 (HWC.out.tb HTB1.out HGG.out)).mono ?_
     rintro e w8 ⟨rfl, kk, os, hgr⟩
     have HWI := Lib.hid (show Wr b LC w1 w8 by rw [hgr]; exact HWC.out.itoa)
     clear hgr
     obtain ⟨S, hS⟩ : ∃ S : ByteArray, (⟨(Lib.itoa r.f1).toArray⟩ : ByteArray) = S := ⟨_, rfl⟩
     rw [hS]
     have HSS := Lib.hid (show S.data.toList = Lib.itoa r.f1 by rw [← hS])
     have hsz : S.size ≤ 21 := by rw [← hS]; have := Lib.itoa_length_le r.f1 HRM.out.2.1 HRM.out.2.2; simpa [ByteArray.size] using this
     clear hS
     have hcat : ∀ W : World, (Op.stringOp .add ⟨#[35]⟩ S).run Tryz.prog W = .ok (.string (⟨#[35]⟩ ++ S)) W := fun W => run_string_add_sum W _ _ (by show 1 + S.size ≤ _; omega)
     have hc1 : ¬ (9223372036854775807 < 1 + S.size) := by omega
     have hc2 : ¬ (9223372036854775807 < (⟨#[35]⟩ : ByteArray).size + S.size) := by show ¬ (9223372036854775807 < 1 + S.size); omega
     have HCT := Lib.hid (show ((⟨#[35]⟩ : ByteArray) ++ S).data.toList = 35 :: Lib.itoa r.f1 by rw [ByteArray.data_append, Array.toList_append, HSS.out]; rfl)
     go_wp2_with fail
     obtain ⟨S2, hS2⟩ : ∃ S2, (⟨#[35]⟩ : ByteArray) ++ S = S2 := ⟨_, rfl⟩
     rw [hS2] at HCT ⊢
     clear hS2
     refine (ws_any S2 HWI.out.1 (by have h1 := congrArg List.length HCT.out; rw [List.length_cons] at h1; have := Lib.itoa_length_le r.f1 HRM.out.2.1 HRM.out.2.2; have := HLC.out; have := HLEN.out; omega)).mono ?_
     rintro e w9 ⟨rfl, hw9⟩
     have HW9 := Lib.hid (HWI.out.step hw9)
     clear hw9
     go_wp2
     go_roundw
     case rel => exact ⟨j + 1, by go_num, hlt, by rw [HCN.out, ← List.append_assoc, HLJ.out, if_pos HJ0.out, HRF.out]; have h9 := HW9.out; rw [← HLC2.out, HCT.out] at h9; exact h9⟩
     case measure => simp [intOf]; omega
    ·by_cases h3 : r.f0 = 3
     ·have HRF := Lib.hid (show refB r = 64 :: Lib.itoa r.f1 by unfold refB; rw [if_neg h1, if_pos h3])
      have u1 : (r.f0 == (1 : Int)) = false := by simpa using h1
      have u3 : (r.f0 == (3 : Int)) = true := by simpa using h3
      clear h1 h3
      go_wp2_with fail
      refine (itoa_any r.f1 HRM.out.2.1 HRM.out.2.2 (HWC.out.tb HTB1.out HGG.out)).mono ?_
      rintro e w8 ⟨rfl, kk, os, hgr⟩
      have HWI := Lib.hid (show Wr b LC w1 w8 by rw [hgr]; exact HWC.out.itoa)
      clear hgr
      obtain ⟨S, hS⟩ : ∃ S : ByteArray, (⟨(Lib.itoa r.f1).toArray⟩ : ByteArray) = S := ⟨_, rfl⟩
      rw [hS]
      have HSS := Lib.hid (show S.data.toList = Lib.itoa r.f1 by rw [← hS])
      have hsz : S.size ≤ 21 := by rw [← hS]; have := Lib.itoa_length_le r.f1 HRM.out.2.1 HRM.out.2.2; simpa [ByteArray.size] using this
      clear hS
      have hcat : ∀ W : World, (Op.stringOp .add ⟨#[64]⟩ S).run Tryz.prog W = .ok (.string (⟨#[64]⟩ ++ S)) W := fun W => run_string_add_sum W _ _ (by show 1 + S.size ≤ _; omega)
      have hc1 : ¬ (9223372036854775807 < 1 + S.size) := by omega
      have hc2 : ¬ (9223372036854775807 < (⟨#[64]⟩ : ByteArray).size + S.size) := by show ¬ (9223372036854775807 < 1 + S.size); omega
      have HCT := Lib.hid (show ((⟨#[64]⟩ : ByteArray) ++ S).data.toList = 64 :: Lib.itoa r.f1 by rw [ByteArray.data_append, Array.toList_append, HSS.out]; rfl)
      go_wp2_with fail
      obtain ⟨S2, hS2⟩ : ∃ S2, (⟨#[64]⟩ : ByteArray) ++ S = S2 := ⟨_, rfl⟩
      rw [hS2] at HCT ⊢
      clear hS2
      refine (ws_any S2 HWI.out.1 (by have h1 := congrArg List.length HCT.out; rw [List.length_cons] at h1; have := Lib.itoa_length_le r.f1 HRM.out.2.1 HRM.out.2.2; have := HLC.out; have := HLEN.out; omega)).mono ?_
      rintro e w9 ⟨rfl, hw9⟩
      have HW9 := Lib.hid (HWI.out.step hw9)
      clear hw9
      go_wp2
      go_roundw
      case rel => exact ⟨j + 1, by go_num, hlt, by rw [HCN.out, ← List.append_assoc, HLJ.out, if_pos HJ0.out, HRF.out]; have h9 := HW9.out; rw [← HLC2.out, HCT.out] at h9; exact h9⟩
      case measure => simp [intOf]; omega
     ·by_cases h4 : r.f0 = 4
      ·have HRF := Lib.hid (show refB r = Lib.itoa r.f1 by unfold refB; rw [if_neg h1, if_neg h3, if_pos h4])
       have u1 : (r.f0 == (1 : Int)) = false := by simpa using h1
       have u3 : (r.f0 == (3 : Int)) = false := by simpa using h3
       have u4 : (r.f0 == (4 : Int)) = true := by simpa using h4
       clear h1 h3 h4
       go_wp2_with fail
       refine (itoa_any r.f1 HRM.out.2.1 HRM.out.2.2 (HWC.out.tb HTB1.out HGG.out)).mono ?_
       rintro e w8 ⟨rfl, kk, os, hgr⟩
       have HWI := Lib.hid (show Wr b LC w1 w8 by rw [hgr]; exact HWC.out.itoa)
       clear hgr
       obtain ⟨S, hS⟩ : ∃ S : ByteArray, (⟨(Lib.itoa r.f1).toArray⟩ : ByteArray) = S := ⟨_, rfl⟩
       rw [hS]
       have HSS := Lib.hid (show S.data.toList = Lib.itoa r.f1 by rw [← hS])
       have hsz : S.size ≤ 21 := by rw [← hS]; have := Lib.itoa_length_le r.f1 HRM.out.2.1 HRM.out.2.2; simpa [ByteArray.size] using this
       clear hS
       go_wp2_with fail
       refine (ws_any S HWI.out.1 (by rw [HSS.out]; have := Lib.itoa_length_le r.f1 HRM.out.2.1 HRM.out.2.2; have := HLC.out; have := HLEN.out; omega)).mono ?_
       rintro e w9 ⟨rfl, hw9⟩
       have HW9 := Lib.hid (HWI.out.step hw9)
       clear hw9
       go_wp2
       go_roundw
       case rel => exact ⟨j + 1, by go_num, hlt, by rw [HCN.out, ← List.append_assoc, HLJ.out, if_pos HJ0.out, HRF.out]; have h9 := HW9.out; rw [← HLC2.out, HSS.out] at h9; exact h9⟩
       case measure => simp [intOf]; omega
      ·have HRF := Lib.hid (show refB r = r.f2.data.toList by unfold refB; rw [if_neg h1, if_neg h3, if_neg h4])
       have u1 : (r.f0 == (1 : Int)) = false := by simpa using h1
       have u3 : (r.f0 == (3 : Int)) = false := by simpa using h3
       have u4 : (r.f0 == (4 : Int)) = false := by simpa using h4
       clear h1 h3 h4
       have HWI := Lib.hid HWC.out
       go_wp2_with fail
       refine (ws_any r.f2 HWI.out.1 (by have h := HRM.out.1; have := HLC.out; have := HLEN.out; have e : r.f2.data.toList.length = r.f2.size := rfl; omega)).mono ?_
       rintro e w9 ⟨rfl, hw9⟩
       have HW9 := Lib.hid (HWI.out.step hw9)
       clear hw9
       go_wp2
       go_roundw
       case rel => exact ⟨j + 1, by go_num, hlt, by rw [HCN.out, ← List.append_assoc, HLJ.out, if_pos HJ0.out, HRF.out]; have h9 := HW9.out; rw [← HLC2.out] at h9; exact h9⟩
       case measure => simp [intOf]; omega
   ·have HJ0 := Lib.hid h0
    have gz : decide ((0 : Int) < (j : Int)) = true := decide_eq_true (by omega)
    have gzn : decide (0 < j) = true := decide_eq_true (by omega)
    clear h0
    go_wp2_with fail
    refine (ws_any ⟨#[44, 32]⟩ HWA.out.1 (by have := HLR.out; have := HLEN.out; simp; omega)).mono ?_
    rintro e w7 ⟨rfl, hw7⟩
    have HWC := Lib.hid (HWA.out.step hw7)
    have HR7 := Lib.hid (hw7.blk HR5.out (by decide) (by have := HWS.out; omega))
    have r70 : w7.cell? ⟨wr.heap.size, 0, none⟩ = some (.int .i64 r.f0) := blk_cell HR7.out 0
    have r71 : w7.cell? ⟨wr.heap.size, 1, none⟩ = some (.int .i64 r.f1) := blk_cell HR7.out 1
    have r72 : w7.cell? ⟨wr.heap.size, 2, none⟩ = some (.string r.f2) := blk_cell HR7.out 2
    clear hw7
    obtain ⟨LC, hLC⟩ : ∃ LC, LJ ++ (⟨#[44, 32]⟩ : ByteArray).data.toList = LC := ⟨_, rfl⟩
    have HLC2 := Lib.hid hLC
    rw [hLC] at HWC
    have HLC := Lib.hid (show LC.length ≤ l.length + 1143 by rw [← hLC]; have := HLR.out; simp; omega)
    clear hLC
    by_cases h1 : r.f0 = 1
    ·have HRF := Lib.hid (show refB r = 35 :: Lib.itoa r.f1 by unfold refB; rw [if_pos h1])
     have u1 : (r.f0 == (1 : Int)) = true := by simpa using h1
     clear h1
     go_wp2_with fail
     refine (itoa_any r.f1 HRM.out.2.1 HRM.out.2.2 (HWC.out.tb HTB1.out HGG.out)).mono ?_
     rintro e w8 ⟨rfl, kk, os, hgr⟩
     have HWI := Lib.hid (show Wr b LC w1 w8 by rw [hgr]; exact HWC.out.itoa)
     clear hgr
     obtain ⟨S, hS⟩ : ∃ S : ByteArray, (⟨(Lib.itoa r.f1).toArray⟩ : ByteArray) = S := ⟨_, rfl⟩
     rw [hS]
     have HSS := Lib.hid (show S.data.toList = Lib.itoa r.f1 by rw [← hS])
     have hsz : S.size ≤ 21 := by rw [← hS]; have := Lib.itoa_length_le r.f1 HRM.out.2.1 HRM.out.2.2; simpa [ByteArray.size] using this
     clear hS
     have hcat : ∀ W : World, (Op.stringOp .add ⟨#[35]⟩ S).run Tryz.prog W = .ok (.string (⟨#[35]⟩ ++ S)) W := fun W => run_string_add_sum W _ _ (by show 1 + S.size ≤ _; omega)
     have hc1 : ¬ (9223372036854775807 < 1 + S.size) := by omega
     have hc2 : ¬ (9223372036854775807 < (⟨#[35]⟩ : ByteArray).size + S.size) := by show ¬ (9223372036854775807 < 1 + S.size); omega
     have HCT := Lib.hid (show ((⟨#[35]⟩ : ByteArray) ++ S).data.toList = 35 :: Lib.itoa r.f1 by rw [ByteArray.data_append, Array.toList_append, HSS.out]; rfl)
     go_wp2_with fail
     obtain ⟨S2, hS2⟩ : ∃ S2, (⟨#[35]⟩ : ByteArray) ++ S = S2 := ⟨_, rfl⟩
     rw [hS2] at HCT ⊢
     clear hS2
     refine (ws_any S2 HWI.out.1 (by have h1 := congrArg List.length HCT.out; rw [List.length_cons] at h1; have := Lib.itoa_length_le r.f1 HRM.out.2.1 HRM.out.2.2; have := HLC.out; have := HLEN.out; omega)).mono ?_
     rintro e w9 ⟨rfl, hw9⟩
     have HW9 := Lib.hid (HWI.out.step hw9)
     clear hw9
     go_wp2
     go_roundw
     case rel => exact ⟨j + 1, by go_num, hlt, by rw [HCN.out, ← List.append_assoc, HLJ.out, if_neg HJ0.out, HRF.out]; have h9 := HW9.out; rw [← HLC2.out, HCT.out] at h9; simpa using h9⟩
     case measure => simp [intOf]; omega
    ·by_cases h3 : r.f0 = 3
     ·have HRF := Lib.hid (show refB r = 64 :: Lib.itoa r.f1 by unfold refB; rw [if_neg h1, if_pos h3])
      have u1 : (r.f0 == (1 : Int)) = false := by simpa using h1
      have u3 : (r.f0 == (3 : Int)) = true := by simpa using h3
      clear h1 h3
      go_wp2_with fail
      refine (itoa_any r.f1 HRM.out.2.1 HRM.out.2.2 (HWC.out.tb HTB1.out HGG.out)).mono ?_
      rintro e w8 ⟨rfl, kk, os, hgr⟩
      have HWI := Lib.hid (show Wr b LC w1 w8 by rw [hgr]; exact HWC.out.itoa)
      clear hgr
      obtain ⟨S, hS⟩ : ∃ S : ByteArray, (⟨(Lib.itoa r.f1).toArray⟩ : ByteArray) = S := ⟨_, rfl⟩
      rw [hS]
      have HSS := Lib.hid (show S.data.toList = Lib.itoa r.f1 by rw [← hS])
      have hsz : S.size ≤ 21 := by rw [← hS]; have := Lib.itoa_length_le r.f1 HRM.out.2.1 HRM.out.2.2; simpa [ByteArray.size] using this
      clear hS
      have hcat : ∀ W : World, (Op.stringOp .add ⟨#[64]⟩ S).run Tryz.prog W = .ok (.string (⟨#[64]⟩ ++ S)) W := fun W => run_string_add_sum W _ _ (by show 1 + S.size ≤ _; omega)
      have hc1 : ¬ (9223372036854775807 < 1 + S.size) := by omega
      have hc2 : ¬ (9223372036854775807 < (⟨#[64]⟩ : ByteArray).size + S.size) := by show ¬ (9223372036854775807 < 1 + S.size); omega
      have HCT := Lib.hid (show ((⟨#[64]⟩ : ByteArray) ++ S).data.toList = 64 :: Lib.itoa r.f1 by rw [ByteArray.data_append, Array.toList_append, HSS.out]; rfl)
      go_wp2_with fail
      obtain ⟨S2, hS2⟩ : ∃ S2, (⟨#[64]⟩ : ByteArray) ++ S = S2 := ⟨_, rfl⟩
      rw [hS2] at HCT ⊢
      clear hS2
      refine (ws_any S2 HWI.out.1 (by have h1 := congrArg List.length HCT.out; rw [List.length_cons] at h1; have := Lib.itoa_length_le r.f1 HRM.out.2.1 HRM.out.2.2; have := HLC.out; have := HLEN.out; omega)).mono ?_
      rintro e w9 ⟨rfl, hw9⟩
      have HW9 := Lib.hid (HWI.out.step hw9)
      clear hw9
      go_wp2
      go_roundw
      case rel => exact ⟨j + 1, by go_num, hlt, by rw [HCN.out, ← List.append_assoc, HLJ.out, if_neg HJ0.out, HRF.out]; have h9 := HW9.out; rw [← HLC2.out, HCT.out] at h9; simpa using h9⟩
      case measure => simp [intOf]; omega
     ·by_cases h4 : r.f0 = 4
      ·have HRF := Lib.hid (show refB r = Lib.itoa r.f1 by unfold refB; rw [if_neg h1, if_neg h3, if_pos h4])
       have u1 : (r.f0 == (1 : Int)) = false := by simpa using h1
       have u3 : (r.f0 == (3 : Int)) = false := by simpa using h3
       have u4 : (r.f0 == (4 : Int)) = true := by simpa using h4
       clear h1 h3 h4
       go_wp2_with fail
       refine (itoa_any r.f1 HRM.out.2.1 HRM.out.2.2 (HWC.out.tb HTB1.out HGG.out)).mono ?_
       rintro e w8 ⟨rfl, kk, os, hgr⟩
       have HWI := Lib.hid (show Wr b LC w1 w8 by rw [hgr]; exact HWC.out.itoa)
       clear hgr
       obtain ⟨S, hS⟩ : ∃ S : ByteArray, (⟨(Lib.itoa r.f1).toArray⟩ : ByteArray) = S := ⟨_, rfl⟩
       rw [hS]
       have HSS := Lib.hid (show S.data.toList = Lib.itoa r.f1 by rw [← hS])
       have hsz : S.size ≤ 21 := by rw [← hS]; have := Lib.itoa_length_le r.f1 HRM.out.2.1 HRM.out.2.2; simpa [ByteArray.size] using this
       clear hS
       go_wp2_with fail
       refine (ws_any S HWI.out.1 (by rw [HSS.out]; have := Lib.itoa_length_le r.f1 HRM.out.2.1 HRM.out.2.2; have := HLC.out; have := HLEN.out; omega)).mono ?_
       rintro e w9 ⟨rfl, hw9⟩
       have HW9 := Lib.hid (HWI.out.step hw9)
       clear hw9
       go_wp2
       go_roundw
       case rel => exact ⟨j + 1, by go_num, hlt, by rw [HCN.out, ← List.append_assoc, HLJ.out, if_neg HJ0.out, HRF.out]; have h9 := HW9.out; rw [← HLC2.out, HSS.out] at h9; simpa using h9⟩
       case measure => simp [intOf]; omega
      ·have HRF := Lib.hid (show refB r = r.f2.data.toList by unfold refB; rw [if_neg h1, if_neg h3, if_neg h4])
       have u1 : (r.f0 == (1 : Int)) = false := by simpa using h1
       have u3 : (r.f0 == (3 : Int)) = false := by simpa using h3
       have u4 : (r.f0 == (4 : Int)) = false := by simpa using h4
       clear h1 h3 h4
       have HWI := Lib.hid HWC.out
       go_wp2_with fail
       refine (ws_any r.f2 HWI.out.1 (by have h := HRM.out.1; have := HLC.out; have := HLEN.out; have e : r.f2.data.toList.length = r.f2.size := rfl; omega)).mono ?_
       rintro e w9 ⟨rfl, hw9⟩
       have HW9 := Lib.hid (HWI.out.step hw9)
       clear hw9
       go_wp2
       go_roundw
       case rel => exact ⟨j + 1, by go_num, hlt, by rw [HCN.out, ← List.append_assoc, HLJ.out, if_neg HJ0.out, HRF.out]; have h9 := HW9.out; rw [← HLC2.out] at h9; simpa using h9⟩
       case measure => simp [intOf]; omega
  ·have hja : j = a.length := by omega
   subst hja
   clear hlt hj
   have HBX7 := Lib.hid (HWR.out.blk HBX1.out (by decide) (by have := HBL.out; omega))
   obtain ⟨k0, k1, k2, k3, k4, k5⟩ := cells_of HBX7.out
   rw [List.take_length] at HWR HLR HCL
   obtain ⟨L2, hL2⟩ : ∃ L2, L1 ++ commas (a.map refB) = L2 := ⟨_, rfl⟩
   rw [hL2] at HWR HLR
   have HLL2 := Lib.hid hL2
   clear hL2 HCL
   go_wp2
   go_loopw [110] (fun v110 wr => KidRel b L2 k w1 v110 wr) (fun v110 _ => k.length - (intOf v110).toNat)
   case atStart => exact ⟨0, rfl, Nat.zero_le _, by simpa [commas] using HWR.out⟩
   case round =>
    obtain ⟨j, rfl, hj, hwr⟩ := hrel
    have HWK := Lib.hid hwr
    clear hwr k0 k1 k2 k3 k4 k5
    by_cases hlt : j < k.length
    ·have hj0 : 0 ≤ (j : Int) := by omega
     have hj1 : (j : Int) < (k.length : Int) := by omega
     obtain ⟨ad, A3, c3, A6, c6, e4, q0, q1, q2, q3, q4, q5, qF⟩ := form_F (Kd.F_step HG5.out (fun k hk _ => (HWB.out.base HWK.out).2.1.block k hk)) (Below.refl _ _) j hlt
     subst e4
     have HCN := Lib.hid (commas_next textB hlt)
     have HKLN := Lib.hid (kids_len HKAL.out hlt)
     have hmem : k[j] ∈ k := List.getElem_mem hlt
     obtain ⟨y, hy⟩ : ∃ y, k[j] = y := ⟨_, rfl⟩
     rw [hy] at q0 q1 q2 q3 q4 q5 qF hmem HCN HKLN
     clear hy
     have HQF := Lib.hid qF
     have HYL := Lib.hid (HKAL.out y hmem)
     have HYS := Lib.hid (show size y < n by have := kid_lt (x := ⟨o, nm, a, f, t, k⟩) hmem; have := HSZ.out; omega)
     have HXS := Lib.hid (show size ⟨o, nm, a, f, t, k⟩ = 1 + size.sizes k from size_is ⟨o, nm, a, f, t, k⟩)
     have HR5 := Lib.hid (blk_new wr (.cells #[.int .i64 y.f0, .string y.f1, .slice A3 y.f2.length c3, .int .i64 y.f3, .int .i64 y.f4, .slice A6 y.f5.length c6] 32))
     have HWA := Lib.hid (HWK.out.alloc (.cells #[.int .i64 y.f0, .string y.f1, .slice A3 y.f2.length c3, .int .i64 y.f3, .int .i64 y.f4, .slice A6 y.f5.length c6] 32))
     have HWAA := Lib.hid ((Wr.refl HWK.out.1).alloc (.cells #[.int .i64 y.f0, .string y.f1, .slice A3 y.f2.length c3, .int .i64 y.f3, .int .i64 y.f4, .slice A6 y.f5.length c6] 32))
     have HWS := Lib.hid (show b < wr.heap.size from bis_lt HWK.out.1)
     obtain ⟨LJ, hLJ⟩ : ∃ LJ, L2 ++ commas ((k.take j).map textB) = LJ := ⟨_, rfl⟩
     have HLRK := Lib.hid (show LJ.length + 2000 * size y + 857 ≤ l.length + 2000 * size ⟨o, nm, a, f, t, k⟩ by rw [← hLJ, List.length_append]; have := HKLN.out; have := HLR.out; have := HXS.out; omega)
     rw [hLJ] at HWA HWAA
     have HLJ := Lib.hid hLJ
     clear hLJ qF hmem
     by_cases h0 : j = 0
     ·have HJ0 := Lib.hid h0
      have gz : decide ((0 : Int) < (j : Int)) = false := decide_eq_false (by omega)
      have gzn : decide (0 < j) = false := decide_eq_false (by omega)
      clear h0
      have HWC := Lib.hid HWA.out
      have HWCB := Lib.hid HWAA.out
      obtain ⟨LC, hLC⟩ : ∃ LC, LJ = LC := ⟨_, rfl⟩
      have HLC2 := Lib.hid hLC
      rw [hLC] at HWC HWCB
      have HLC := Lib.hid (show LC.length + 2000 * size y ≤ l.length + 2000 * size ⟨o, nm, a, f, t, k⟩ by rw [← hLC]; have := HLRK.out; omega)
      clear hLC
      have HCALL := Lib.hid (HREC.out y HYS.out b LC (wr.alloc (.cells #[.int .i64 y.f0, .string y.f1, .slice A3 y.f2.length c3, .int .i64 y.f3, .int .i64 y.f4, .slice A6 y.f5.length c6] 32)) _ (Kd.FK_step HQF.out (fun k hk _ => HWCB.out.2.1.block k hk)) HWC.out.1 (HWC.out.tb HTB1.out HGG.out) HGG.out HYL.out (by have := HLC.out; have := HLEN.out; omega))
      go_wp2_with fail
      refine HCALL.out.mono ?_
      rintro e w9 ⟨rfl, hw9⟩
      have HW9 := Lib.hid (HWC.out.step hw9.wrote)
      clear hw9
      go_wp2
      go_roundw
      case rel => exact ⟨j + 1, by go_num, hlt, by rw [HCN.out, ← List.append_assoc, HLJ.out, if_pos HJ0.out]; have h9 := HW9.out; rw [← HLC2.out] at h9; exact h9⟩
      case measure => simp [intOf]; omega
     ·have HJ0 := Lib.hid h0
      have gz : decide ((0 : Int) < (j : Int)) = true := decide_eq_true (by omega)
      have gzn : decide (0 < j) = true := decide_eq_true (by omega)
      clear h0
      go_wp2_with fail
      refine (ws_any ⟨#[44, 32]⟩ HWA.out.1 (by have := HLRK.out; have := HLEN.out; simp; omega)).mono ?_
      rintro e w7 ⟨rfl, hw7⟩
      have HWC := Lib.hid (HWA.out.step hw7)
      have HWCB := Lib.hid (HWAA.out.step hw7)
      have HR7 := Lib.hid (hw7.blk HR5.out (by decide) (by have := HWS.out; omega))
      obtain ⟨r0, r1, r2, r3, r4, r5⟩ := cells_of HR7.out
      clear hw7
      obtain ⟨LC, hLC⟩ : ∃ LC, LJ ++ (⟨#[44, 32]⟩ : ByteArray).data.toList = LC := ⟨_, rfl⟩
      have HLC2 := Lib.hid hLC
      rw [hLC] at HWC HWCB
      have HLC := Lib.hid (show LC.length + 2000 * size y ≤ l.length + 2000 * size ⟨o, nm, a, f, t, k⟩ by rw [← hLC]; have := HLRK.out; simp; omega)
      clear hLC q0 q1 q2 q3 q4 q5
      have HCALL := Lib.hid (HREC.out y HYS.out b LC w7 _ (Kd.FK_step HQF.out (fun k hk _ => HWCB.out.2.1.block k hk)) HWC.out.1 (HWC.out.tb HTB1.out HGG.out) HGG.out HYL.out (by have := HLC.out; have := HLEN.out; omega))
      go_wp2_with fail
      refine HCALL.out.mono ?_
      rintro e w9 ⟨rfl, hw9⟩
      have HW9 := Lib.hid (HWC.out.step hw9.wrote)
      clear hw9
      go_wp2
      go_roundw
      case rel => exact ⟨j + 1, by go_num, hlt, by rw [HCN.out, ← List.append_assoc, HLJ.out, if_neg HJ0.out]; have h9 := HW9.out; rw [← HLC2.out] at h9; simpa using h9⟩
      case measure => simp [intOf]; omega
    ·have hjk : j = k.length := by omega
     subst hjk
     clear hlt hj
     rw [List.take_length] at HWK
     go_wp2_with fail
     refine (wb_any 41 41 rfl HWK.out.1 (by have h1 := commas_sum (k.map textB); have h2 := textBs_len k HKAL.out; rw [textBs_map] at h2; have := HLR.out; have := HLEN.out; have := size_is ⟨o, nm, a, f, t, k⟩; dsimp only at this; rw [List.length_append]; omega)).mono ?_
     rintro e w9 ⟨rfl, hw9⟩
     have HW9 := Lib.hid (HWK.out.step hw9)
     clear hw9
     go_wp2
     go_end0
     exact ⟨rfl, by have h9 := HWB.out.base HW9.out; rw [HTX.out]; rw [← HLL2.out, ← HLL1.out] at h9; simpa using h9⟩
set_option maxRecDepth 1000000 in
set_option maxHeartbeats 4000000 in
theorem wr_const {o : Int} (ho : o = 1 ∨ o = 2) {nm : ByteArray} {a : List S84} {f t : Int} {k : List S32} {b : Nat} {l : List UInt8} {w : World} {cs : List Value} (hF : Kd.FK k32 w (fun k => k < b) ⟨o, nm, a, f, t, k⟩ cs) (hBI : BIs b (Lib.byteCells l) w) (hlen : l.length ≤ 1000000000) :
  Calls Tryz.prog 53 #[.pointer (some ⟨b, 0, none⟩), .agg cs.toArray] w fun e w' => e = .returned (.tuple #[]) ∧ Wr b (l ++ textB ⟨o, nm, a, f, t, k⟩) w w' := by
 obtain ⟨A2, c2, A5, c5, rfl, -⟩ := k32_openF hF
 have HWB := Lib.hid ((Wr.refl hBI).alloc (.cells #[.int .i64 o, .string nm, .slice A2 a.length c2, .int .i64 f, .int .i64 t, .slice A5 k.length c5] 32))
 have HTX := Lib.hid (show textB ⟨o, nm, a, f, t, k⟩ = kwd o by rw [textB_is]; exact if_pos ho)
 obtain ⟨s, hs, hsk⟩ := kw_f o
 have HSK := Lib.hid hsk
 have HKW := Lib.hid hs
 have HLEN := Lib.hid hlen
 clear hF hBI hs hsk hlen
 dsimp only at *
 rcases ho with rfl | rfl
 ·go_enter Tryz.func53, Tryz.ntmps53
  go_wp2_with fail
  refine (formula_keyword.calls 1 s _ HKW.out).mono ?_
  rintro e w4 ⟨rfl, hd⟩
  have HW4 := Lib.hid (HWB.out.drawn hd)
  clear hd
  go_wp2_with fail
  refine (ws_any s HW4.out.1 (by rw [HSK.out]; have := kwd_len 1; have := HLEN.out; omega)).mono ?_
  rintro e w5 ⟨rfl, hw⟩
  have HW5 := Lib.hid (HW4.out.step hw)
  clear hw
  go_wp2
  refine bodyPost_ret (results_none rfl _ _ _) rfl ?_
  rw [HTX.out, ← HSK.out]
  exact ⟨rfl, HW5.out⟩
 ·go_enter Tryz.func53, Tryz.ntmps53
  go_wp2_with fail
  refine (formula_keyword.calls 2 s _ HKW.out).mono ?_
  rintro e w4 ⟨rfl, hd⟩
  have HW4 := Lib.hid (HWB.out.drawn hd)
  clear hd
  go_wp2_with fail
  refine (ws_any s HW4.out.1 (by rw [HSK.out]; have := kwd_len 2; have := HLEN.out; omega)).mono ?_
  rintro e w5 ⟨rfl, hw⟩
  have HW5 := Lib.hid (HW4.out.step hw)
  clear hw
  go_wp2
  refine bodyPost_ret (results_none rfl _ _ _) rfl ?_
  rw [HTX.out, ← HSK.out]
  exact ⟨rfl, HW5.out⟩
theorem wr_all_n : ∀ n, WrTo n
 | 0 => fun x h => absurd h (Nat.not_lt_zero _)
 | n + 1 => by
  have hrec := wr_all_n n
  rintro ⟨o, nm, a, f, t, k⟩ hx b l w cs hF hBI hTB hg hal hlen
  by_cases h12 : o = 1 ∨ o = 2
  ·exact wr_const h12 hF hBI (by omega)
  ·by_cases h3 : o = 3
   ·exact wr_atom hrec h3 hx hF hBI hTB hg hal hlen
   ·by_cases h8 : o = 8
    ·exact wr_all hrec h8 hx hF hBI hTB hg hal hlen
    ·by_cases h9 : o = 9
     ·exact wr_some hrec h9 hx hF hBI hTB hg hal hlen
     ·by_cases h10 : o = 10
      ·exact wr_dur hrec h10 hx hF hBI hTB hg hal hlen
      ·exact wr_kw hrec (by omega) hx hF hBI hTB hg hal hlen
theorem tb_lt {w : World} (h : TB w) : ∀ g, Tryz.prog.globalNamed "internal/strconv.uint64pow10" = some g → g < w.heap.size := by
 intro g hg
 unfold TB Lib.TabIs World.var? at h
 simp only [hg, Option.bind_some] at h
 apply Classical.byContradiction
 intro hn
 rw [Array.getElem?_eq_none (by omega)] at h
 simp at h
theorem bis_new (w : World) : BIs w.heap.size (Lib.byteCells []) (w.alloc (.cells #[.pointer none, .slice none 0 0] 98)) :=
 Or.inl ⟨Nat.le_refl _, .slice none 0 0, blk_new w _, ⟨rfl, Or.inl ⟨rfl, rfl⟩⟩, by simp [Value.ownBlock]⟩
set_option maxRecDepth 1000000 in
set_option maxHeartbeats 4000000 in
theorem text_any {x : S32} {w : World} {cs : List Value} {ok : Nat → Prop} (hF : Kd.FK k32 w ok x cs) (hok : ∀ k, ok k → k < w.heap.size) (hTB : TB w) (hal : Al x) (hsz : size x ≤ 200000) :
  Calls Tryz.prog 39 #[.agg cs.toArray] w fun e w' => e = .returned (.string ⟨(textB x).toArray⟩) ∧ Below w.heap.size w w' := by
 have HF := Lib.hid hF
 obtain ⟨A2, c2, A5, c5, rfl, -⟩ := k32_openF hF
 have H1 := Lib.hid (one_blk w #[.int .i64 x.f0, .string x.f1, .slice A2 x.f2.length c2, .int .i64 x.f3, .int .i64 x.f4, .slice A5 x.f5.length c5])
 have hs1 : (w.alloc (.cells #[.int .i64 x.f0, .string x.f1, .slice A2 x.f2.length c2, .int .i64 x.f3, .int .i64 x.f4, .slice A5 x.f5.length c5] 32)).heap.size = w.heap.size + 1 := by show (w.heap.push _).size = _; simp
 have hbn := bis_new (w.alloc (.cells #[.int .i64 x.f0, .string x.f1, .slice A2 x.f2.length c2, .int .i64 x.f3, .int .i64 x.f4, .slice A5 x.f5.length c5] 32))
 rw [hs1] at hbn
 have HBN := Lib.hid hbn
 have HB2 := Lib.hid (H1.out.2.alloc H1.out.2.size (.cells #[.pointer none, .slice none 0 0] 98))
 have HCALL := Lib.hid (wr_all_n (size x + 1) x (by omega) (w.heap.size + 1) [] _ _ (Kd.FK_mono (Kd.FK_step HF.out (fun k _ hk => HB2.out.block k hk)) (fun k hk => Nat.lt_succ_of_lt (hok k hk))) HBN.out (tb_below hTB HB2.out (Or.inl (Nat.le_refl _))) (fun g hg => Nat.lt_succ_of_lt (tb_lt hTB g hg)) hal (by simp only [List.length_nil]; omega))
 clear hF hok hTB hal hsz hs1 hbn
 go_enter Tryz.func39, Tryz.ntmps39
 go_wp2_with fail
 refine HCALL.out.mono ?_
 rintro e w3 ⟨rfl, hw3⟩
 have HW3 := Lib.hid hw3
 have HB3 := Lib.hid (show Below w.heap.size w w3 from HB2.out.trans ⟨hw3.2.1.os, hw3.2.1.tape, hw3.2.1.output, hw3.2.1.size, fun k hk => hw3.2.1.block k (Nat.lt_succ_of_lt hk)⟩)
 clear hw3
 go_wp2_with fail
 refine (str_any (textB x) (by have := HW3.out.1; rwa [List.nil_append] at this) (Nat.le_of_lt (bis_lt HW3.out.1))).mono ?_
 rintro e w4 ⟨rfl, hb4⟩
 have HB4 := Lib.hid (show Below w.heap.size w w4 from HB3.out.trans ⟨hb4.os, hb4.tape, hb4.output, hb4.size, fun k hk => hb4.block k (Nat.lt_succ_of_lt hk)⟩)
 clear hb4
 go_wp2
 go_ret
 exact ⟨rfl, HB4.out⟩
/-- memory.keyOf -/
def keyF (g : ByteArray) (x : S32) : (ByteArray × ByteArray) × Int := if (ofF x).2 = 0 then ((g, ⟨(textB (ofF x).1).toArray⟩), 0) else ((eStr, eStr), (ofF x).2)
theorem of_al {x : S32} (h : Al x) : Al (ofF x).1 ∧ size (ofF x).1 ≤ 200 := by
 unfold ofF fitF limF
 split
 ·split
  ·rename_i h2
   simp only [Bool.and_eq_true, decide_eq_true_eq] at h2
   exact ⟨al_nf x false h, h2.1⟩
  ·exact ⟨al_z, by decide⟩
 ·exact ⟨al_z, by decide⟩
theorem two_cells {w : World} {s t : Nat} {c0 c1 : Value} (h : w.heap[s]? = some (.cells #[c0, c1] t (0, 0))) : w.cell? ⟨s, 0, none⟩ = some c0 ∧ w.cell? ⟨s, 1, none⟩ = some c1 ∧ w.frozen? ⟨s, 0, none⟩ = false ∧ w.frozen? ⟨s, 1, none⟩ = false :=
 ⟨blk_cell h 0, blk_cell h 1, blk_frozen h 0, blk_frozen h 1⟩
theorem two_set {w : World} {s t : Nat} {a0 a1 : Value} (h : w.heap[s]? = some (.cells #[a0, a1] t (0, 0))) (c0 c1 : Value) : ((w.setCell ⟨s, 0, none⟩ c0).setCell ⟨s, 1, none⟩ c1).heap[s]? = some (.cells #[c0, c1] t (0, 0)) := by
 have := blk_set (blk_set h 0 c0) 1 c1
 simpa using this
theorem res_key {fn : Func} {p u : Tmp} (h : fn.results = #[.cell p 57, .tmp u]) (tmps : Array Value) (w : World) (s : Nat) (c0 c1 : Value) (hp : tmps.getD p undef = .pointer (some ⟨s, 0, none⟩)) (hg : w.heap[s]? = some (.cells #[c0, c1] 57 (0, 0))) :
  (results fn tmps).run Tryz.prog w = .ok (.tuple #[.agg #[c0, c1], tmps.getD u undef]) w :=
 results_ct h _ _ s 57 #[c0, c1] (0, 0) _ hp hg Tryz.underlying57 rfl (by kernel_rfl)
theorem mix_slot (w : World) (X Y : Array Value) (s t : Nat) : ((w.alloc (.cells X s)).alloc (.cells Y t)).heap[w.heap.size]? = some (.cells X s (0, 0)) ∧ ((w.alloc (.cells X s)).alloc (.cells Y t)).heap[w.heap.size + 1]? = some (.cells Y t (0, 0)) ∧ Below w.heap.size w ((w.alloc (.cells X s)).alloc (.cells Y t)) ∧ ((w.alloc (.cells X s)).alloc (.cells Y t)).heap.size = w.heap.size + 2 := by
 have hb1 := (Below.refl w.heap.size w).alloc (Nat.le_refl _) (.cells X s)
 have hs : (w.alloc (.cells X s)).heap.size = w.heap.size + 1 := by show (w.heap.push _).size = _; simp
 refine ⟨(Below.heap_alloc _ _ _ (by rw [hs]; omega)).trans (blk_new w _), ?_, hb1.alloc hb1.size _, by show ((w.heap.push _).push _).size = _; simp⟩
 have := blk_new (w.alloc (.cells X s)) (.cells Y t)
 rwa [hs] at this
set_option maxRecDepth 1000000 in
set_option maxHeartbeats 4000000 in
theorem keyof_any {g : ByteArray} {x : S32} {w : World} {cs : List Value} {ok : Nat → Prop} (hF : Kd.FK k32 w ok x cs) (hok : ∀ k, ok k → k < w.heap.size) (hTB : TB w) (hal : Al x) (hsz : size x < 1000000) :
  Calls Tryz.prog 25 #[.string g, .agg cs.toArray] w fun e w' => e = .returned (.tuple #[.agg #[.string (keyF g x).1.1, .string (keyF g x).1.2], .int .i64 (keyF g x).2]) ∧ Below w.heap.size w w' := by
 have HF := Lib.hid hF
 have HOK := Lib.hid hok
 have HTB := Lib.hid hTB
 obtain ⟨A2, c2, A5, c5, rfl, -⟩ := k32_openF hF
 have HM := Lib.hid (mix_slot w #[.int .i64 x.f0, .string x.f1, .slice A2 x.f2.length c2, .int .i64 x.f3, .int .i64 x.f4, .slice A5 x.f5.length c5] #[.string ⟨#[]⟩, .string ⟨#[]⟩] 32 57)
 have HOF := Lib.hid (of_any (Kd.FK_step HF.out (fun k _ hk => HM.out.2.2.1.block k hk)) (fun k hk => Nat.lt_of_lt_of_le (HOK.out k hk) HM.out.2.2.1.size) hal hsz)
 have HAL := Lib.hid (of_al hal)
 have HK := Lib.hid (show keyF g x = if (ofF x).2 = 0 then ((g, ⟨(textB (ofF x).1).toArray⟩), 0) else ((eStr, eStr), (ofF x).2) from rfl)
 clear hF hok hTB hal hsz
 obtain ⟨p, hp⟩ : ∃ p, ofF x = p := ⟨_, rfl⟩
 rw [hp] at HOF HAL HK
 clear hp
 obtain ⟨y, m⟩ := p
 dsimp only at HAL HK
 go_enter Tryz.func25, Tryz.ntmps25
 go_wp2_with fail
 refine HOF.out.mono ?_
 rintro e w3 ⟨ds, rfl, hF3, hB3⟩
 dsimp only at hF3 ⊢
 have HF3 := Lib.hid (Kd.FK_bound hF3)
 have HB3 := Lib.hid (below_then HM.out.2.2.1 HM.out.2.2.1.size hB3)
 have HSB := Lib.hid ((hB3.block _ (blk_lt HM.out.2.1)).trans HM.out.2.1)
 obtain ⟨B2, d2, B5, d5, rfl, -⟩ := k32_openF hF3
 have HA3 := Lib.hid ((Below.refl w3.heap.size w3).alloc (Nat.le_refl _) (.cells #[.int .i64 y.f0, .string y.f1, .slice B2 y.f2.length d2, .int .i64 y.f3, .int .i64 y.f4, .slice B5 y.f5.length d5] 32))
 have HB4 := Lib.hid (below_then HB3.out HB3.out.size HA3.out)
 have HSB4 := Lib.hid ((HA3.out.block _ (blk_lt HSB.out)).trans HSB.out)
 clear hF3 hB3 HOF
 by_cases h0 : m = 0
 ·subst h0
  have HK2 := Lib.hid (show keyF g x = ((g, ⟨(textB y).toArray⟩), 0) by rw [HK.out]; rfl)
  have HTX := Lib.hid (text_any (Kd.FK_step HF3.out (fun k _ hk => HA3.out.block k hk)) (fun k hk => Nat.lt_of_lt_of_le hk.2 HA3.out.size) (tb_below HTB.out HB4.out (Or.inl (Nat.le_refl _))) HAL.out.1 (by have := HAL.out.2; omega))
  go_wp2_with fail
  refine HTX.out.mono ?_
  rintro e w5 ⟨rfl, hb5⟩
  have HB5 := Lib.hid (below_then HB4.out HB4.out.size hb5)
  have HSB5 := Lib.hid ((hb5.block _ (blk_lt HSB4.out)).trans HSB4.out)
  obtain ⟨y0, y1, f0, f1⟩ := two_cells HSB5.out
  clear hb5
  go_wp2
  refine bodyPost_ret (res_key rfl _ _ _ _ _ rfl (two_set HSB5.out _ _)) rfl ?_
  rw [HK2.out]
  exact ⟨rfl, (HB5.out.setCell (p := ⟨w.heap.size + 1, 0, none⟩) (by show w.heap.size ≤ w.heap.size + 1; omega) _).setCell (p := ⟨w.heap.size + 1, 1, none⟩) (by show w.heap.size ≤ w.heap.size + 1; omega) _⟩
 ·have HK2 := Lib.hid (show keyF g x = ((eStr, eStr), m) by rw [HK.out, if_neg h0])
  have gm : (m != (0 : Int)) = true := by simpa using h0
  obtain ⟨y0, y1, f0, f1⟩ := two_cells HSB4.out
  clear h0
  go_wp2
  refine bodyPost_ret (res_key rfl _ _ _ _ _ rfl (two_set HSB4.out _ _)) rfl ?_
  rw [HK2.out]
  exact ⟨rfl, (HB4.out.setCell (p := ⟨w.heap.size + 1, 0, none⟩) (by show w.heap.size ≤ w.heap.size + 1; omega) _).setCell (p := ⟨w.heap.size + 1, 1, none⟩) (by show w.heap.size ≤ w.heap.size + 1; omega) _⟩
abbrev Key := ByteArray × ByteArray
def keyV (k : Key) : Value := .agg #[.string k.1, .string k.2]
def ptrV (n : Nat) : Value := .pointer (some ⟨n, 0, none⟩)
/-- Block b is a map that leads from these keys to these blocks. -/
def MapIs (w : World) (b : Nat) (kv : List (Key × Nat)) : Prop := ∃ es clock, w.heap[b]? = some (.map es clock) ∧ es.toList.map (fun e => (e.key, e.val)) = kv.map (fun p => (keyV p.1, ptrV p.2))
theorem MapIs.step {w w' : World} {b : Nat} {kv : List (Key × Nat)} (h : MapIs w b kv) (hb : w'.heap[b]? = w.heap[b]?) : MapIs w' b kv := by
 obtain ⟨es, cl, h1, h2⟩ := h
 exact ⟨es, cl, hb.trans h1, h2⟩
theorem eq57 (w : World) (a b : Key) : (Op.equal 57 (keyV a) (keyV b)).run Tryz.prog w = .ok (a.1 == b.1 && (a.2 == b.2)) w := by
 unfold Op.equal keyV Op.maxDepth
 refine eqA_of Tryz.underlying57 (by kernel_rfl) ?_
 have h9 : ∀ (d : Nat) (x y : ByteArray), (Op.equalIn (d + 1) 9 (.string x) (.string y)).run Tryz.prog w = .ok (x == y) w := fun d x y => by
  rw [Op.equalIn, Sem.run_bind, run_underlying Tryz.underlying9, Result.andThen_ok]
  rfl
 refine eqf_cons (by decide) (a := .string a.1) (b := .string b.1) (by kernel_rfl) (by kernel_rfl) (h9 9998 _ _) ?_
 exact eqf_last (by decide) (a := .string a.2) (b := .string b.2) (by kernel_rfl) (by kernel_rfl) (h9 9998 _ _)
theorem key_beq (a b : Key) : (a.1 == b.1 && (a.2 == b.2)) = decide (a = b) := by
 obtain ⟨a1, a2⟩ := a
 obtain ⟨b1, b2⟩ := b
 have e : ∀ x y : ByteArray, (x == y) = decide (x = y) := fun x y => by
  by_cases h : x = y
  ·subst h
   have : (x == x) = true := by
    cases x
    rename_i d
    exact beq_self_eq_true d
   simp [this]
  ·have : (x == y) = false := by
    cases x; cases y
    rename_i c d
    rw [Bool.eq_false_iff]
    intro hh
    have h' : (c == d) = true := hh
    exact h (by rw [eq_of_beq h'])
   simp [h, this]
 rw [e, e]
 simp [Prod.mk.injEq, Bool.decide_and]
/-- The first entry of a key. -/
def atK (kv : List (Key × Nat)) (k : Key) : Option (Nat × Nat) := match kv with
 | [] => none
 | p :: r => if p.1 = k then some (0, p.2) else (atK r k).map fun q => (q.1 + 1, q.2)
theorem ask_is (w : World) (k : Key) : ∀ (es : List MapEntry) (kv : List (Key × Nat)) (i : Nat), es.map (fun e => (e.key, e.val)) = kv.map (fun p => (keyV p.1, ptrV p.2)) →
  (Instr.findAsking 57 (keyV k) es i).run Tryz.prog w = .ok ((atK kv k).map fun q => (i + q.1, ptrV q.2)) w
 | [], kv, i, h => by
  have : kv = [] := by cases kv with | nil => rfl | cons _ _ => simp at h
  subst this
  rfl
 | e :: es, [], i, h => by simp at h
 | e :: es, p :: kv, i, h => by
  simp only [List.map_cons, List.cons.injEq, Prod.mk.injEq] at h
  have ih := ask_is w k es kv (i + 1) h.2
  rw [Instr.findAsking, Sem.run_bind, h.1.1, eq57, key_beq, Result.andThen_ok]
  by_cases hk : p.1 = k
  ·subst hk
   simp [atK, h.1.2]
  ·have hk2 : ¬ k = p.1 := fun e => hk e.symm
   simp only [hk2, decide_false, Bool.false_eq_true, if_false]
   rw [ih]
   simp only [atK, if_neg hk]
   cases atK kv k with
   | none => rfl
   | some q => simp; omega
theorem key_is (w : World) (k : Key) {es : List MapEntry} {kv : List (Key × Nat)} (h : es.map (fun e => (e.key, e.val)) = kv.map (fun p => (keyV p.1, ptrV p.2))) :
  (Instr.findKey 57 (keyV k) es).run Tryz.prog w = .ok ((atK kv k).map fun q => (q.1, ptrV q.2)) w := by
 have ha := ask_is w k es kv 0 h
 simp only [Nat.zero_add] at ha
 unfold Instr.findKey
 rw [Sem.run_bind, run_underlying Tryz.underlying57, Result.andThen_ok]
 cases es with
 | nil =>
  have : kv = [] := by cases kv with | nil => rfl | cons _ _ => simp at h
  subst this
  rfl
 | cons e es =>
  cases kv with
  | nil => simp at h
  | cons p kv =>
   simp only [List.map_cons, List.cons.injEq, Prod.mk.injEq] at h
   rw [Instr.findNow, h.1.1]
   simp only [Instr.sameNow, keyV]
   exact ha
theorem check57 (w : World) (e : Bool) (k : Key) : (Instr.checkKey e 10000 57 (keyV k)).run Tryz.prog w = .ok () w := by
 kernel_rfl
theorem MapIs.lookup {w : World} {b : Nat} {kv : List (Key × Nat)} (h : MapIs w b kv) (k : Key) :
  (Instr.lookup 60 (.map (some b)) (keyV k) true).run Tryz.prog w = .ok (match atK kv k with | some q => .tuple #[ptrV q.2, .bool true] | none => .tuple #[.pointer none, .bool false]) w := by
 obtain ⟨es, cl, h1, h2⟩ := h
 have hg : (getObj b).run Tryz.prog w = .ok (.map es cl) w := by simp [getObj, Sem.run, h1]
 unfold Instr.lookup
 rw [Sem.run_bind, run_underlying Tryz.underlying60, Result.andThen_ok]
 dsimp only
 rw [Sem.run_bind, hg, Result.andThen_ok]
 dsimp only
 rw [Sem.run_bind, Sem.run_pure, Result.andThen_ok, Sem.run_bind, check57, Result.andThen_ok, Sem.run_bind, key_is w k h2]
 cases atK kv k with
 | none =>
  simp only [Option.map_none, Result.andThen_ok]
  rw [Sem.run_bind, Tryz.zeroValue55]
  rfl
 | some q => rfl
theorem MapIs.add {w : World} {b : Nat} {kv : List (Key × Nat)} (h : MapIs w b kv) (k : Key) (n : Nat) (hn : atK kv k = none) :
  ∃ o, (Instr.mapUpdate 60 (.map (some b)) (keyV k) (ptrV n)).run Tryz.prog w = .ok () { w with heap := w.heap.setIfInBounds b o } ∧ MapIs { w with heap := w.heap.setIfInBounds b o } b (kv ++ [(k, n)]) := by
 obtain ⟨es, cl, h1, h2⟩ := h
 have hg : (getObj b).run Tryz.prog w = .ok (.map es cl) w := by simp [getObj, Sem.run, h1]
 refine ⟨.map (es.push { key := keyV k, val := ptrV n, born := cl }) (cl + 1), ?_, ?_⟩
 ·unfold Instr.mapUpdate
  rw [Sem.run_bind, run_underlying Tryz.underlying60, Result.andThen_ok]
  dsimp only
  rw [Sem.run_bind, hg, Result.andThen_ok]
  dsimp only
  rw [Sem.run_bind, check57, Result.andThen_ok, Sem.run_bind, key_is w k h2, hn]
  simp [setObj, Sem.run, h1]
 ·have hlt : b < w.heap.size := (Array.getElem?_eq_some_iff.1 h1).1
  exact ⟨es.push { key := keyV k, val := ptrV n, born := cl }, cl + 1, by simp [hlt], by simp [h2]⟩
theorem map_erase {α β : Type} (f : α → β) : ∀ (l : List α) (i : Nat), (l.eraseIdx i).map f = (l.map f).eraseIdx i
 | [], _ => by simp
 | x :: l, 0 => by simp
 | x :: l, i + 1 => by simp [map_erase f l i]
theorem MapIs.delete {w : World} {b : Nat} {kv : List (Key × Nat)} (h : MapIs w b kv) (k : Key) (i n : Nat) (hn : atK kv k = some (i, n)) (ty : TypeId) :
  ∃ o, (Builtin.delete_ #[60, 57] ty #[.map (some b), keyV k]).run Tryz.prog w = .ok (.tuple #[]) { w with heap := w.heap.setIfInBounds b o } ∧ MapIs { w with heap := w.heap.setIfInBounds b o } b (kv.eraseIdx i) := by
 obtain ⟨es, cl, h1, h2⟩ := h
 have hg : (getObj b).run Tryz.prog w = .ok (.map es cl) w := by simp [getObj, Sem.run, h1]
 refine ⟨.map (es.eraseIdxIfInBounds i) cl, ?_, ?_⟩
 ·unfold Builtin.delete_
  simp only [List.getElem?_toArray, List.getElem?_cons_zero, List.getElem?_cons_succ]
  rw [Sem.run_bind, run_underlying Tryz.underlying60, Result.andThen_ok]
  dsimp only
  rw [Sem.run_bind, hg, Result.andThen_ok]
  dsimp only
  rw [Sem.run_bind, check57, Result.andThen_ok, Sem.run_bind, key_is w k h2, hn]
  simp [setObj, Sem.run, h1]
 ·have hlt : b < w.heap.size := (Array.getElem?_eq_some_iff.1 h1).1
  refine ⟨es.eraseIdxIfInBounds i, cl, by simp [hlt], ?_⟩
  rw [Array.toList_eraseIdxIfInBounds]
  rw [map_erase, h2, map_erase]
theorem MapIs.len {w : World} {b : Nat} {kv : List (Key × Nat)} (h : MapIs w b kv) (ty : TypeId) : (Builtin.len_ #[60] ty #[.map (some b)]).run Tryz.prog w = .ok (.int .i64 kv.length) w := by
 obtain ⟨es, cl, h1, h2⟩ := h
 have hg : (getObj b).run Tryz.prog w = .ok (.map es cl) w := by simp [getObj, Sem.run, h1]
 have hl : es.size = kv.length := by
  have := congrArg List.length h2
  simpa using this
 unfold Builtin.len_
 simp [run_underlying Tryz.underlying60, hg, hl, goInt]
/-- f, but y at x. -/
def up (f : Nat → Nat) (x y : Nat) : Nat → Nat := fun z => if z = x then y else f z
theorem up_same (f : Nat → Nat) (x y : Nat) : up f x y x = y := by simp [up]
theorem up_ne (f : Nat → Nat) {x z : Nat} (y : Nat) (h : z ≠ x) : up f x y z = f z := by simp [up, h]
/-- Each is followed by the next, and has it as its previous. -/
def Ch (N P : Nat → Nat) : List Nat → Prop
 | [] => True
 | [_] => True
 | x :: y :: l => N x = y ∧ P y = x ∧ Ch N P (y :: l)
theorem ch_app (N P : Nat → Nat) : ∀ (a : List Nat) (x : Nat) (b : List Nat), Ch N P (a ++ x :: b) ↔ Ch N P (a ++ [x]) ∧ Ch N P (x :: b)
 | [], x, b => by simp [Ch]
 | [y], x, b => by simp only [List.cons_append, List.nil_append, Ch]; constructor <;> intro h <;> (try exact ⟨⟨h.1, h.2.1, trivial⟩, h.2.2⟩) <;> exact ⟨h.1.1, h.1.2.1, h.2⟩
 | y :: z :: a, x, b => by
  have ih := ch_app N P (z :: a) x b
  simp only [List.cons_append, Ch] at ih ⊢
  rw [ih]
  constructor
  ·rintro ⟨h1, h2, h3, h4⟩; exact ⟨⟨h1, h2, h3⟩, h4⟩
  ·rintro ⟨⟨h1, h2, h3⟩, h4⟩; exact ⟨h1, h2, h3, h4⟩
/-- Only what stands ahead of the last is asked for its next, only what stands behind the first for its previous. -/
theorem ch_congr {N P N' P' : Nat → Nat} : ∀ (l : List Nat), (∀ x ∈ l.dropLast, N' x = N x) → (∀ x ∈ l.tail, P' x = P x) → Ch N P l → Ch N' P' l
 | [], _, _, _ => trivial
 | [_], _, _, _ => trivial
 | x :: y :: l, hn, hp, h => by
  refine ⟨(hn x (by simp)).trans h.1, (hp y (by simp)).trans h.2.1, ?_⟩
  exact ch_congr (y :: l) (fun z hz => hn z (by rw [List.dropLast_cons_cons]; exact List.mem_cons_of_mem _ hz)) (fun z hz => hp z (by simp at hz ⊢; exact .inr hz)) h.2.2
/-- A ring: r first, then l, then r again. -/
def Rg (N P : Nat → Nat) (r : Nat) (l : List Nat) : Prop := (r :: l).Nodup ∧ Ch N P (r :: l ++ [r])
theorem rg_split {N P : Nat → Nat} {r n : Nat} {a b : List Nat} (h : Rg N P r (a ++ n :: b)) : Ch N P (r :: a ++ [n]) ∧ Ch N P (n :: b ++ [r]) := by
 have h2 := h.2
 rw [show r :: (a ++ n :: b) ++ [r] = (r :: a) ++ n :: (b ++ [r]) by simp] at h2
 exact (ch_app N P (r :: a) n (b ++ [r])).1 h2
theorem ch_last {N P : Nat → Nat} : ∀ (a : List Nat) (x n : Nat), Ch N P (a ++ [x] ++ [n]) → N x = n ∧ P n = x
 | a, x, n, h => by
  rw [List.append_assoc, List.singleton_append] at h
  have := ((ch_app N P a x [n]).1 h).2
  exact ⟨this.1, this.2.1⟩
theorem ch_first {N P : Nat → Nat} {n y : Nat} {b : List Nat} (h : Ch N P (n :: y :: b)) : N n = y ∧ P y = n := ⟨h.1, h.2.1⟩
/-- The node n is taken out. -/
theorem rg_take {N P : Nat → Nat} {r n : Nat} {a b : List Nat} (h : Rg N P r (a ++ n :: b)) : Rg (up N (P n) (N n)) (up P (N n) (P n)) r (a ++ b) := by
 obtain ⟨h1, h2⟩ := rg_split h
 have hnd : (r :: (a ++ n :: b)).Nodup := h.1
 have hnd2 : (r :: (a ++ b)).Nodup := by
  refine List.Nodup.sublist ?_ hnd
  exact List.Sublist.cons_cons _ (List.Sublist.append_left (List.sublist_cons_self _ _) _)
 refine ⟨hnd2, ?_⟩
 -- what stands ahead of n, and behind it
 obtain ⟨a', p, hp⟩ : ∃ a' p, r :: a = a' ++ [p] := ⟨(r :: a).dropLast, (r :: a).getLast (by simp), (List.dropLast_concat_getLast (by simp)).symm⟩
 obtain ⟨q, b', hq⟩ : ∃ q b', b ++ [r] = q :: b' := by
  cases b with
  | nil => exact ⟨r, [], rfl⟩
  | cons x b => exact ⟨x, b ++ [r], rfl⟩
 rw [hp] at h1
 rw [List.cons_append, hq] at h2
 obtain ⟨e1, e2⟩ := ch_last a' p n h1
 obtain ⟨e3, e4⟩ := ch_first h2
 rw [e2, e3]
 have hl : r :: (a ++ b) ++ [r] = a' ++ [p] ++ (q :: b') := by
  rw [← hp, ← hq]; simp
 rw [hl, List.append_assoc, List.singleton_append, ch_app]
 -- the names
 have hmem : ∀ x ∈ a', x ∈ r :: a := fun x hx => by rw [hp]; exact List.mem_append_left _ hx
 have hpa : p ∈ r :: a := by rw [hp]; simp
 have hndp : (a' ++ [p]).Nodup := by
  rw [← hp]
  exact List.Nodup.sublist (List.Sublist.cons_cons _ (List.sublist_append_left _ _)) hnd
 have hndq : (q :: b').Nodup := by
  rw [← hq]
  have : (b ++ [r]).Perm (r :: b) := List.perm_append_singleton r b
  rw [this.nodup_iff]
  exact List.Nodup.sublist (List.Sublist.cons_cons _ ((List.sublist_cons_self _ _).trans (List.sublist_append_right _ _))) hnd
 have hap : ∀ x ∈ a', x ≠ p := fun x hx e => by
  rw [List.nodup_append] at hndp
  exact hndp.2.2 x hx p (by simp) e
 have hqb : ∀ x ∈ b', x ≠ q := fun x hx e => by
  rw [List.nodup_cons] at hndq
  exact hndq.1 (e ▸ hx)
 -- no node of a is q (q is in b, or r), but r itself
 have hqa : ∀ x ∈ a, x ≠ q := fun x hx e => by
  have hqm : q ∈ b ++ [r] := by rw [hq]; simp
  rcases List.mem_append.1 hqm with hm | hm
  ·rw [List.nodup_cons, List.nodup_append] at hnd
   exact hnd.2.2.2 x hx q (List.mem_cons_of_mem _ hm) e
  ·rw [List.nodup_cons] at hnd
   have : q = r := by simpa using hm
   exact hnd.1 (by rw [← this, ← e]; exact List.mem_append_left _ hx)
 have hpb : ∀ x ∈ b, x ≠ p := fun x hx e => by
  rcases List.mem_cons.1 hpa with hm | hm
  ·rw [List.nodup_cons] at hnd
   exact hnd.1 (by rw [← hm, ← e]; exact List.mem_append_right _ (List.mem_cons_of_mem _ hx))
  ·rw [List.nodup_cons, List.nodup_append] at hnd
   exact hnd.2.2.2 p hm x (List.mem_cons_of_mem _ hx) e.symm
 refine ⟨?_, up_same _ _ _, up_same _ _ _, ?_⟩
 ·-- ahead
  refine ch_congr (N := N) (P := P) (a' ++ [p]) (fun x hx => ?_) (fun x hx => ?_) ?_
  ·rw [List.dropLast_concat] at hx
   exact up_ne _ _ (hap x hx)
  ·rw [← hp, List.tail_cons] at hx
   exact up_ne _ _ (hqa x hx)
  ·rw [List.append_assoc, List.singleton_append] at h1
   exact ((ch_app N P a' p [n]).1 h1).1
 ·-- behind
  refine ch_congr (N := N) (P := P) (q :: b') (fun x hx => ?_) (fun x hx => ?_) h2.2.2
  ·rw [← hq, List.dropLast_concat] at hx
   exact up_ne _ _ (hpb x hx)
  ·rw [List.tail_cons] at hx
   exact up_ne _ _ (hqb x hx)
/-- A new node n at the end. -/
theorem rg_add {N P : Nat → Nat} {r n : Nat} {l : List Nat} (h : Rg N P r l) (hn : n ∉ r :: l) : Rg (up (up N n r) (P r) n) (up (up P n (P r)) r n) r (l ++ [n]) := by
 obtain ⟨hnd, hc⟩ := h
 have hnr : n ≠ r := fun e => hn (by rw [e]; simp)
 obtain ⟨a', p, hp⟩ : ∃ a' p, r :: l = a' ++ [p] := ⟨(r :: l).dropLast, (r :: l).getLast (by simp), (List.dropLast_concat_getLast (by simp)).symm⟩
 rw [hp] at hc
 obtain ⟨e1, e2⟩ := ch_last a' p r hc
 have hpm : p ∈ r :: l := by rw [hp]; simp
 have hpn : p ≠ n := fun e => hn (e ▸ hpm)
 rw [e2]
 refine ⟨?_, ?_⟩
 ·have : (r :: (l ++ [n])).Perm (n :: r :: l) := by
   rw [← List.cons_append]
   exact List.perm_append_singleton n (r :: l)
  rw [this.nodup_iff, List.nodup_cons]
  exact ⟨hn, hnd⟩
 ·rw [show r :: (l ++ [n]) ++ [r] = a' ++ p :: [n, r] by rw [← List.cons_append, hp]; simp, ch_app]
  have hndp : (a' ++ [p]).Nodup := by rw [← hp]; exact hnd
  have hap : ∀ x ∈ a', x ≠ p := fun x hx e => by
   rw [List.nodup_append] at hndp
   exact hndp.2.2 x hx p (by simp) e
  have hna : ∀ x ∈ r :: l, x ≠ n := fun x hx e => hn (e ▸ hx)
  refine ⟨?_, ?_, ?_, ?_, ?_, trivial⟩
  ·refine ch_congr (N := N) (P := P) (a' ++ [p]) (fun x hx => ?_) (fun x hx => ?_) ?_
   ·rw [List.dropLast_concat] at hx
    rw [up_ne _ _ (hap x hx), up_ne _ _ (hna x (by rw [hp]; exact List.mem_append_left _ hx))]
   ·rw [← hp, List.tail_cons] at hx
    have hxr : x ≠ r := fun e => by
     rw [List.nodup_cons] at hnd
     exact hnd.1 (e ▸ hx)
    rw [up_ne _ _ hxr, up_ne _ _ (hna x (List.mem_cons_of_mem _ hx))]
   ·rw [List.append_assoc, List.singleton_append] at hc
    exact ((ch_app N P a' p [r]).1 hc).1
  ·exact up_same _ _ _
  ·rw [up_ne _ _ hnr, up_same]
  ·rw [up_ne _ _ (fun e => hpn e.symm), up_same]
  ·exact up_same _ _ _
/-- An entry: language, meaning, text. -/
structure Ent where
 lang : ByteArray
 mean : ByteArray
 text : ByteArray
def Ent.key (e : Ent) : ByteArray × ByteArray := (e.lang, e.mean)
def hasK (es : List Ent) (k : ByteArray × ByteArray) : Bool := es.any fun e => decide (e.key = k)
def outK (es : List Ent) (k : ByteArray × ByteArray) : List Ent := es.filter fun e => decide (e.key ≠ k)
/-- store -/
def mStore (room : Nat) (es : List Ent) (k : ByteArray × ByteArray) (t : ByteArray) : List Ent :=
 if hasK es k then outK es k ++ [⟨k.1, k.2, t⟩] else (if es.length = room then es.tail else es) ++ [⟨k.1, k.2, t⟩]
def mForget (es : List Ent) (g : ByteArray) : List Ent := es.filter fun e => decide (e.lang ≠ g)
def Kd' (es : List Ent) : Prop := (es.map Ent.key).Nodup
theorem hasK_iff {es : List Ent} {k : ByteArray × ByteArray} : hasK es k = true ↔ ∃ e ∈ es, e.key = k := by simp [hasK]
theorem hasK_not {es : List Ent} {k : ByteArray × ByteArray} : hasK es k = false ↔ ∀ e ∈ es, e.key ≠ k := by
 rw [Bool.eq_false_iff, Ne, hasK_iff]
 simp
theorem outK_sub (es : List Ent) (k : ByteArray × ByteArray) : (outK es k).Sublist es := List.filter_sublist
theorem nodup_sub {a b : List Ent} (h : a.Sublist b) (hb : Kd' b) : Kd' a := List.Nodup.sublist (h.map _) hb
theorem outK_not (es : List Ent) (k : ByteArray × ByteArray) : hasK (outK es k) k = false := by
 rw [hasK_not]
 intro e he
 have := (List.mem_filter.1 he).2
 simpa using this
theorem nodup_snoc {es : List Ent} {e : Ent} (h : Kd' es) (hn : hasK es e.key = false) : Kd' (es ++ [e]) := by
 unfold Kd' at *
 rw [List.map_append, List.nodup_append]
 refine ⟨h, by simp, ?_⟩
 intro a ha b hb hab
 obtain ⟨x, hx, rfl⟩ := List.mem_map.1 ha
 simp at hb
 exact (hasK_not.1 hn) x hx (hab.trans hb)
/-- With distinct keys: one entry has the key, the others haven't. -/
theorem outK_split {es : List Ent} {k : ByteArray × ByteArray} (h : Kd' es) {a b : List Ent} {e : Ent} (he : es = a ++ e :: b) (hk : e.key = k) : outK es k = a ++ b := by
 subst he
 have h2 : ∀ x ∈ a ++ b, x.key ≠ k := by
  intro x hx hxk
  have hn := h
  unfold Kd' at hn
  rw [List.map_append, List.map_cons, List.nodup_append] at hn
  obtain ⟨_, h4, h5⟩ := hn
  rw [List.nodup_cons] at h4
  rcases List.mem_append.1 hx with hx | hx
  ·exact h5 x.key (List.mem_map_of_mem hx) e.key (by simp) (hxk.trans hk.symm)
  ·exact h4.1 (by rw [hk, ← hxk]; exact List.mem_map_of_mem hx)
 unfold outK
 rw [List.filter_append, List.filter_cons_of_neg (by simpa using hk), ← List.filter_append]
 rw [List.filter_eq_self]
 intro x hx
 simpa using h2 x hx
theorem store_nodup {room : Nat} {es : List Ent} {k : ByteArray × ByteArray} {t : ByteArray} (h : Kd' es) : Kd' (mStore room es k t) := by
 unfold mStore
 split
 ·exact nodup_snoc (nodup_sub (outK_sub es k) h) (outK_not es k)
 ·rename_i hn
  have hn : hasK es k = false := by simpa using hn
  split
  ·refine nodup_snoc (nodup_sub (List.tail_sublist _) h) ?_
   rw [hasK_not] at hn ⊢
   exact fun e he => hn e (List.mem_of_mem_tail he)
  ·exact nodup_snoc h hn
theorem out_len {es : List Ent} {k : ByteArray × ByteArray} (h : hasK es k = true) : (outK es k).length + 1 ≤ es.length := by
 obtain ⟨e, he, hk⟩ := hasK_iff.1 h
 obtain ⟨a, b, rfl⟩ := List.append_of_mem he
 have := (List.filter_sublist (p := fun x : Ent => decide (x.key ≠ k)) (l := a)).length_le
 have h2 := (List.filter_sublist (p := fun x : Ent => decide (x.key ≠ k)) (l := b)).length_le
 unfold outK
 rw [List.filter_append, List.filter_cons_of_neg (by simpa using hk), List.length_append, List.length_append, List.length_cons]
 have e1 : ∀ l : List Ent, (List.filter (fun x : Ent => decide (x.key ≠ k)) l).length ≤ l.length := fun l => List.filter_sublist.length_le
 have := e1 a
 have := e1 b
 omega
theorem store_len {room : Nat} {es : List Ent} {k : ByteArray × ByteArray} {t : ByteArray} (h : es.length ≤ room) (hr : 0 < room) : (mStore room es k t).length ≤ room := by
 unfold mStore
 split
 ·rename_i hh
  have := out_len hh
  simp only [List.length_append, List.length_cons, List.length_nil]
  omega
 ·split
  ·simp only [List.length_append, List.length_tail, List.length_cons, List.length_nil]
   omega
  ·simp only [List.length_append, List.length_cons, List.length_nil]
   omega
/-- Forgetting. -/
theorem forget_sub (es : List Ent) (g : ByteArray) : (mForget es g).Sublist es := List.filter_sublist
end Go.Proofs.YtbahnpdgaoedmaaGreatDoor.Mm
