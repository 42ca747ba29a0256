/- Part 13 of the proof of MemoryForms: Mwr3, Mwr4. -/
import Derived.Test.YtbahnpdgaoedmaaGreatDoorCO12
namespace Go.Proofs.YtbahnpdgaoedmaaGreatDoor.Mm
open Go.RowKit Go.Proofs.YtbahnpdgaoedmaaGreatDoorW.PrintWords Go.Proofs.YtbahnpdgaoedmaaGreatDoorW.PrintLast Go.Proofs.YtbahnpdgaoedmaaGreatDoorW.PrintMore Go.Proofs.YtbahnpdgaoedmaaGreatDoor.PMemoryExact
set_option linter.unusedSimpArgs false
set_option linter.unusedVariables false
set_option maxRecDepth 1000000 in
set_option maxHeartbeats 8000000 in
theorem wr_all {n : Nat} (hrec : WrTo n) {o : Int} (ho : o = 8) {nm : ByteArray} {a : List S84} {f t : Int} {k : List S32} (hx : size ⟨o, nm, a, f, t, k⟩ < n + 1) {b : Nat} {l : List UInt8} {w : World} {cs : List Value} (hF : Kd.FK k32 w (fun k => k < b) ⟨o, nm, a, f, t, k⟩ cs) (hBI : BIs b (Lib.byteCells l) w) (hTB : TB w) (hg : ∀ g, Tryz.prog.globalNamed "internal/strconv.uint64pow10" = some g → g < b) (hal : Al ⟨o, nm, a, f, t, k⟩) (hlen : l.length + 2000 * size ⟨o, nm, a, f, t, k⟩ ≤ 1000000000) :
  Calls Tryz.prog 53 #[.pointer (some ⟨b, 0, none⟩), .agg cs.toArray] w fun e w' => e = .returned (.tuple #[]) ∧ Wr b (l ++ textB ⟨o, nm, a, f, t, k⟩) w w' := by
 obtain ⟨A2, c2, A5, c5, rfl, _, g2, l5, g5⟩ := k32_openF hF
 have HREC := Lib.hid hrec
 have HG2 := Lib.hid g2
 have HG5 := Lib.hid g5
 have HBL := Lib.hid (bis_lt hBI)
 have HWB := Lib.hid ((Wr.refl hBI).alloc (.cells #[.int .i64 o, .string nm, .slice A2 a.length c2, .int .i64 f, .int .i64 t, .slice A5 k.length c5] 32))
 have HW0 := Lib.hid (Wr.refl HWB.out.1)
 have HTB := Lib.hid (HWB.out.tb hTB hg)
 have HBX := Lib.hid (blk_new w (.cells #[.int .i64 o, .string nm, .slice A2 a.length c2, .int .i64 f, .int .i64 t, .slice A5 k.length c5] 32))
 have HGG := Lib.hid hg
 have HNM := Lib.hid (al_nm hal)
 have HKAL := Lib.hid ((al_is _).1 hal).2
 have HLEN := Lib.hid hlen
 have HSZ := Lib.hid hx
 have ha5 : a.length ≤ 9223372036854775807 := (Kd.F_now g2).2.1
 have hk5 : k.length ≤ 9223372036854775807 := (Kd.F_now g5).2.1
 have z1 : (o == (1 : Int)) = false := by simp; omega
 have z2 : (o == (2 : Int)) = false := by simp; omega
 have z3 : (o == (3 : Int)) = false := by simp; omega
 have z8 : (o == (8 : Int)) = true := by simp; omega
 have HO := Lib.hid ho
 have HHL := Lib.hid (show (headB ⟨o, nm, a, f, t, k⟩).length ≤ 120 from headB_len HNM.out)
 have HTX := Lib.hid (show textB ⟨o, nm, a, f, t, k⟩ = headB ⟨o, nm, a, f, t, k⟩ ++ 40 :: (commas (a.map refB) ++ commas (k.map textB) ++ [41]) by rw [textB_is]; exact if_neg (by show ¬ (o = 1 ∨ o = 2); omega))
 clear hrec hF hBI hTB hg hal hlen hx g2 g5 l5 ho
 dsimp only at *
 obtain ⟨w1, hw1⟩ : ∃ w1, (w.alloc (.cells #[.int .i64 o, .string nm, .slice A2 a.length c2, .int .i64 f, .int .i64 t, .slice A5 k.length c5] 32)) = w1 := ⟨_, rfl⟩
 have HW10 := Lib.hid hw1
 rw [hw1] at HW0 HWB HTB HBX
 clear hw1
 have HTB1 := Lib.hid HTB.out
 have HBX1 := Lib.hid HBX.out
 go_enter Tryz.func53, Tryz.ntmps53
 obtain ⟨s, hs, hsk⟩ := kw_f o
 have HHE := Lib.hid (show headB ⟨o, nm, a, f, t, k⟩ = s.data.toList ++ 32 :: nm.data.toList by rw [hsk]; unfold headB; rw [if_neg (by show ¬ o = 3; have := HO.out; omega), if_pos (by show (o = 8 ∨ o = 9); have := HO.out; omega)])
 have HSK := Lib.hid hsk
 have HKW := Lib.hid hs
 clear hs hsk
 have hsz1 : s.size ≤ 9 := by have h1 := congrArg List.length HSK.out; have h2 := kwd_len o; have e : s.data.toList.length = s.size := rfl; omega
 have hsz2 : nm.size ≤ 100 := HNM.out.name
 have hcat : ∀ W : World, (Op.stringOp .add s ⟨#[32]⟩).run Tryz.prog W = .ok (.string (s ++ ⟨#[32]⟩)) W := fun W => run_string_add_sum W _ _ (by show s.size + 1 ≤ _; omega)
 have hcat2 : ∀ W : World, (Op.stringOp .add (s ++ ⟨#[32]⟩) nm).run Tryz.prog W = .ok (.string (s ++ ⟨#[32]⟩ ++ nm)) W := fun W => run_string_add_sum W _ _ (by rw [ByteArray.size_append]; show s.size + 1 + nm.size ≤ _; omega)
 have hc1 : ¬ (9223372036854775807 < s.size + 1) := by omega
 have hc2 : ¬ (9223372036854775807 < s.size + 1 + nm.size) := by omega
 have HCT := Lib.hid (show (s ++ ⟨#[32]⟩ ++ nm).data.toList = s.data.toList ++ 32 :: nm.data.toList by rw [ByteArray.data_append, Array.toList_append, ByteArray.data_append, Array.toList_append]; simp)
 obtain ⟨k0, k1, k2, k3, k4, k5⟩ := cells_of HBX1.out
 have HC0 := Lib.hid (show ∀ W, Wr b l w1 W → W.cell? ⟨w.heap.size, 0, none⟩ = some (.int .i64 o) ∧ W.cell? ⟨w.heap.size, 1, none⟩ = some (.string nm) from fun W hW => by have h := cells_of (hW.blk HBX1.out (by decide) (by have := HBL.out; omega)); exact ⟨h.1, h.2.1⟩)
 clear k0 k1 k2 k3 k4 k5
 go_wp2_with fail
 rw [HW10.out]
 refine start_ (n := 9) (S := fun w' => Wr b l w1 w') (ds := [8]) #[false, false, false, false, false, false, false, false, false] (by kernel_rfl) rfl rfl HW0.out.drew (fun hHeld => ?_)
 generalize w1.drew = w3 at hHeld ⊢
 refine pure_ (i := 0) (N := (some 37)) (v := ?_) (a' := ?_) #[true, false, false, false, false, false, false, false, false] rfl rfl (by kernel_rfl) (fun _ _ _ h => h) (Or.inl ⟨by rfl, ?_⟩) ?_ ?_
 rotate_left
 ·intro w'
  go_simp
  with_reducible rfl
 rotate_left
 ·simp only [Act.put, List.setIfInBounds_toArray, List.set_cons_zero, List.set_cons_succ]
  rfl
 refine pure_ (i := 1) (N := (some 38)) (v := ?_) (a' := ?_) #[true, true, false, false, false, false, false, false, false] rfl rfl (by kernel_rfl) (fun _ _ _ h => h) (Or.inl ⟨by rfl, ?_⟩) ?_ ?_
 rotate_left
 ·intro w'
  go_simp
  with_reducible rfl
 rotate_left
 ·simp only [Act.put, List.setIfInBounds_toArray, List.set_cons_zero, List.set_cons_succ]
  rfl
 refine take_ (i := 2) (N := (some 39)) (v := ?_) (a' := ?_) #[true, true, true, false, false, false, false, false, false] rfl rfl (by kernel_rfl) (fun _ _ _ h => h) (Or.inl ⟨by rfl, ?_⟩) hHeld ?_ ?_
 rotate_left
 ·rintro w' s0
  obtain ⟨p0, p1⟩ := HC0.out _ s0
  go_simp
  with_reducible rfl
 rotate_left
 ·simp only [Act.put, List.setIfInBounds_toArray, List.set_cons_zero, List.set_cons_succ]
  rfl
 refine pure_ (i := 5) (N := (some 42)) (v := ?_) (a' := ?_) #[true, true, true, false, false, true, false, false, false] rfl rfl (by kernel_rfl) (fun _ _ _ h => h) (Or.inl ⟨by rfl, ?_⟩) ?_ ?_
 rotate_left
 ·intro w'
  go_simp
  with_reducible rfl
 rotate_left
 ·simp only [Act.put, List.setIfInBounds_toArray, List.set_cons_zero, List.set_cons_succ]
  rfl
 refine take_ (i := 6) (N := (some 43)) (v := ?_) (a' := ?_) #[true, true, true, false, false, true, true, false, false] rfl rfl (by kernel_rfl) (fun _ _ _ h => h) (Or.inl ⟨by rfl, ?_⟩) hHeld ?_ ?_
 rotate_left
 ·rintro w' s0
  obtain ⟨p0, p1⟩ := HC0.out _ s0
  go_simp
  with_reducible rfl
 rotate_left
 ·simp only [Act.put, List.setIfInBounds_toArray, List.set_cons_zero, List.set_cons_succ]
  rfl
 refine one_ (i := 3) (N := (some 40)) #[true, true, true, true, false, true, true, false, false] rfl rfl (by kernel_rfl) (by decide) (fun K hK => ?_)
 go_simp
 refine (formula_keyword.calls o s _ HKW.out).mono ?_
 rintro e w4 ⟨rfl, hd⟩
 refine hK.out _ _ (hHeld.drawn hd) (fun hHeld => ?_)
 clear hK K
 (try simp only [Act.put, List.setIfInBounds_toArray, List.set_cons_zero, List.set_cons_succ])
 refine pure_ (i := 4) (N := (some 41)) (v := ?_) (a' := ?_) #[true, true, true, true, true, true, true, false, false] rfl rfl (by kernel_rfl) (fun _ _ _ h => h) (Or.inl ⟨by rfl, ?_⟩) ?_ ?_
 rotate_left
 ·intro w'
  go_simp
  with_reducible rfl
 rotate_left
 ·simp only [Act.put, List.setIfInBounds_toArray, List.set_cons_zero, List.set_cons_succ]
  rfl
 refine pure_ (i := 7) (N := (some 44)) (v := ?_) (a' := ?_) #[true, true, true, true, true, true, true, true, false] rfl rfl (by kernel_rfl) (fun _ _ _ h => h) (Or.inl ⟨by rfl, ?_⟩) ?_ ?_
 rotate_left
 ·intro w'
  go_simp
  with_reducible rfl
 rotate_left
 ·simp only [Act.put, List.setIfInBounds_toArray, List.set_cons_zero, List.set_cons_succ]
  rfl
 refine last_ (i := 8) (N := (some 45)) #[true, true, true, true, true, true, true, true, true] rfl rfl (by kernel_rfl) (by decide) (fun K hK => ?_)
 go_simp
 obtain ⟨S2, hS2⟩ : ∃ S2, s ++ (⟨#[32]⟩ : ByteArray) ++ nm = S2 := ⟨_, rfl⟩
 rw [hS2] at HCT ⊢
 clear hS2
 refine (ws_any S2 hHeld.1 (by have h1 := congrArg List.length HCT.out; rw [List.length_append, List.length_cons] at h1; have e1 : s.data.toList.length = s.size := rfl; have e2 : nm.data.toList.length = nm.size := rfl; have := HLEN.out; omega)).mono ?_
 rintro e w5 ⟨rfl, hw⟩
 have HWH := Lib.hid (hHeld.step hw)
 rw [HCT.out, ← HHE.out] at HWH
 clear hw
 refine hK.out _ _ ?_
 clear hK K
 (try simp only [Act.put, List.setIfInBounds_toArray, List.set_cons_zero, List.set_cons_succ])
 refine done_ (by kernel_rfl) ?_
 have HBX5 := Lib.hid (HWH.out.blk HBX1.out (by decide) (by have := HBL.out; omega))
 obtain ⟨k0, k1, k2, k3, k4, k5⟩ := cells_of HBX5.out
 go_wp2_with fail
 refine (wb_any 40 40 rfl HWH.out.1 (by have := HHL.out; have := HLEN.out; rw [List.length_append]; omega)).mono ?_
 rintro e w6 ⟨rfl, hw⟩
 have HW6 := Lib.hid (HWH.out.step hw)
 have HBX6 := Lib.hid (HW6.out.blk HBX1.out (by decide) (by have := HBL.out; omega))
 clear hw k0 k1 k2 k3 k4 k5
 obtain ⟨k0, k1, k2, k3, k4, k5⟩ := cells_of HBX6.out
 have HL1 := Lib.hid (show (l ++ headB ⟨o, nm, a, f, t, k⟩ ++ [40]).length ≤ l.length + 121 by have := HHL.out; simp only [List.length_append, List.length_cons, List.length_nil]; omega)
 obtain ⟨L1, hL1⟩ : ∃ L1, l ++ headB ⟨o, nm, a, f, t, k⟩ ++ [40] = L1 := ⟨_, rfl⟩
 rw [hL1] at HW6 HL1
 have HLL1 := Lib.hid hL1
 clear hL1
 go_wp2
 go_loopw [68] (fun v68 wr => RefRel b L1 a w1 v68 wr) (fun v68 _ => a.length - (intOf v68).toNat)
 case atStart => exact ⟨0, rfl, Nat.zero_le _, by simpa [commas] using HW6.out⟩
 case round =>
  obtain ⟨j, rfl, hj, hwr⟩ := hrel
  have HWR := Lib.hid hwr
  clear hwr k0 k1 k2 k3 k4 k5
  have HCL := Lib.hid (show (commas ((a.take j).map refB)).length ≤ 1020 from refs_len (fun r hr => refB_len (HNM.out.ref r hr)) HNM.out.refs j)
  have HLR := Lib.hid (show (L1 ++ commas ((a.take j).map refB)).length ≤ l.length + 1141 by rw [List.length_append]; have := HCL.out; have := HL1.out; omega)
  by_cases hlt : j < a.length
  ·have hj0 : 0 ≤ (j : Int) := by omega
   have hj1 : (j : Int) < (a.length : Int) := by omega
   obtain ⟨ad, e1, q0, q1, q2⟩ := ref_at (Kd.F_now (Kd.F_step HG2.out (fun k hk _ => (HWB.out.base HWR.out).2.1.block k hk))) j hlt
   subst e1
   have HCN := Lib.hid (commas_next refB hlt)
   have HRM := Lib.hid (HNM.out.ref _ (List.getElem_mem hlt))
   obtain ⟨r, hr⟩ : ∃ r, a[j] = r := ⟨_, rfl⟩
   rw [hr] at q0 q1 q2 HCN HRM
   clear hr
   have HR5 := Lib.hid (blk_new wr (.cells #[.int .i64 r.f0, .int .i64 r.f1, .string r.f2] 84))
   have HWA := Lib.hid (HWR.out.alloc (.cells #[.int .i64 r.f0, .int .i64 r.f1, .string r.f2] 84))
   have HWS := Lib.hid (show b < wr.heap.size from bis_lt HWR.out.1)
   obtain ⟨LJ, hLJ⟩ : ∃ LJ, L1 ++ commas ((a.take j).map refB) = LJ := ⟨_, rfl⟩
   rw [hLJ] at HWA HLR
   have HLJ := Lib.hid hLJ
   clear hLJ HCL
   by_cases h0 : j = 0
   ·have HJ0 := Lib.hid h0
    have gz : decide ((0 : Int) < (j : Int)) = false := decide_eq_false (by omega)
    have gzn : decide (0 < j) = false := decide_eq_false (by omega)
    clear h0
    have HWC := Lib.hid HWA.out
    obtain ⟨LC, hLC⟩ : ∃ LC, LJ = LC := ⟨_, rfl⟩
    have HLC2 := Lib.hid hLC
    rw [hLC] at HWC
    have HLC := Lib.hid (show LC.length ≤ l.length + 1143 by rw [← hLC]; have := HLR.out; omega)
    clear hLC
    by_cases h1 : r.f0 = 1
    ·have HRF := Lib.hid (show refB r = 35 :: Lib.itoa r.f1 by unfold refB; rw [if_pos h1])
     have u1 : (r.f0 == (1 : Int)) = true := by simpa using h1
     clear h1
     go_wp2_with fail
     refine (itoa_any r.f1 HRM.out.2.1 HRM.out.2.2 (HWC.out.tb HTB1.out HGG.out)).mono ?_
     rintro e w8 ⟨rfl, kk, os, hgr⟩
     have HWI := Lib.hid (show Wr b LC w1 w8 by rw [hgr]; exact HWC.out.itoa)
     clear hgr
     obtain ⟨S, hS⟩ : ∃ S : ByteArray, (⟨(Lib.itoa r.f1).toArray⟩ : ByteArray) = S := ⟨_, rfl⟩
     rw [hS]
     have HSS := Lib.hid (show S.data.toList = Lib.itoa r.f1 by rw [← hS])
     have hsz : S.size ≤ 21 := by rw [← hS]; have := Lib.itoa_length_le r.f1 HRM.out.2.1 HRM.out.2.2; simpa [ByteArray.size] using this
     clear hS
     have hcat : ∀ W : World, (Op.stringOp .add ⟨#[35]⟩ S).run Tryz.prog W = .ok (.string (⟨#[35]⟩ ++ S)) W := fun W => run_string_add_sum W _ _ (by show 1 + S.size ≤ _; omega)
     have hc1 : ¬ (9223372036854775807 < 1 + S.size) := by omega
     have hc2 : ¬ (9223372036854775807 < (⟨#[35]⟩ : ByteArray).size + S.size) := by show ¬ (9223372036854775807 < 1 + S.size); omega
     have HCT := Lib.hid (show ((⟨#[35]⟩ : ByteArray) ++ S).data.toList = 35 :: Lib.itoa r.f1 by rw [ByteArray.data_append, Array.toList_append, HSS.out]; rfl)
     go_wp2_with fail
     obtain ⟨S2, hS2⟩ : ∃ S2, (⟨#[35]⟩ : ByteArray) ++ S = S2 := ⟨_, rfl⟩
     rw [hS2] at HCT ⊢
     clear hS2
     refine (ws_any S2 HWI.out.1 (by have h1 := congrArg List.length HCT.out; rw [List.length_cons] at h1; have := Lib.itoa_length_le r.f1 HRM.out.2.1 HRM.out.2.2; have := HLC.out; have := HLEN.out; omega)).mono ?_
     rintro e w9 ⟨rfl, hw9⟩
     have HW9 := Lib.hid (HWI.out.step hw9)
     clear hw9
     go_wp2
     go_roundw
     case rel => exact ⟨j + 1, by go_num, hlt, by rw [HCN.out, ← List.append_assoc, HLJ.out, if_pos HJ0.out, HRF.out]; have h9 := HW9.out; rw [← HLC2.out, HCT.out] at h9; exact h9⟩
     case measure => simp [intOf]; omega
    ·by_cases h3 : r.f0 = 3
     ·have HRF := Lib.hid (show refB r = 64 :: Lib.itoa r.f1 by unfold refB; rw [if_neg h1, if_pos h3])
      have u1 : (r.f0 == (1 : Int)) = false := by simpa using h1
      have u3 : (r.f0 == (3 : Int)) = true := by simpa using h3
      clear h1 h3
      go_wp2_with fail
      refine (itoa_any r.f1 HRM.out.2.1 HRM.out.2.2 (HWC.out.tb HTB1.out HGG.out)).mono ?_
      rintro e w8 ⟨rfl, kk, os, hgr⟩
      have HWI := Lib.hid (show Wr b LC w1 w8 by rw [hgr]; exact HWC.out.itoa)
      clear hgr
      obtain ⟨S, hS⟩ : ∃ S : ByteArray, (⟨(Lib.itoa r.f1).toArray⟩ : ByteArray) = S := ⟨_, rfl⟩
      rw [hS]
      have HSS := Lib.hid (show S.data.toList = Lib.itoa r.f1 by rw [← hS])
      have hsz : S.size ≤ 21 := by rw [← hS]; have := Lib.itoa_length_le r.f1 HRM.out.2.1 HRM.out.2.2; simpa [ByteArray.size] using this
      clear hS
      have hcat : ∀ W : World, (Op.stringOp .add ⟨#[64]⟩ S).run Tryz.prog W = .ok (.string (⟨#[64]⟩ ++ S)) W := fun W => run_string_add_sum W _ _ (by show 1 + S.size ≤ _; omega)
      have hc1 : ¬ (9223372036854775807 < 1 + S.size) := by omega
      have hc2 : ¬ (9223372036854775807 < (⟨#[64]⟩ : ByteArray).size + S.size) := by show ¬ (9223372036854775807 < 1 + S.size); omega
      have HCT := Lib.hid (show ((⟨#[64]⟩ : ByteArray) ++ S).data.toList = 64 :: Lib.itoa r.f1 by rw [ByteArray.data_append, Array.toList_append, HSS.out]; rfl)
      go_wp2_with fail
      obtain ⟨S2, hS2⟩ : ∃ S2, (⟨#[64]⟩ : ByteArray) ++ S = S2 := ⟨_, rfl⟩
      rw [hS2] at HCT ⊢
      clear hS2
      refine (ws_any S2 HWI.out.1 (by have h1 := congrArg List.length HCT.out; rw [List.length_cons] at h1; have := Lib.itoa_length_le r.f1 HRM.out.2.1 HRM.out.2.2; have := HLC.out; have := HLEN.out; omega)).mono ?_
      rintro e w9 ⟨rfl, hw9⟩
      have HW9 := Lib.hid (HWI.out.step hw9)
      clear hw9
      go_wp2
      go_roundw
      case rel => exact ⟨j + 1, by go_num, hlt, by rw [HCN.out, ← List.append_assoc, HLJ.out, if_pos HJ0.out, HRF.out]; have h9 := HW9.out; rw [← HLC2.out, HCT.out] at h9; exact h9⟩
      case measure => simp [intOf]; omega
     ·by_cases h4 : r.f0 = 4
      ·have HRF := Lib.hid (show refB r = Lib.itoa r.f1 by unfold refB; rw [if_neg h1, if_neg h3, if_pos h4])
       have u1 : (r.f0 == (1 : Int)) = false := by simpa using h1
       have u3 : (r.f0 == (3 : Int)) = false := by simpa using h3
       have u4 : (r.f0 == (4 : Int)) = true := by simpa using h4
       clear h1 h3 h4
       go_wp2_with fail
       refine (itoa_any r.f1 HRM.out.2.1 HRM.out.2.2 (HWC.out.tb HTB1.out HGG.out)).mono ?_
       rintro e w8 ⟨rfl, kk, os, hgr⟩
       have HWI := Lib.hid (show Wr b LC w1 w8 by rw [hgr]; exact HWC.out.itoa)
       clear hgr
       obtain ⟨S, hS⟩ : ∃ S : ByteArray, (⟨(Lib.itoa r.f1).toArray⟩ : ByteArray) = S := ⟨_, rfl⟩
       rw [hS]
       have HSS := Lib.hid (show S.data.toList = Lib.itoa r.f1 by rw [← hS])
       have hsz : S.size ≤ 21 := by rw [← hS]; have := Lib.itoa_length_le r.f1 HRM.out.2.1 HRM.out.2.2; simpa [ByteArray.size] using this
       clear hS
       go_wp2_with fail
       refine (ws_any S HWI.out.1 (by rw [HSS.out]; have := Lib.itoa_length_le r.f1 HRM.out.2.1 HRM.out.2.2; have := HLC.out; have := HLEN.out; omega)).mono ?_
       rintro e w9 ⟨rfl, hw9⟩
       have HW9 := Lib.hid (HWI.out.step hw9)
       clear hw9
       go_wp2
       go_roundw
       case rel => exact ⟨j + 1, by go_num, hlt, by rw [HCN.out, ← List.append_assoc, HLJ.out, if_pos HJ0.out, HRF.out]; have h9 := HW9.out; rw [← HLC2.out, HSS.out] at h9; exact h9⟩
       case measure => simp [intOf]; omega
      ·have HRF := Lib.hid (show refB r = r.f2.data.toList by unfold refB; rw [if_neg h1, if_neg h3, if_neg h4])
       have u1 : (r.f0 == (1 : Int)) = false := by simpa using h1
       have u3 : (r.f0 == (3 : Int)) = false := by simpa using h3
       have u4 : (r.f0 == (4 : Int)) = false := by simpa using h4
       clear h1 h3 h4
       have HWI := Lib.hid HWC.out
       go_wp2_with fail
       refine (ws_any r.f2 HWI.out.1 (by have h := HRM.out.1; have := HLC.out; have := HLEN.out; have e : r.f2.data.toList.length = r.f2.size := rfl; omega)).mono ?_
       rintro e w9 ⟨rfl, hw9⟩
       have HW9 := Lib.hid (HWI.out.step hw9)
       clear hw9
       go_wp2
       go_roundw
       case rel => exact ⟨j + 1, by go_num, hlt, by rw [HCN.out, ← List.append_assoc, HLJ.out, if_pos HJ0.out, HRF.out]; have h9 := HW9.out; rw [← HLC2.out] at h9; exact h9⟩
       case measure => simp [intOf]; omega
   ·have HJ0 := Lib.hid h0
    have gz : decide ((0 : Int) < (j : Int)) = true := decide_eq_true (by omega)
    have gzn : decide (0 < j) = true := decide_eq_true (by omega)
    clear h0
    go_wp2_with fail
    refine (ws_any ⟨#[44, 32]⟩ HWA.out.1 (by have := HLR.out; have := HLEN.out; simp; omega)).mono ?_
    rintro e w7 ⟨rfl, hw7⟩
    have HWC := Lib.hid (HWA.out.step hw7)
    have HR7 := Lib.hid (hw7.blk HR5.out (by decide) (by have := HWS.out; omega))
    have r70 : w7.cell? ⟨wr.heap.size, 0, none⟩ = some (.int .i64 r.f0) := blk_cell HR7.out 0
    have r71 : w7.cell? ⟨wr.heap.size, 1, none⟩ = some (.int .i64 r.f1) := blk_cell HR7.out 1
    have r72 : w7.cell? ⟨wr.heap.size, 2, none⟩ = some (.string r.f2) := blk_cell HR7.out 2
    clear hw7
    obtain ⟨LC, hLC⟩ : ∃ LC, LJ ++ (⟨#[44, 32]⟩ : ByteArray).data.toList = LC := ⟨_, rfl⟩
    have HLC2 := Lib.hid hLC
    rw [hLC] at HWC
    have HLC := Lib.hid (show LC.length ≤ l.length + 1143 by rw [← hLC]; have := HLR.out; simp; omega)
    clear hLC
    by_cases h1 : r.f0 = 1
    ·have HRF := Lib.hid (show refB r = 35 :: Lib.itoa r.f1 by unfold refB; rw [if_pos h1])
     have u1 : (r.f0 == (1 : Int)) = true := by simpa using h1
     clear h1
     go_wp2_with fail
     refine (itoa_any r.f1 HRM.out.2.1 HRM.out.2.2 (HWC.out.tb HTB1.out HGG.out)).mono ?_
     rintro e w8 ⟨rfl, kk, os, hgr⟩
     have HWI := Lib.hid (show Wr b LC w1 w8 by rw [hgr]; exact HWC.out.itoa)
     clear hgr
     obtain ⟨S, hS⟩ : ∃ S : ByteArray, (⟨(Lib.itoa r.f1).toArray⟩ : ByteArray) = S := ⟨_, rfl⟩
     rw [hS]
     have HSS := Lib.hid (show S.data.toList = Lib.itoa r.f1 by rw [← hS])
     have hsz : S.size ≤ 21 := by rw [← hS]; have := Lib.itoa_length_le r.f1 HRM.out.2.1 HRM.out.2.2; simpa [ByteArray.size] using this
     clear hS
     have hcat : ∀ W : World, (Op.stringOp .add ⟨#[35]⟩ S).run Tryz.prog W = .ok (.string (⟨#[35]⟩ ++ S)) W := fun W => run_string_add_sum W _ _ (by show 1 + S.size ≤ _; omega)
     have hc1 : ¬ (9223372036854775807 < 1 + S.size) := by omega
     have hc2 : ¬ (9223372036854775807 < (⟨#[35]⟩ : ByteArray).size + S.size) := by show ¬ (9223372036854775807 < 1 + S.size); omega
     have HCT := Lib.hid (show ((⟨#[35]⟩ : ByteArray) ++ S).data.toList = 35 :: Lib.itoa r.f1 by rw [ByteArray.data_append, Array.toList_append, HSS.out]; rfl)
     go_wp2_with fail
     obtain ⟨S2, hS2⟩ : ∃ S2, (⟨#[35]⟩ : ByteArray) ++ S = S2 := ⟨_, rfl⟩
     rw [hS2] at HCT ⊢
     clear hS2
     refine (ws_any S2 HWI.out.1 (by have h1 := congrArg List.length HCT.out; rw [List.length_cons] at h1; have := Lib.itoa_length_le r.f1 HRM.out.2.1 HRM.out.2.2; have := HLC.out; have := HLEN.out; omega)).mono ?_
     rintro e w9 ⟨rfl, hw9⟩
     have HW9 := Lib.hid (HWI.out.step hw9)
     clear hw9
     go_wp2
     go_roundw
     case rel => exact ⟨j + 1, by go_num, hlt, by rw [HCN.out, ← List.append_assoc, HLJ.out, if_neg HJ0.out, HRF.out]; have h9 := HW9.out; rw [← HLC2.out, HCT.out] at h9; simpa using h9⟩
     case measure => simp [intOf]; omega
    ·by_cases h3 : r.f0 = 3
     ·have HRF := Lib.hid (show refB r = 64 :: Lib.itoa r.f1 by unfold refB; rw [if_neg h1, if_pos h3])
      have u1 : (r.f0 == (1 : Int)) = false := by simpa using h1
      have u3 : (r.f0 == (3 : Int)) = true := by simpa using h3
      clear h1 h3
      go_wp2_with fail
      refine (itoa_any r.f1 HRM.out.2.1 HRM.out.2.2 (HWC.out.tb HTB1.out HGG.out)).mono ?_
      rintro e w8 ⟨rfl, kk, os, hgr⟩
      have HWI := Lib.hid (show Wr b LC w1 w8 by rw [hgr]; exact HWC.out.itoa)
      clear hgr
      obtain ⟨S, hS⟩ : ∃ S : ByteArray, (⟨(Lib.itoa r.f1).toArray⟩ : ByteArray) = S := ⟨_, rfl⟩
      rw [hS]
      have HSS := Lib.hid (show S.data.toList = Lib.itoa r.f1 by rw [← hS])
      have hsz : S.size ≤ 21 := by rw [← hS]; have := Lib.itoa_length_le r.f1 HRM.out.2.1 HRM.out.2.2; simpa [ByteArray.size] using this
      clear hS
      have hcat : ∀ W : World, (Op.stringOp .add ⟨#[64]⟩ S).run Tryz.prog W = .ok (.string (⟨#[64]⟩ ++ S)) W := fun W => run_string_add_sum W _ _ (by show 1 + S.size ≤ _; omega)
      have hc1 : ¬ (9223372036854775807 < 1 + S.size) := by omega
      have hc2 : ¬ (9223372036854775807 < (⟨#[64]⟩ : ByteArray).size + S.size) := by show ¬ (9223372036854775807 < 1 + S.size); omega
      have HCT := Lib.hid (show ((⟨#[64]⟩ : ByteArray) ++ S).data.toList = 64 :: Lib.itoa r.f1 by rw [ByteArray.data_append, Array.toList_append, HSS.out]; rfl)
      go_wp2_with fail
      obtain ⟨S2, hS2⟩ : ∃ S2, (⟨#[64]⟩ : ByteArray) ++ S = S2 := ⟨_, rfl⟩
      rw [hS2] at HCT ⊢
      clear hS2
      refine (ws_any S2 HWI.out.1 (by have h1 := congrArg List.length HCT.out; rw [List.length_cons] at h1; have := Lib.itoa_length_le r.f1 HRM.out.2.1 HRM.out.2.2; have := HLC.out; have := HLEN.out; omega)).mono ?_
      rintro e w9 ⟨rfl, hw9⟩
      have HW9 := Lib.hid (HWI.out.step hw9)
      clear hw9
      go_wp2
      go_roundw
      case rel => exact ⟨j + 1, by go_num, hlt, by rw [HCN.out, ← List.append_assoc, HLJ.out, if_neg HJ0.out, HRF.out]; have h9 := HW9.out; rw [← HLC2.out, HCT.out] at h9; simpa using h9⟩
      case measure => simp [intOf]; omega
     ·by_cases h4 : r.f0 = 4
      ·have HRF := Lib.hid (show refB r = Lib.itoa r.f1 by unfold refB; rw [if_neg h1, if_neg h3, if_pos h4])
       have u1 : (r.f0 == (1 : Int)) = false := by simpa using h1
       have u3 : (r.f0 == (3 : Int)) = false := by simpa using h3
       have u4 : (r.f0 == (4 : Int)) = true := by simpa using h4
       clear h1 h3 h4
       go_wp2_with fail
       refine (itoa_any r.f1 HRM.out.2.1 HRM.out.2.2 (HWC.out.tb HTB1.out HGG.out)).mono ?_
       rintro e w8 ⟨rfl, kk, os, hgr⟩
       have HWI := Lib.hid (show Wr b LC w1 w8 by rw [hgr]; exact HWC.out.itoa)
       clear hgr
       obtain ⟨S, hS⟩ : ∃ S : ByteArray, (⟨(Lib.itoa r.f1).toArray⟩ : ByteArray) = S := ⟨_, rfl⟩
       rw [hS]
       have HSS := Lib.hid (show S.data.toList = Lib.itoa r.f1 by rw [← hS])
       have hsz : S.size ≤ 21 := by rw [← hS]; have := Lib.itoa_length_le r.f1 HRM.out.2.1 HRM.out.2.2; simpa [ByteArray.size] using this
       clear hS
       go_wp2_with fail
       refine (ws_any S HWI.out.1 (by rw [HSS.out]; have := Lib.itoa_length_le r.f1 HRM.out.2.1 HRM.out.2.2; have := HLC.out; have := HLEN.out; omega)).mono ?_
       rintro e w9 ⟨rfl, hw9⟩
       have HW9 := Lib.hid (HWI.out.step hw9)
       clear hw9
       go_wp2
       go_roundw
       case rel => exact ⟨j + 1, by go_num, hlt, by rw [HCN.out, ← List.append_assoc, HLJ.out, if_neg HJ0.out, HRF.out]; have h9 := HW9.out; rw [← HLC2.out, HSS.out] at h9; simpa using h9⟩
       case measure => simp [intOf]; omega
      ·have HRF := Lib.hid (show refB r = r.f2.data.toList by unfold refB; rw [if_neg h1, if_neg h3, if_neg h4])
       have u1 : (r.f0 == (1 : Int)) = false := by simpa using h1
       have u3 : (r.f0 == (3 : Int)) = false := by simpa using h3
       have u4 : (r.f0 == (4 : Int)) = false := by simpa using h4
       clear h1 h3 h4
       have HWI := Lib.hid HWC.out
       go_wp2_with fail
       refine (ws_any r.f2 HWI.out.1 (by have h := HRM.out.1; have := HLC.out; have := HLEN.out; have e : r.f2.data.toList.length = r.f2.size := rfl; omega)).mono ?_
       rintro e w9 ⟨rfl, hw9⟩
       have HW9 := Lib.hid (HWI.out.step hw9)
       clear hw9
       go_wp2
       go_roundw
       case rel => exact ⟨j + 1, by go_num, hlt, by rw [HCN.out, ← List.append_assoc, HLJ.out, if_neg HJ0.out, HRF.out]; have h9 := HW9.out; rw [← HLC2.out] at h9; simpa using h9⟩
       case measure => simp [intOf]; omega
  ·have hja : j = a.length := by omega
   subst hja
   clear hlt hj
   have HBX7 := Lib.hid (HWR.out.blk HBX1.out (by decide) (by have := HBL.out; omega))
   obtain ⟨k0, k1, k2, k3, k4, k5⟩ := cells_of HBX7.out
   rw [List.take_length] at HWR HLR HCL
   obtain ⟨L2, hL2⟩ : ∃ L2, L1 ++ commas (a.map refB) = L2 := ⟨_, rfl⟩
   rw [hL2] at HWR HLR
   have HLL2 := Lib.hid hL2
   clear hL2 HCL
   go_wp2
   go_loopw [110] (fun v110 wr => KidRel b L2 k w1 v110 wr) (fun v110 _ => k.length - (intOf v110).toNat)
   case atStart => exact ⟨0, rfl, Nat.zero_le _, by simpa [commas] using HWR.out⟩
   case round =>
    obtain ⟨j, rfl, hj, hwr⟩ := hrel
    have HWK := Lib.hid hwr
    clear hwr k0 k1 k2 k3 k4 k5
    by_cases hlt : j < k.length
    ·have hj0 : 0 ≤ (j : Int) := by omega
     have hj1 : (j : Int) < (k.length : Int) := by omega
     obtain ⟨ad, A3, c3, A6, c6, e4, q0, q1, q2, q3, q4, q5, qF⟩ := form_F (Kd.F_step HG5.out (fun k hk _ => (HWB.out.base HWK.out).2.1.block k hk)) (Below.refl _ _) j hlt
     subst e4
     have HCN := Lib.hid (commas_next textB hlt)
     have HKLN := Lib.hid (kids_len HKAL.out hlt)
     have hmem : k[j] ∈ k := List.getElem_mem hlt
     obtain ⟨y, hy⟩ : ∃ y, k[j] = y := ⟨_, rfl⟩
     rw [hy] at q0 q1 q2 q3 q4 q5 qF hmem HCN HKLN
     clear hy
     have HQF := Lib.hid qF
     have HYL := Lib.hid (HKAL.out y hmem)
     have HYS := Lib.hid (show size y < n by have := kid_lt (x := ⟨o, nm, a, f, t, k⟩) hmem; have := HSZ.out; omega)
     have HXS := Lib.hid (show size ⟨o, nm, a, f, t, k⟩ = 1 + size.sizes k from size_is ⟨o, nm, a, f, t, k⟩)
     have HR5 := Lib.hid (blk_new wr (.cells #[.int .i64 y.f0, .string y.f1, .slice A3 y.f2.length c3, .int .i64 y.f3, .int .i64 y.f4, .slice A6 y.f5.length c6] 32))
     have HWA := Lib.hid (HWK.out.alloc (.cells #[.int .i64 y.f0, .string y.f1, .slice A3 y.f2.length c3, .int .i64 y.f3, .int .i64 y.f4, .slice A6 y.f5.length c6] 32))
     have HWAA := Lib.hid ((Wr.refl HWK.out.1).alloc (.cells #[.int .i64 y.f0, .string y.f1, .slice A3 y.f2.length c3, .int .i64 y.f3, .int .i64 y.f4, .slice A6 y.f5.length c6] 32))
     have HWS := Lib.hid (show b < wr.heap.size from bis_lt HWK.out.1)
     obtain ⟨LJ, hLJ⟩ : ∃ LJ, L2 ++ commas ((k.take j).map textB) = LJ := ⟨_, rfl⟩
     have HLRK := Lib.hid (show LJ.length + 2000 * size y + 857 ≤ l.length + 2000 * size ⟨o, nm, a, f, t, k⟩ by rw [← hLJ, List.length_append]; have := HKLN.out; have := HLR.out; have := HXS.out; omega)
     rw [hLJ] at HWA HWAA
     have HLJ := Lib.hid hLJ
     clear hLJ qF hmem
     by_cases h0 : j = 0
     ·have HJ0 := Lib.hid h0
      have gz : decide ((0 : Int) < (j : Int)) = false := decide_eq_false (by omega)
      have gzn : decide (0 < j) = false := decide_eq_false (by omega)
      clear h0
      have HWC := Lib.hid HWA.out
      have HWCB := Lib.hid HWAA.out
      obtain ⟨LC, hLC⟩ : ∃ LC, LJ = LC := ⟨_, rfl⟩
      have HLC2 := Lib.hid hLC
      rw [hLC] at HWC HWCB
      have HLC := Lib.hid (show LC.length + 2000 * size y ≤ l.length + 2000 * size ⟨o, nm, a, f, t, k⟩ by rw [← hLC]; have := HLRK.out; omega)
      clear hLC
      have HCALL := Lib.hid (HREC.out y HYS.out b LC (wr.alloc (.cells #[.int .i64 y.f0, .string y.f1, .slice A3 y.f2.length c3, .int .i64 y.f3, .int .i64 y.f4, .slice A6 y.f5.length c6] 32)) _ (Kd.FK_step HQF.out (fun k hk _ => HWCB.out.2.1.block k hk)) HWC.out.1 (HWC.out.tb HTB1.out HGG.out) HGG.out HYL.out (by have := HLC.out; have := HLEN.out; omega))
      go_wp2_with fail
      refine HCALL.out.mono ?_
      rintro e w9 ⟨rfl, hw9⟩
      have HW9 := Lib.hid (HWC.out.step hw9.wrote)
      clear hw9
      go_wp2
      go_roundw
      case rel => exact ⟨j + 1, by go_num, hlt, by rw [HCN.out, ← List.append_assoc, HLJ.out, if_pos HJ0.out]; have h9 := HW9.out; rw [← HLC2.out] at h9; exact h9⟩
      case measure => simp [intOf]; omega
     ·have HJ0 := Lib.hid h0
      have gz : decide ((0 : Int) < (j : Int)) = true := decide_eq_true (by omega)
      have gzn : decide (0 < j) = true := decide_eq_true (by omega)
      clear h0
      go_wp2_with fail
      refine (ws_any ⟨#[44, 32]⟩ HWA.out.1 (by have := HLRK.out; have := HLEN.out; simp; omega)).mono ?_
      rintro e w7 ⟨rfl, hw7⟩
      have HWC := Lib.hid (HWA.out.step hw7)
      have HWCB := Lib.hid (HWAA.out.step hw7)
      have HR7 := Lib.hid (hw7.blk HR5.out (by decide) (by have := HWS.out; omega))
      obtain ⟨r0, r1, r2, r3, r4, r5⟩ := cells_of HR7.out
      clear hw7
      obtain ⟨LC, hLC⟩ : ∃ LC, LJ ++ (⟨#[44, 32]⟩ : ByteArray).data.toList = LC := ⟨_, rfl⟩
      have HLC2 := Lib.hid hLC
      rw [hLC] at HWC HWCB
      have HLC := Lib.hid (show LC.length + 2000 * size y ≤ l.length + 2000 * size ⟨o, nm, a, f, t, k⟩ by rw [← hLC]; have := HLRK.out; simp; omega)
      clear hLC q0 q1 q2 q3 q4 q5
      have HCALL := Lib.hid (HREC.out y HYS.out b LC w7 _ (Kd.FK_step HQF.out (fun k hk _ => HWCB.out.2.1.block k hk)) HWC.out.1 (HWC.out.tb HTB1.out HGG.out) HGG.out HYL.out (by have := HLC.out; have := HLEN.out; omega))
      go_wp2_with fail
      refine HCALL.out.mono ?_
      rintro e w9 ⟨rfl, hw9⟩
      have HW9 := Lib.hid (HWC.out.step hw9.wrote)
      clear hw9
      go_wp2
      go_roundw
      case rel => exact ⟨j + 1, by go_num, hlt, by rw [HCN.out, ← List.append_assoc, HLJ.out, if_neg HJ0.out]; have h9 := HW9.out; rw [← HLC2.out] at h9; simpa using h9⟩
      case measure => simp [intOf]; omega
    ·have hjk : j = k.length := by omega
     subst hjk
     clear hlt hj
     rw [List.take_length] at HWK
     go_wp2_with fail
     refine (wb_any 41 41 rfl HWK.out.1 (by have h1 := commas_sum (k.map textB); have h2 := textBs_len k HKAL.out; rw [textBs_map] at h2; have := HLR.out; have := HLEN.out; have := size_is ⟨o, nm, a, f, t, k⟩; dsimp only at this; rw [List.length_append]; omega)).mono ?_
     rintro e w9 ⟨rfl, hw9⟩
     have HW9 := Lib.hid (HWK.out.step hw9)
     clear hw9
     go_wp2
     go_end0
     exact ⟨rfl, by have h9 := HWB.out.base HW9.out; rw [HTX.out]; rw [← HLL2.out, ← HLL1.out] at h9; simpa using h9⟩
set_option maxRecDepth 1000000 in
set_option maxHeartbeats 8000000 in
theorem wr_some {n : Nat} (hrec : WrTo n) {o : Int} (ho : o = 9) {nm : ByteArray} {a : List S84} {f t : Int} {k : List S32} (hx : size ⟨o, nm, a, f, t, k⟩ < n + 1) {b : Nat} {l : List UInt8} {w : World} {cs : List Value} (hF : Kd.FK k32 w (fun k => k < b) ⟨o, nm, a, f, t, k⟩ cs) (hBI : BIs b (Lib.byteCells l) w) (hTB : TB w) (hg : ∀ g, Tryz.prog.globalNamed "internal/strconv.uint64pow10" = some g → g < b) (hal : Al ⟨o, nm, a, f, t, k⟩) (hlen : l.length + 2000 * size ⟨o, nm, a, f, t, k⟩ ≤ 1000000000) :
  Calls Tryz.prog 53 #[.pointer (some ⟨b, 0, none⟩), .agg cs.toArray] w fun e w' => e = .returned (.tuple #[]) ∧ Wr b (l ++ textB ⟨o, nm, a, f, t, k⟩) w w' := by
 obtain ⟨A2, c2, A5, c5, rfl, _, g2, l5, g5⟩ := k32_openF hF
 have HREC := Lib.hid hrec
 have HG2 := Lib.hid g2
 have HG5 := Lib.hid g5
 have HBL := Lib.hid (bis_lt hBI)
 have HWB := Lib.hid ((Wr.refl hBI).alloc (.cells #[.int .i64 o, .string nm, .slice A2 a.length c2, .int .i64 f, .int .i64 t, .slice A5 k.length c5] 32))
 have HW0 := Lib.hid (Wr.refl HWB.out.1)
 have HTB := Lib.hid (HWB.out.tb hTB hg)
 have HBX := Lib.hid (blk_new w (.cells #[.int .i64 o, .string nm, .slice A2 a.length c2, .int .i64 f, .int .i64 t, .slice A5 k.length c5] 32))
 have HGG := Lib.hid hg
 have HNM := Lib.hid (al_nm hal)
 have HKAL := Lib.hid ((al_is _).1 hal).2
 have HLEN := Lib.hid hlen
 have HSZ := Lib.hid hx
 have ha5 : a.length ≤ 9223372036854775807 := (Kd.F_now g2).2.1
 have hk5 : k.length ≤ 9223372036854775807 := (Kd.F_now g5).2.1
 have z1 : (o == (1 : Int)) = false := by simp; omega
 have z2 : (o == (2 : Int)) = false := by simp; omega
 have z3 : (o == (3 : Int)) = false := by simp; omega
 have z8 : (o == (8 : Int)) = false := by simp; omega
 have z9 : (o == (9 : Int)) = true := by simp; omega
 have HO := Lib.hid ho
 have HHL := Lib.hid (show (headB ⟨o, nm, a, f, t, k⟩).length ≤ 120 from headB_len HNM.out)
 have HTX := Lib.hid (show textB ⟨o, nm, a, f, t, k⟩ = headB ⟨o, nm, a, f, t, k⟩ ++ 40 :: (commas (a.map refB) ++ commas (k.map textB) ++ [41]) by rw [textB_is]; exact if_neg (by show ¬ (o = 1 ∨ o = 2); omega))
 clear hrec hF hBI hTB hg hal hlen hx g2 g5 l5 ho
 dsimp only at *
 obtain ⟨w1, hw1⟩ : ∃ w1, (w.alloc (.cells #[.int .i64 o, .string nm, .slice A2 a.length c2, .int .i64 f, .int .i64 t, .slice A5 k.length c5] 32)) = w1 := ⟨_, rfl⟩
 have HW10 := Lib.hid hw1
 rw [hw1] at HW0 HWB HTB HBX
 clear hw1
 have HTB1 := Lib.hid HTB.out
 have HBX1 := Lib.hid HBX.out
 go_enter Tryz.func53, Tryz.ntmps53
 obtain ⟨s, hs, hsk⟩ := kw_f o
 have HHE := Lib.hid (show headB ⟨o, nm, a, f, t, k⟩ = s.data.toList ++ 32 :: nm.data.toList by rw [hsk]; unfold headB; rw [if_neg (by show ¬ o = 3; have := HO.out; omega), if_pos (by show (o = 8 ∨ o = 9); have := HO.out; omega)])
 have HSK := Lib.hid hsk
 have HKW := Lib.hid hs
 clear hs hsk
 have hsz1 : s.size ≤ 9 := by have h1 := congrArg List.length HSK.out; have h2 := kwd_len o; have e : s.data.toList.length = s.size := rfl; omega
 have hsz2 : nm.size ≤ 100 := HNM.out.name
 have hcat : ∀ W : World, (Op.stringOp .add s ⟨#[32]⟩).run Tryz.prog W = .ok (.string (s ++ ⟨#[32]⟩)) W := fun W => run_string_add_sum W _ _ (by show s.size + 1 ≤ _; omega)
 have hcat2 : ∀ W : World, (Op.stringOp .add (s ++ ⟨#[32]⟩) nm).run Tryz.prog W = .ok (.string (s ++ ⟨#[32]⟩ ++ nm)) W := fun W => run_string_add_sum W _ _ (by rw [ByteArray.size_append]; show s.size + 1 + nm.size ≤ _; omega)
 have hc1 : ¬ (9223372036854775807 < s.size + 1) := by omega
 have hc2 : ¬ (9223372036854775807 < s.size + 1 + nm.size) := by omega
 have HCT := Lib.hid (show (s ++ ⟨#[32]⟩ ++ nm).data.toList = s.data.toList ++ 32 :: nm.data.toList by rw [ByteArray.data_append, Array.toList_append, ByteArray.data_append, Array.toList_append]; simp)
 obtain ⟨k0, k1, k2, k3, k4, k5⟩ := cells_of HBX1.out
 have HC0 := Lib.hid (show ∀ W, Wr b l w1 W → W.cell? ⟨w.heap.size, 0, none⟩ = some (.int .i64 o) ∧ W.cell? ⟨w.heap.size, 1, none⟩ = some (.string nm) from fun W hW => by have h := cells_of (hW.blk HBX1.out (by decide) (by have := HBL.out; omega)); exact ⟨h.1, h.2.1⟩)
 clear k0 k1 k2 k3 k4 k5
 go_wp2_with fail
 rw [HW10.out]
 refine start_ (n := 9) (S := fun w' => Wr b l w1 w') (ds := [8]) #[false, false, false, false, false, false, false, false, false] (by kernel_rfl) rfl rfl HW0.out.drew (fun hHeld => ?_)
 generalize w1.drew = w3 at hHeld ⊢
 refine pure_ (i := 0) (N := (some 37)) (v := ?_) (a' := ?_) #[true, false, false, false, false, false, false, false, false] rfl rfl (by kernel_rfl) (fun _ _ _ h => h) (Or.inl ⟨by rfl, ?_⟩) ?_ ?_
 rotate_left
 ·intro w'
  go_simp
  with_reducible rfl
 rotate_left
 ·simp only [Act.put, List.setIfInBounds_toArray, List.set_cons_zero, List.set_cons_succ]
  rfl
 refine pure_ (i := 1) (N := (some 38)) (v := ?_) (a' := ?_) #[true, true, false, false, false, false, false, false, false] rfl rfl (by kernel_rfl) (fun _ _ _ h => h) (Or.inl ⟨by rfl, ?_⟩) ?_ ?_
 rotate_left
 ·intro w'
  go_simp
  with_reducible rfl
 rotate_left
 ·simp only [Act.put, List.setIfInBounds_toArray, List.set_cons_zero, List.set_cons_succ]
  rfl
 refine take_ (i := 2) (N := (some 39)) (v := ?_) (a' := ?_) #[true, true, true, false, false, false, false, false, false] rfl rfl (by kernel_rfl) (fun _ _ _ h => h) (Or.inl ⟨by rfl, ?_⟩) hHeld ?_ ?_
 rotate_left
 ·rintro w' s0
  obtain ⟨p0, p1⟩ := HC0.out _ s0
  go_simp
  with_reducible rfl
 rotate_left
 ·simp only [Act.put, List.setIfInBounds_toArray, List.set_cons_zero, List.set_cons_succ]
  rfl
 refine pure_ (i := 5) (N := (some 42)) (v := ?_) (a' := ?_) #[true, true, true, false, false, true, false, false, false] rfl rfl (by kernel_rfl) (fun _ _ _ h => h) (Or.inl ⟨by rfl, ?_⟩) ?_ ?_
 rotate_left
 ·intro w'
  go_simp
  with_reducible rfl
 rotate_left
 ·simp only [Act.put, List.setIfInBounds_toArray, List.set_cons_zero, List.set_cons_succ]
  rfl
 refine take_ (i := 6) (N := (some 43)) (v := ?_) (a' := ?_) #[true, true, true, false, false, true, true, false, false] rfl rfl (by kernel_rfl) (fun _ _ _ h => h) (Or.inl ⟨by rfl, ?_⟩) hHeld ?_ ?_
 rotate_left
 ·rintro w' s0
  obtain ⟨p0, p1⟩ := HC0.out _ s0
  go_simp
  with_reducible rfl
 rotate_left
 ·simp only [Act.put, List.setIfInBounds_toArray, List.set_cons_zero, List.set_cons_succ]
  rfl
 refine one_ (i := 3) (N := (some 40)) #[true, true, true, true, false, true, true, false, false] rfl rfl (by kernel_rfl) (by decide) (fun K hK => ?_)
 go_simp
 refine (formula_keyword.calls o s _ HKW.out).mono ?_
 rintro e w4 ⟨rfl, hd⟩
 refine hK.out _ _ (hHeld.drawn hd) (fun hHeld => ?_)
 clear hK K
 (try simp only [Act.put, List.setIfInBounds_toArray, List.set_cons_zero, List.set_cons_succ])
 refine pure_ (i := 4) (N := (some 41)) (v := ?_) (a' := ?_) #[true, true, true, true, true, true, true, false, false] rfl rfl (by kernel_rfl) (fun _ _ _ h => h) (Or.inl ⟨by rfl, ?_⟩) ?_ ?_
 rotate_left
 ·intro w'
  go_simp
  with_reducible rfl
 rotate_left
 ·simp only [Act.put, List.setIfInBounds_toArray, List.set_cons_zero, List.set_cons_succ]
  rfl
 refine pure_ (i := 7) (N := (some 44)) (v := ?_) (a' := ?_) #[true, true, true, true, true, true, true, true, false] rfl rfl (by kernel_rfl) (fun _ _ _ h => h) (Or.inl ⟨by rfl, ?_⟩) ?_ ?_
 rotate_left
 ·intro w'
  go_simp
  with_reducible rfl
 rotate_left
 ·simp only [Act.put, List.setIfInBounds_toArray, List.set_cons_zero, List.set_cons_succ]
  rfl
 refine last_ (i := 8) (N := (some 45)) #[true, true, true, true, true, true, true, true, true] rfl rfl (by kernel_rfl) (by decide) (fun K hK => ?_)
 go_simp
 obtain ⟨S2, hS2⟩ : ∃ S2, s ++ (⟨#[32]⟩ : ByteArray) ++ nm = S2 := ⟨_, rfl⟩
 rw [hS2] at HCT ⊢
 clear hS2
 refine (ws_any S2 hHeld.1 (by have h1 := congrArg List.length HCT.out; rw [List.length_append, List.length_cons] at h1; have e1 : s.data.toList.length = s.size := rfl; have e2 : nm.data.toList.length = nm.size := rfl; have := HLEN.out; omega)).mono ?_
 rintro e w5 ⟨rfl, hw⟩
 have HWH := Lib.hid (hHeld.step hw)
 rw [HCT.out, ← HHE.out] at HWH
 clear hw
 refine hK.out _ _ ?_
 clear hK K
 (try simp only [Act.put, List.setIfInBounds_toArray, List.set_cons_zero, List.set_cons_succ])
 refine done_ (by kernel_rfl) ?_
 have HBX5 := Lib.hid (HWH.out.blk HBX1.out (by decide) (by have := HBL.out; omega))
 obtain ⟨k0, k1, k2, k3, k4, k5⟩ := cells_of HBX5.out
 go_wp2_with fail
 refine (wb_any 40 40 rfl HWH.out.1 (by have := HHL.out; have := HLEN.out; rw [List.length_append]; omega)).mono ?_
 rintro e w6 ⟨rfl, hw⟩
 have HW6 := Lib.hid (HWH.out.step hw)
 have HBX6 := Lib.hid (HW6.out.blk HBX1.out (by decide) (by have := HBL.out; omega))
 clear hw k0 k1 k2 k3 k4 k5
 obtain ⟨k0, k1, k2, k3, k4, k5⟩ := cells_of HBX6.out
 have HL1 := Lib.hid (show (l ++ headB ⟨o, nm, a, f, t, k⟩ ++ [40]).length ≤ l.length + 121 by have := HHL.out; simp only [List.length_append, List.length_cons, List.length_nil]; omega)
 obtain ⟨L1, hL1⟩ : ∃ L1, l ++ headB ⟨o, nm, a, f, t, k⟩ ++ [40] = L1 := ⟨_, rfl⟩
 rw [hL1] at HW6 HL1
 have HLL1 := Lib.hid hL1
 clear hL1
 go_wp2
 go_loopw [68] (fun v68 wr => RefRel b L1 a w1 v68 wr) (fun v68 _ => a.length - (intOf v68).toNat)
 case atStart => exact ⟨0, rfl, Nat.zero_le _, by simpa [commas] using HW6.out⟩
 case round =>
  obtain ⟨j, rfl, hj, hwr⟩ := hrel
  have HWR := Lib.hid hwr
  clear hwr k0 k1 k2 k3 k4 k5
  have HCL := Lib.hid (show (commas ((a.take j).map refB)).length ≤ 1020 from refs_len (fun r hr => refB_len (HNM.out.ref r hr)) HNM.out.refs j)
  have HLR := Lib.hid (show (L1 ++ commas ((a.take j).map refB)).length ≤ l.length + 1141 by rw [List.length_append]; have := HCL.out; have := HL1.out; omega)
  by_cases hlt : j < a.length
  ·have hj0 : 0 ≤ (j : Int) := by omega
   have hj1 : (j : Int) < (a.length : Int) := by omega
   obtain ⟨ad, e1, q0, q1, q2⟩ := ref_at (Kd.F_now (Kd.F_step HG2.out (fun k hk _ => (HWB.out.base HWR.out).2.1.block k hk))) j hlt
   subst e1
   have HCN := Lib.hid (commas_next refB hlt)
   have HRM := Lib.hid (HNM.out.ref _ (List.getElem_mem hlt))
   obtain ⟨r, hr⟩ : ∃ r, a[j] = r := ⟨_, rfl⟩
   rw [hr] at q0 q1 q2 HCN HRM
   clear hr
   have HR5 := Lib.hid (blk_new wr (.cells #[.int .i64 r.f0, .int .i64 r.f1, .string r.f2] 84))
   have HWA := Lib.hid (HWR.out.alloc (.cells #[.int .i64 r.f0, .int .i64 r.f1, .string r.f2] 84))
   have HWS := Lib.hid (show b < wr.heap.size from bis_lt HWR.out.1)
   obtain ⟨LJ, hLJ⟩ : ∃ LJ, L1 ++ commas ((a.take j).map refB) = LJ := ⟨_, rfl⟩
   rw [hLJ] at HWA HLR
   have HLJ := Lib.hid hLJ
   clear hLJ HCL
   by_cases h0 : j = 0
   ·have HJ0 := Lib.hid h0
    have gz : decide ((0 : Int) < (j : Int)) = false := decide_eq_false (by omega)
    have gzn : decide (0 < j) = false := decide_eq_false (by omega)
    clear h0
    have HWC := Lib.hid HWA.out
    obtain ⟨LC, hLC⟩ : ∃ LC, LJ = LC := ⟨_, rfl⟩
    have HLC2 := Lib.hid hLC
    rw [hLC] at HWC
    have HLC := Lib.hid (show LC.length ≤ l.length + 1143 by rw [← hLC]; have := HLR.out; omega)
    clear hLC
    by_cases h1 : r.f0 = 1
    ·have HRF := Lib.hid (show refB r = 35 :: Lib.itoa r.f1 by unfold refB; rw [if_pos h1])
     have u1 : (r.f0 == (1 : Int)) = true := by simpa using h1
     clear h1
     go_wp2_with fail
     refine (itoa_any r.f1 HRM.out.2.1 HRM.out.2.2 (HWC.out.tb HTB1.out HGG.out)).mono ?_
     rintro e w8 ⟨rfl, kk, os, hgr⟩
     have HWI := Lib.hid (show Wr b LC w1 w8 by rw [hgr]; exact HWC.out.itoa)
     clear hgr
     obtain ⟨S, hS⟩ : ∃ S : ByteArray, (⟨(Lib.itoa r.f1).toArray⟩ : ByteArray) = S := ⟨_, rfl⟩
     rw [hS]
     have HSS := Lib.hid (show S.data.toList = Lib.itoa r.f1 by rw [← hS])
     have hsz : S.size ≤ 21 := by rw [← hS]; have := Lib.itoa_length_le r.f1 HRM.out.2.1 HRM.out.2.2; simpa [ByteArray.size] using this
     clear hS
     have hcat : ∀ W : World, (Op.stringOp .add ⟨#[35]⟩ S).run Tryz.prog W = .ok (.string (⟨#[35]⟩ ++ S)) W := fun W => run_string_add_sum W _ _ (by show 1 + S.size ≤ _; omega)
     have hc1 : ¬ (9223372036854775807 < 1 + S.size) := by omega
     have hc2 : ¬ (9223372036854775807 < (⟨#[35]⟩ : ByteArray).size + S.size) := by show ¬ (9223372036854775807 < 1 + S.size); omega
     have HCT := Lib.hid (show ((⟨#[35]⟩ : ByteArray) ++ S).data.toList = 35 :: Lib.itoa r.f1 by rw [ByteArray.data_append, Array.toList_append, HSS.out]; rfl)
     go_wp2_with fail
     obtain ⟨S2, hS2⟩ : ∃ S2, (⟨#[35]⟩ : ByteArray) ++ S = S2 := ⟨_, rfl⟩
     rw [hS2] at HCT ⊢
     clear hS2
     refine (ws_any S2 HWI.out.1 (by have h1 := congrArg List.length HCT.out; rw [List.length_cons] at h1; have := Lib.itoa_length_le r.f1 HRM.out.2.1 HRM.out.2.2; have := HLC.out; have := HLEN.out; omega)).mono ?_
     rintro e w9 ⟨rfl, hw9⟩
     have HW9 := Lib.hid (HWI.out.step hw9)
     clear hw9
     go_wp2
     go_roundw
     case rel => exact ⟨j + 1, by go_num, hlt, by rw [HCN.out, ← List.append_assoc, HLJ.out, if_pos HJ0.out, HRF.out]; have h9 := HW9.out; rw [← HLC2.out, HCT.out] at h9; exact h9⟩
     case measure => simp [intOf]; omega
    ·by_cases h3 : r.f0 = 3
     ·have HRF := Lib.hid (show refB r = 64 :: Lib.itoa r.f1 by unfold refB; rw [if_neg h1, if_pos h3])
      have u1 : (r.f0 == (1 : Int)) = false := by simpa using h1
      have u3 : (r.f0 == (3 : Int)) = true := by simpa using h3
      clear h1 h3
      go_wp2_with fail
      refine (itoa_any r.f1 HRM.out.2.1 HRM.out.2.2 (HWC.out.tb HTB1.out HGG.out)).mono ?_
      rintro e w8 ⟨rfl, kk, os, hgr⟩
      have HWI := Lib.hid (show Wr b LC w1 w8 by rw [hgr]; exact HWC.out.itoa)
      clear hgr
      obtain ⟨S, hS⟩ : ∃ S : ByteArray, (⟨(Lib.itoa r.f1).toArray⟩ : ByteArray) = S := ⟨_, rfl⟩
      rw [hS]
      have HSS := Lib.hid (show S.data.toList = Lib.itoa r.f1 by rw [← hS])
      have hsz : S.size ≤ 21 := by rw [← hS]; have := Lib.itoa_length_le r.f1 HRM.out.2.1 HRM.out.2.2; simpa [ByteArray.size] using this
      clear hS
      have hcat : ∀ W : World, (Op.stringOp .add ⟨#[64]⟩ S).run Tryz.prog W = .ok (.string (⟨#[64]⟩ ++ S)) W := fun W => run_string_add_sum W _ _ (by show 1 + S.size ≤ _; omega)
      have hc1 : ¬ (9223372036854775807 < 1 + S.size) := by omega
      have hc2 : ¬ (9223372036854775807 < (⟨#[64]⟩ : ByteArray).size + S.size) := by show ¬ (9223372036854775807 < 1 + S.size); omega
      have HCT := Lib.hid (show ((⟨#[64]⟩ : ByteArray) ++ S).data.toList = 64 :: Lib.itoa r.f1 by rw [ByteArray.data_append, Array.toList_append, HSS.out]; rfl)
      go_wp2_with fail
      obtain ⟨S2, hS2⟩ : ∃ S2, (⟨#[64]⟩ : ByteArray) ++ S = S2 := ⟨_, rfl⟩
      rw [hS2] at HCT ⊢
      clear hS2
      refine (ws_any S2 HWI.out.1 (by have h1 := congrArg List.length HCT.out; rw [List.length_cons] at h1; have := Lib.itoa_length_le r.f1 HRM.out.2.1 HRM.out.2.2; have := HLC.out; have := HLEN.out; omega)).mono ?_
      rintro e w9 ⟨rfl, hw9⟩
      have HW9 := Lib.hid (HWI.out.step hw9)
      clear hw9
      go_wp2
      go_roundw
      case rel => exact ⟨j + 1, by go_num, hlt, by rw [HCN.out, ← List.append_assoc, HLJ.out, if_pos HJ0.out, HRF.out]; have h9 := HW9.out; rw [← HLC2.out, HCT.out] at h9; exact h9⟩
      case measure => simp [intOf]; omega
     ·by_cases h4 : r.f0 = 4
      ·have HRF := Lib.hid (show refB r = Lib.itoa r.f1 by unfold refB; rw [if_neg h1, if_neg h3, if_pos h4])
       have u1 : (r.f0 == (1 : Int)) = false := by simpa using h1
       have u3 : (r.f0 == (3 : Int)) = false := by simpa using h3
       have u4 : (r.f0 == (4 : Int)) = true := by simpa using h4
       clear h1 h3 h4
       go_wp2_with fail
       refine (itoa_any r.f1 HRM.out.2.1 HRM.out.2.2 (HWC.out.tb HTB1.out HGG.out)).mono ?_
       rintro e w8 ⟨rfl, kk, os, hgr⟩
       have HWI := Lib.hid (show Wr b LC w1 w8 by rw [hgr]; exact HWC.out.itoa)
       clear hgr
       obtain ⟨S, hS⟩ : ∃ S : ByteArray, (⟨(Lib.itoa r.f1).toArray⟩ : ByteArray) = S := ⟨_, rfl⟩
       rw [hS]
       have HSS := Lib.hid (show S.data.toList = Lib.itoa r.f1 by rw [← hS])
       have hsz : S.size ≤ 21 := by rw [← hS]; have := Lib.itoa_length_le r.f1 HRM.out.2.1 HRM.out.2.2; simpa [ByteArray.size] using this
       clear hS
       go_wp2_with fail
       refine (ws_any S HWI.out.1 (by rw [HSS.out]; have := Lib.itoa_length_le r.f1 HRM.out.2.1 HRM.out.2.2; have := HLC.out; have := HLEN.out; omega)).mono ?_
       rintro e w9 ⟨rfl, hw9⟩
       have HW9 := Lib.hid (HWI.out.step hw9)
       clear hw9
       go_wp2
       go_roundw
       case rel => exact ⟨j + 1, by go_num, hlt, by rw [HCN.out, ← List.append_assoc, HLJ.out, if_pos HJ0.out, HRF.out]; have h9 := HW9.out; rw [← HLC2.out, HSS.out] at h9; exact h9⟩
       case measure => simp [intOf]; omega
      ·have HRF := Lib.hid (show refB r = r.f2.data.toList by unfold refB; rw [if_neg h1, if_neg h3, if_neg h4])
       have u1 : (r.f0 == (1 : Int)) = false := by simpa using h1
       have u3 : (r.f0 == (3 : Int)) = false := by simpa using h3
       have u4 : (r.f0 == (4 : Int)) = false := by simpa using h4
       clear h1 h3 h4
       have HWI := Lib.hid HWC.out
       go_wp2_with fail
       refine (ws_any r.f2 HWI.out.1 (by have h := HRM.out.1; have := HLC.out; have := HLEN.out; have e : r.f2.data.toList.length = r.f2.size := rfl; omega)).mono ?_
       rintro e w9 ⟨rfl, hw9⟩
       have HW9 := Lib.hid (HWI.out.step hw9)
       clear hw9
       go_wp2
       go_roundw
       case rel => exact ⟨j + 1, by go_num, hlt, by rw [HCN.out, ← List.append_assoc, HLJ.out, if_pos HJ0.out, HRF.out]; have h9 := HW9.out; rw [← HLC2.out] at h9; exact h9⟩
       case measure => simp [intOf]; omega
   ·have HJ0 := Lib.hid h0
    have gz : decide ((0 : Int) < (j : Int)) = true := decide_eq_true (by omega)
    have gzn : decide (0 < j) = true := decide_eq_true (by omega)
    clear h0
    go_wp2_with fail
    refine (ws_any ⟨#[44, 32]⟩ HWA.out.1 (by have := HLR.out; have := HLEN.out; simp; omega)).mono ?_
    rintro e w7 ⟨rfl, hw7⟩
    have HWC := Lib.hid (HWA.out.step hw7)
    have HR7 := Lib.hid (hw7.blk HR5.out (by decide) (by have := HWS.out; omega))
    have r70 : w7.cell? ⟨wr.heap.size, 0, none⟩ = some (.int .i64 r.f0) := blk_cell HR7.out 0
    have r71 : w7.cell? ⟨wr.heap.size, 1, none⟩ = some (.int .i64 r.f1) := blk_cell HR7.out 1
    have r72 : w7.cell? ⟨wr.heap.size, 2, none⟩ = some (.string r.f2) := blk_cell HR7.out 2
    clear hw7
    obtain ⟨LC, hLC⟩ : ∃ LC, LJ ++ (⟨#[44, 32]⟩ : ByteArray).data.toList = LC := ⟨_, rfl⟩
    have HLC2 := Lib.hid hLC
    rw [hLC] at HWC
    have HLC := Lib.hid (show LC.length ≤ l.length + 1143 by rw [← hLC]; have := HLR.out; simp; omega)
    clear hLC
    by_cases h1 : r.f0 = 1
    ·have HRF := Lib.hid (show refB r = 35 :: Lib.itoa r.f1 by unfold refB; rw [if_pos h1])
     have u1 : (r.f0 == (1 : Int)) = true := by simpa using h1
     clear h1
     go_wp2_with fail
     refine (itoa_any r.f1 HRM.out.2.1 HRM.out.2.2 (HWC.out.tb HTB1.out HGG.out)).mono ?_
     rintro e w8 ⟨rfl, kk, os, hgr⟩
     have HWI := Lib.hid (show Wr b LC w1 w8 by rw [hgr]; exact HWC.out.itoa)
     clear hgr
     obtain ⟨S, hS⟩ : ∃ S : ByteArray, (⟨(Lib.itoa r.f1).toArray⟩ : ByteArray) = S := ⟨_, rfl⟩
     rw [hS]
     have HSS := Lib.hid (show S.data.toList = Lib.itoa r.f1 by rw [← hS])
     have hsz : S.size ≤ 21 := by rw [← hS]; have := Lib.itoa_length_le r.f1 HRM.out.2.1 HRM.out.2.2; simpa [ByteArray.size] using this
     clear hS
     have hcat : ∀ W : World, (Op.stringOp .add ⟨#[35]⟩ S).run Tryz.prog W = .ok (.string (⟨#[35]⟩ ++ S)) W := fun W => run_string_add_sum W _ _ (by show 1 + S.size ≤ _; omega)
     have hc1 : ¬ (9223372036854775807 < 1 + S.size) := by omega
     have hc2 : ¬ (9223372036854775807 < (⟨#[35]⟩ : ByteArray).size + S.size) := by show ¬ (9223372036854775807 < 1 + S.size); omega
     have HCT := Lib.hid (show ((⟨#[35]⟩ : ByteArray) ++ S).data.toList = 35 :: Lib.itoa r.f1 by rw [ByteArray.data_append, Array.toList_append, HSS.out]; rfl)
     go_wp2_with fail
     obtain ⟨S2, hS2⟩ : ∃ S2, (⟨#[35]⟩ : ByteArray) ++ S = S2 := ⟨_, rfl⟩
     rw [hS2] at HCT ⊢
     clear hS2
     refine (ws_any S2 HWI.out.1 (by have h1 := congrArg List.length HCT.out; rw [List.length_cons] at h1; have := Lib.itoa_length_le r.f1 HRM.out.2.1 HRM.out.2.2; have := HLC.out; have := HLEN.out; omega)).mono ?_
     rintro e w9 ⟨rfl, hw9⟩
     have HW9 := Lib.hid (HWI.out.step hw9)
     clear hw9
     go_wp2
     go_roundw
     case rel => exact ⟨j + 1, by go_num, hlt, by rw [HCN.out, ← List.append_assoc, HLJ.out, if_neg HJ0.out, HRF.out]; have h9 := HW9.out; rw [← HLC2.out, HCT.out] at h9; simpa using h9⟩
     case measure => simp [intOf]; omega
    ·by_cases h3 : r.f0 = 3
     ·have HRF := Lib.hid (show refB r = 64 :: Lib.itoa r.f1 by unfold refB; rw [if_neg h1, if_pos h3])
      have u1 : (r.f0 == (1 : Int)) = false := by simpa using h1
      have u3 : (r.f0 == (3 : Int)) = true := by simpa using h3
      clear h1 h3
      go_wp2_with fail
      refine (itoa_any r.f1 HRM.out.2.1 HRM.out.2.2 (HWC.out.tb HTB1.out HGG.out)).mono ?_
      rintro e w8 ⟨rfl, kk, os, hgr⟩
      have HWI := Lib.hid (show Wr b LC w1 w8 by rw [hgr]; exact HWC.out.itoa)
      clear hgr
      obtain ⟨S, hS⟩ : ∃ S : ByteArray, (⟨(Lib.itoa r.f1).toArray⟩ : ByteArray) = S := ⟨_, rfl⟩
      rw [hS]
      have HSS := Lib.hid (show S.data.toList = Lib.itoa r.f1 by rw [← hS])
      have hsz : S.size ≤ 21 := by rw [← hS]; have := Lib.itoa_length_le r.f1 HRM.out.2.1 HRM.out.2.2; simpa [ByteArray.size] using this
      clear hS
      have hcat : ∀ W : World, (Op.stringOp .add ⟨#[64]⟩ S).run Tryz.prog W = .ok (.string (⟨#[64]⟩ ++ S)) W := fun W => run_string_add_sum W _ _ (by show 1 + S.size ≤ _; omega)
      have hc1 : ¬ (9223372036854775807 < 1 + S.size) := by omega
      have hc2 : ¬ (9223372036854775807 < (⟨#[64]⟩ : ByteArray).size + S.size) := by show ¬ (9223372036854775807 < 1 + S.size); omega
      have HCT := Lib.hid (show ((⟨#[64]⟩ : ByteArray) ++ S).data.toList = 64 :: Lib.itoa r.f1 by rw [ByteArray.data_append, Array.toList_append, HSS.out]; rfl)
      go_wp2_with fail
      obtain ⟨S2, hS2⟩ : ∃ S2, (⟨#[64]⟩ : ByteArray) ++ S = S2 := ⟨_, rfl⟩
      rw [hS2] at HCT ⊢
      clear hS2
      refine (ws_any S2 HWI.out.1 (by have h1 := congrArg List.length HCT.out; rw [List.length_cons] at h1; have := Lib.itoa_length_le r.f1 HRM.out.2.1 HRM.out.2.2; have := HLC.out; have := HLEN.out; omega)).mono ?_
      rintro e w9 ⟨rfl, hw9⟩
      have HW9 := Lib.hid (HWI.out.step hw9)
      clear hw9
      go_wp2
      go_roundw
      case rel => exact ⟨j + 1, by go_num, hlt, by rw [HCN.out, ← List.append_assoc, HLJ.out, if_neg HJ0.out, HRF.out]; have h9 := HW9.out; rw [← HLC2.out, HCT.out] at h9; simpa using h9⟩
      case measure => simp [intOf]; omega
     ·by_cases h4 : r.f0 = 4
      ·have HRF := Lib.hid (show refB r = Lib.itoa r.f1 by unfold refB; rw [if_neg h1, if_neg h3, if_pos h4])
       have u1 : (r.f0 == (1 : Int)) = false := by simpa using h1
       have u3 : (r.f0 == (3 : Int)) = false := by simpa using h3
       have u4 : (r.f0 == (4 : Int)) = true := by simpa using h4
       clear h1 h3 h4
       go_wp2_with fail
       refine (itoa_any r.f1 HRM.out.2.1 HRM.out.2.2 (HWC.out.tb HTB1.out HGG.out)).mono ?_
       rintro e w8 ⟨rfl, kk, os, hgr⟩
       have HWI := Lib.hid (show Wr b LC w1 w8 by rw [hgr]; exact HWC.out.itoa)
       clear hgr
       obtain ⟨S, hS⟩ : ∃ S : ByteArray, (⟨(Lib.itoa r.f1).toArray⟩ : ByteArray) = S := ⟨_, rfl⟩
       rw [hS]
       have HSS := Lib.hid (show S.data.toList = Lib.itoa r.f1 by rw [← hS])
       have hsz : S.size ≤ 21 := by rw [← hS]; have := Lib.itoa_length_le r.f1 HRM.out.2.1 HRM.out.2.2; simpa [ByteArray.size] using this
       clear hS
       go_wp2_with fail
       refine (ws_any S HWI.out.1 (by rw [HSS.out]; have := Lib.itoa_length_le r.f1 HRM.out.2.1 HRM.out.2.2; have := HLC.out; have := HLEN.out; omega)).mono ?_
       rintro e w9 ⟨rfl, hw9⟩
       have HW9 := Lib.hid (HWI.out.step hw9)
       clear hw9
       go_wp2
       go_roundw
       case rel => exact ⟨j + 1, by go_num, hlt, by rw [HCN.out, ← List.append_assoc, HLJ.out, if_neg HJ0.out, HRF.out]; have h9 := HW9.out; rw [← HLC2.out, HSS.out] at h9; simpa using h9⟩
       case measure => simp [intOf]; omega
      ·have HRF := Lib.hid (show refB r = r.f2.data.toList by unfold refB; rw [if_neg h1, if_neg h3, if_neg h4])
       have u1 : (r.f0 == (1 : Int)) = false := by simpa using h1
       have u3 : (r.f0 == (3 : Int)) = false := by simpa using h3
       have u4 : (r.f0 == (4 : Int)) = false := by simpa using h4
       clear h1 h3 h4
       have HWI := Lib.hid HWC.out
       go_wp2_with fail
       refine (ws_any r.f2 HWI.out.1 (by have h := HRM.out.1; have := HLC.out; have := HLEN.out; have e : r.f2.data.toList.length = r.f2.size := rfl; omega)).mono ?_
       rintro e w9 ⟨rfl, hw9⟩
       have HW9 := Lib.hid (HWI.out.step hw9)
       clear hw9
       go_wp2
       go_roundw
       case rel => exact ⟨j + 1, by go_num, hlt, by rw [HCN.out, ← List.append_assoc, HLJ.out, if_neg HJ0.out, HRF.out]; have h9 := HW9.out; rw [← HLC2.out] at h9; simpa using h9⟩
       case measure => simp [intOf]; omega
  ·have hja : j = a.length := by omega
   subst hja
   clear hlt hj
   have HBX7 := Lib.hid (HWR.out.blk HBX1.out (by decide) (by have := HBL.out; omega))
   obtain ⟨k0, k1, k2, k3, k4, k5⟩ := cells_of HBX7.out
   rw [List.take_length] at HWR HLR HCL
   obtain ⟨L2, hL2⟩ : ∃ L2, L1 ++ commas (a.map refB) = L2 := ⟨_, rfl⟩
   rw [hL2] at HWR HLR
   have HLL2 := Lib.hid hL2
   clear hL2 HCL
   go_wp2
   go_loopw [110] (fun v110 wr => KidRel b L2 k w1 v110 wr) (fun v110 _ => k.length - (intOf v110).toNat)
   case atStart => exact ⟨0, rfl, Nat.zero_le _, by simpa [commas] using HWR.out⟩
   case round =>
    obtain ⟨j, rfl, hj, hwr⟩ := hrel
    have HWK := Lib.hid hwr
    clear hwr k0 k1 k2 k3 k4 k5
    by_cases hlt : j < k.length
    ·have hj0 : 0 ≤ (j : Int) := by omega
     have hj1 : (j : Int) < (k.length : Int) := by omega
     obtain ⟨ad, A3, c3, A6, c6, e4, q0, q1, q2, q3, q4, q5, qF⟩ := form_F (Kd.F_step HG5.out (fun k hk _ => (HWB.out.base HWK.out).2.1.block k hk)) (Below.refl _ _) j hlt
     subst e4
     have HCN := Lib.hid (commas_next textB hlt)
     have HKLN := Lib.hid (kids_len HKAL.out hlt)
     have hmem : k[j] ∈ k := List.getElem_mem hlt
     obtain ⟨y, hy⟩ : ∃ y, k[j] = y := ⟨_, rfl⟩
     rw [hy] at q0 q1 q2 q3 q4 q5 qF hmem HCN HKLN
     clear hy
     have HQF := Lib.hid qF
     have HYL := Lib.hid (HKAL.out y hmem)
     have HYS := Lib.hid (show size y < n by have := kid_lt (x := ⟨o, nm, a, f, t, k⟩) hmem; have := HSZ.out; omega)
     have HXS := Lib.hid (show size ⟨o, nm, a, f, t, k⟩ = 1 + size.sizes k from size_is ⟨o, nm, a, f, t, k⟩)
     have HR5 := Lib.hid (blk_new wr (.cells #[.int .i64 y.f0, .string y.f1, .slice A3 y.f2.length c3, .int .i64 y.f3, .int .i64 y.f4, .slice A6 y.f5.length c6] 32))
     have HWA := Lib.hid (HWK.out.alloc (.cells #[.int .i64 y.f0, .string y.f1, .slice A3 y.f2.length c3, .int .i64 y.f3, .int .i64 y.f4, .slice A6 y.f5.length c6] 32))
     have HWAA := Lib.hid ((Wr.refl HWK.out.1).alloc (.cells #[.int .i64 y.f0, .string y.f1, .slice A3 y.f2.length c3, .int .i64 y.f3, .int .i64 y.f4, .slice A6 y.f5.length c6] 32))
     have HWS := Lib.hid (show b < wr.heap.size from bis_lt HWK.out.1)
     obtain ⟨LJ, hLJ⟩ : ∃ LJ, L2 ++ commas ((k.take j).map textB) = LJ := ⟨_, rfl⟩
     have HLRK := Lib.hid (show LJ.length + 2000 * size y + 857 ≤ l.length + 2000 * size ⟨o, nm, a, f, t, k⟩ by rw [← hLJ, List.length_append]; have := HKLN.out; have := HLR.out; have := HXS.out; omega)
     rw [hLJ] at HWA HWAA
     have HLJ := Lib.hid hLJ
     clear hLJ qF hmem
     by_cases h0 : j = 0
     ·have HJ0 := Lib.hid h0
      have gz : decide ((0 : Int) < (j : Int)) = false := decide_eq_false (by omega)
      have gzn : decide (0 < j) = false := decide_eq_false (by omega)
      clear h0
      have HWC := Lib.hid HWA.out
      have HWCB := Lib.hid HWAA.out
      obtain ⟨LC, hLC⟩ : ∃ LC, LJ = LC := ⟨_, rfl⟩
      have HLC2 := Lib.hid hLC
      rw [hLC] at HWC HWCB
      have HLC := Lib.hid (show LC.length + 2000 * size y ≤ l.length + 2000 * size ⟨o, nm, a, f, t, k⟩ by rw [← hLC]; have := HLRK.out; omega)
      clear hLC
      have HCALL := Lib.hid (HREC.out y HYS.out b LC (wr.alloc (.cells #[.int .i64 y.f0, .string y.f1, .slice A3 y.f2.length c3, .int .i64 y.f3, .int .i64 y.f4, .slice A6 y.f5.length c6] 32)) _ (Kd.FK_step HQF.out (fun k hk _ => HWCB.out.2.1.block k hk)) HWC.out.1 (HWC.out.tb HTB1.out HGG.out) HGG.out HYL.out (by have := HLC.out; have := HLEN.out; omega))
      go_wp2_with fail
      refine HCALL.out.mono ?_
      rintro e w9 ⟨rfl, hw9⟩
      have HW9 := Lib.hid (HWC.out.step hw9.wrote)
      clear hw9
      go_wp2
      go_roundw
      case rel => exact ⟨j + 1, by go_num, hlt, by rw [HCN.out, ← List.append_assoc, HLJ.out, if_pos HJ0.out]; have h9 := HW9.out; rw [← HLC2.out] at h9; exact h9⟩
      case measure => simp [intOf]; omega
     ·have HJ0 := Lib.hid h0
      have gz : decide ((0 : Int) < (j : Int)) = true := decide_eq_true (by omega)
      have gzn : decide (0 < j) = true := decide_eq_true (by omega)
      clear h0
      go_wp2_with fail
      refine (ws_any ⟨#[44, 32]⟩ HWA.out.1 (by have := HLRK.out; have := HLEN.out; simp; omega)).mono ?_
      rintro e w7 ⟨rfl, hw7⟩
      have HWC := Lib.hid (HWA.out.step hw7)
      have HWCB := Lib.hid (HWAA.out.step hw7)
      have HR7 := Lib.hid (hw7.blk HR5.out (by decide) (by have := HWS.out; omega))
      obtain ⟨r0, r1, r2, r3, r4, r5⟩ := cells_of HR7.out
      clear hw7
      obtain ⟨LC, hLC⟩ : ∃ LC, LJ ++ (⟨#[44, 32]⟩ : ByteArray).data.toList = LC := ⟨_, rfl⟩
      have HLC2 := Lib.hid hLC
      rw [hLC] at HWC HWCB
      have HLC := Lib.hid (show LC.length + 2000 * size y ≤ l.length + 2000 * size ⟨o, nm, a, f, t, k⟩ by rw [← hLC]; have := HLRK.out; simp; omega)
      clear hLC q0 q1 q2 q3 q4 q5
      have HCALL := Lib.hid (HREC.out y HYS.out b LC w7 _ (Kd.FK_step HQF.out (fun k hk _ => HWCB.out.2.1.block k hk)) HWC.out.1 (HWC.out.tb HTB1.out HGG.out) HGG.out HYL.out (by have := HLC.out; have := HLEN.out; omega))
      go_wp2_with fail
      refine HCALL.out.mono ?_
      rintro e w9 ⟨rfl, hw9⟩
      have HW9 := Lib.hid (HWC.out.step hw9.wrote)
      clear hw9
      go_wp2
      go_roundw
      case rel => exact ⟨j + 1, by go_num, hlt, by rw [HCN.out, ← List.append_assoc, HLJ.out, if_neg HJ0.out]; have h9 := HW9.out; rw [← HLC2.out] at h9; simpa using h9⟩
      case measure => simp [intOf]; omega
    ·have hjk : j = k.length := by omega
     subst hjk
     clear hlt hj
     rw [List.take_length] at HWK
     go_wp2_with fail
     refine (wb_any 41 41 rfl HWK.out.1 (by have h1 := commas_sum (k.map textB); have h2 := textBs_len k HKAL.out; rw [textBs_map] at h2; have := HLR.out; have := HLEN.out; have := size_is ⟨o, nm, a, f, t, k⟩; dsimp only at this; rw [List.length_append]; omega)).mono ?_
     rintro e w9 ⟨rfl, hw9⟩
     have HW9 := Lib.hid (HWK.out.step hw9)
     clear hw9
     go_wp2
     go_end0
     exact ⟨rfl, by have h9 := HWB.out.base HW9.out; rw [HTX.out]; rw [← HLL2.out, ← HLL1.out] at h9; simpa using h9⟩
end Go.Proofs.YtbahnpdgaoedmaaGreatDoor.Mm
