/- Memory, common part 12: Mwr4, Mwr5, Mtt, Mky. -/
import Derived.Test.YtbahnpdgaoedmaaGreatDoorE11
import Derived.Test.YtbahnpdgaoedmaaGreatDoorE10
namespace Go.Proofs.YtbahnpdgaoedmaaGreatDoor.Mm
open Go.RowKit Go.Proofs.YtbahnpdgaoedmaaGreatDoorW.PrintWords Go.Proofs.YtbahnpdgaoedmaaGreatDoorW.PrintLast Go.Proofs.YtbahnpdgaoedmaaGreatDoorW.PrintMore Go.Proofs.YtbahnpdgaoedmaaGreatDoor.PMemoryExact
set_option linter.unusedSimpArgs false
set_option linter.unusedVariables false
set_option maxRecDepth 1000000 in
set_option maxHeartbeats 8000000 in
theorem wr_some {n : Nat} (hrec : WrTo n) {o : Int} (ho : o = 9) {nm : ByteArray} {a : List S84} {f t : Int} {k : List S32} (hx : size ⟨o, nm, a, f, t, k⟩ < n + 1) {b : Nat} {l : List UInt8} {w : World} {cs : List Value} (hF : Kd.FK k32 w (fun k => k < b) ⟨o, nm, a, f, t, k⟩ cs) (hBI : BIs b (Lib.byteCells l) w) (hTB : TB w) (hg : ∀ g, Tryz.prog.globalNamed "internal/strconv.uint64pow10" = some g → g < b) (hal : Al ⟨o, nm, a, f, t, k⟩) (hlen : l.length + 2000 * size ⟨o, nm, a, f, t, k⟩ ≤ 1000000000) :
    Calls Tryz.prog 53 #[.pointer (some ⟨b, 0, none⟩), .agg cs.toArray] w fun e w' => e = .returned (.tuple #[]) ∧ Wr b (l ++ textB ⟨o, nm, a, f, t, k⟩) w w' := by
  obtain ⟨A2, c2, A5, c5, rfl, _, g2, l5, g5⟩ := k32_openF hF
  have HREC := Lib.hid hrec
  have HG2 := Lib.hid g2
  have HG5 := Lib.hid g5
  have HBL := Lib.hid (bis_lt hBI)
  have HWB := Lib.hid ((Wr.refl hBI).alloc (.cells #[.int .i64 o, .string nm, .slice A2 a.length c2, .int .i64 f, .int .i64 t, .slice A5 k.length c5] 32))
  have HW0 := Lib.hid (Wr.refl HWB.out.1)
  have HTB := Lib.hid (HWB.out.tb hTB hg)
  have HBX := Lib.hid (blk_new w (.cells #[.int .i64 o, .string nm, .slice A2 a.length c2, .int .i64 f, .int .i64 t, .slice A5 k.length c5] 32))
  have HGG := Lib.hid hg
  have HNM := Lib.hid (al_nm hal)
  have HKAL := Lib.hid ((al_is _).1 hal).2
  have HLEN := Lib.hid hlen
  have HSZ := Lib.hid hx
  have ha5 : a.length ≤ 9223372036854775807 := (Kd.F_now g2).2.1
  have hk5 : k.length ≤ 9223372036854775807 := (Kd.F_now g5).2.1
  have z1 : (o == (1 : Int)) = false := by simp; omega
  have z2 : (o == (2 : Int)) = false := by simp; omega
  have z3 : (o == (3 : Int)) = false := by simp; omega
  have z8 : (o == (8 : Int)) = false := by simp; omega
  have z9 : (o == (9 : Int)) = true := by simp; omega
  have HO := Lib.hid ho
  have HHL := Lib.hid (show (headB ⟨o, nm, a, f, t, k⟩).length ≤ 120 from headB_len HNM.out)
  have HTX := Lib.hid (show textB ⟨o, nm, a, f, t, k⟩ = headB ⟨o, nm, a, f, t, k⟩ ++ 40 :: (commas (a.map refB) ++ commas (k.map textB) ++ [41]) by rw [textB_is]; exact if_neg (by show ¬ (o = 1 ∨ o = 2); omega))
  clear hrec hF hBI hTB hg hal hlen hx g2 g5 l5 ho
  dsimp only at *
  obtain ⟨w1, hw1⟩ : ∃ w1, (w.alloc (.cells #[.int .i64 o, .string nm, .slice A2 a.length c2, .int .i64 f, .int .i64 t, .slice A5 k.length c5] 32)) = w1 := ⟨_, rfl⟩
  have HW10 := Lib.hid hw1
  rw [hw1] at HW0 HWB HTB HBX
  clear hw1
  have HTB1 := Lib.hid HTB.out
  have HBX1 := Lib.hid HBX.out
  go_enter Tryz.func53, Tryz.ntmps53
  obtain ⟨s, hs, hsk⟩ := kw_f o
  have HHE := Lib.hid (show headB ⟨o, nm, a, f, t, k⟩ = s.data.toList ++ 32 :: nm.data.toList by rw [hsk]; unfold headB; rw [if_neg (by show ¬ o = 3; have := HO.out; omega), if_pos (by show (o = 8 ∨ o = 9); have := HO.out; omega)])
  have HSK := Lib.hid hsk
  have HKW := Lib.hid hs
  clear hs hsk
  have hsz1 : s.size ≤ 9 := by have h1 := congrArg List.length HSK.out; have h2 := kwd_len o; have e : s.data.toList.length = s.size := rfl; omega
  have hsz2 : nm.size ≤ 100 := HNM.out.name
  have hcat : ∀ W : World, (Op.stringOp .add s ⟨#[32]⟩).run Tryz.prog W = .ok (.string (s ++ ⟨#[32]⟩)) W := fun W => run_string_add_sum W _ _ (by show s.size + 1 ≤ _; omega)
  have hcat2 : ∀ W : World, (Op.stringOp .add (s ++ ⟨#[32]⟩) nm).run Tryz.prog W = .ok (.string (s ++ ⟨#[32]⟩ ++ nm)) W := fun W => run_string_add_sum W _ _ (by rw [ByteArray.size_append]; show s.size + 1 + nm.size ≤ _; omega)
  have hc1 : ¬ (9223372036854775807 < s.size + 1) := by omega
  have hc2 : ¬ (9223372036854775807 < s.size + 1 + nm.size) := by omega
  have HCT := Lib.hid (show (s ++ ⟨#[32]⟩ ++ nm).data.toList = s.data.toList ++ 32 :: nm.data.toList by rw [ByteArray.data_append, Array.toList_append, ByteArray.data_append, Array.toList_append]; simp)
  obtain ⟨k0, k1, k2, k3, k4, k5⟩ := cells_of HBX1.out
  have HC0 := Lib.hid (show ∀ W, Wr b l w1 W → W.cell? ⟨w.heap.size, 0, none⟩ = some (.int .i64 o) ∧ W.cell? ⟨w.heap.size, 1, none⟩ = some (.string nm) from fun W hW => by have h := cells_of (hW.blk HBX1.out (by decide) (by have := HBL.out; omega)); exact ⟨h.1, h.2.1⟩)
  clear k0 k1 k2 k3 k4 k5
  go_wp2_with fail
  rw [HW10.out]
  refine start_ (n := 9) (S := fun w' => Wr b l w1 w') (ds := [8]) #[false, false, false, false, false, false, false, false, false] (by kernel_rfl) rfl rfl HW0.out.drew (fun hHeld => ?_)
  generalize w1.drew = w3 at hHeld ⊢
  refine pure_ (i := 0) (N := (some 37)) (v := ?_) (a' := ?_) #[true, false, false, false, false, false, false, false, false] rfl rfl (by kernel_rfl) (fun _ _ _ h => h) (Or.inl ⟨by rfl, ?_⟩) ?_ ?_
  rotate_left
  · intro w'
    go_simp
    with_reducible rfl
  rotate_left
  · simp only [Act.put, List.setIfInBounds_toArray, List.set_cons_zero, List.set_cons_succ]
    rfl
  refine pure_ (i := 1) (N := (some 38)) (v := ?_) (a' := ?_) #[true, true, false, false, false, false, false, false, false] rfl rfl (by kernel_rfl) (fun _ _ _ h => h) (Or.inl ⟨by rfl, ?_⟩) ?_ ?_
  rotate_left
  · intro w'
    go_simp
    with_reducible rfl
  rotate_left
  · simp only [Act.put, List.setIfInBounds_toArray, List.set_cons_zero, List.set_cons_succ]
    rfl
  refine take_ (i := 2) (N := (some 39)) (v := ?_) (a' := ?_) #[true, true, true, false, false, false, false, false, false] rfl rfl (by kernel_rfl) (fun _ _ _ h => h) (Or.inl ⟨by rfl, ?_⟩) hHeld ?_ ?_
  rotate_left
  · rintro w' s0
    obtain ⟨p0, p1⟩ := HC0.out _ s0
    go_simp
    with_reducible rfl
  rotate_left
  · simp only [Act.put, List.setIfInBounds_toArray, List.set_cons_zero, List.set_cons_succ]
    rfl
  refine pure_ (i := 5) (N := (some 42)) (v := ?_) (a' := ?_) #[true, true, true, false, false, true, false, false, false] rfl rfl (by kernel_rfl) (fun _ _ _ h => h) (Or.inl ⟨by rfl, ?_⟩) ?_ ?_
  rotate_left
  · intro w'
    go_simp
    with_reducible rfl
  rotate_left
  · simp only [Act.put, List.setIfInBounds_toArray, List.set_cons_zero, List.set_cons_succ]
    rfl
  refine take_ (i := 6) (N := (some 43)) (v := ?_) (a' := ?_) #[true, true, true, false, false, true, true, false, false] rfl rfl (by kernel_rfl) (fun _ _ _ h => h) (Or.inl ⟨by rfl, ?_⟩) hHeld ?_ ?_
  rotate_left
  · rintro w' s0
    obtain ⟨p0, p1⟩ := HC0.out _ s0
    go_simp
    with_reducible rfl
  rotate_left
  · simp only [Act.put, List.setIfInBounds_toArray, List.set_cons_zero, List.set_cons_succ]
    rfl
  refine one_ (i := 3) (N := (some 40)) #[true, true, true, true, false, true, true, false, false] rfl rfl (by kernel_rfl) (by decide) (fun K hK => ?_)
  go_simp
  refine (formula_keyword.calls o s _ HKW.out).mono ?_
  rintro e w4 ⟨rfl, hd⟩
  refine hK.out _ _ (hHeld.drawn hd) (fun hHeld => ?_)
  clear hK K
  (try simp only [Act.put, List.setIfInBounds_toArray, List.set_cons_zero, List.set_cons_succ])
  refine pure_ (i := 4) (N := (some 41)) (v := ?_) (a' := ?_) #[true, true, true, true, true, true, true, false, false] rfl rfl (by kernel_rfl) (fun _ _ _ h => h) (Or.inl ⟨by rfl, ?_⟩) ?_ ?_
  rotate_left
  · intro w'
    go_simp
    with_reducible rfl
  rotate_left
  · simp only [Act.put, List.setIfInBounds_toArray, List.set_cons_zero, List.set_cons_succ]
    rfl
  refine pure_ (i := 7) (N := (some 44)) (v := ?_) (a' := ?_) #[true, true, true, true, true, true, true, true, false] rfl rfl (by kernel_rfl) (fun _ _ _ h => h) (Or.inl ⟨by rfl, ?_⟩) ?_ ?_
  rotate_left
  · intro w'
    go_simp
    with_reducible rfl
  rotate_left
  · simp only [Act.put, List.setIfInBounds_toArray, List.set_cons_zero, List.set_cons_succ]
    rfl
  refine last_ (i := 8) (N := (some 45)) #[true, true, true, true, true, true, true, true, true] rfl rfl (by kernel_rfl) (by decide) (fun K hK => ?_)
  go_simp
  obtain ⟨S2, hS2⟩ : ∃ S2, s ++ (⟨#[32]⟩ : ByteArray) ++ nm = S2 := ⟨_, rfl⟩
  rw [hS2] at HCT ⊢
  clear hS2
  refine (ws_any S2 hHeld.1 (by have h1 := congrArg List.length HCT.out; rw [List.length_append, List.length_cons] at h1; have e1 : s.data.toList.length = s.size := rfl; have e2 : nm.data.toList.length = nm.size := rfl; have := HLEN.out; omega)).mono ?_
  rintro e w5 ⟨rfl, hw⟩
  have HWH := Lib.hid (hHeld.step hw)
  rw [HCT.out, ← HHE.out] at HWH
  clear hw
  refine hK.out _ _ ?_
  clear hK K
  (try simp only [Act.put, List.setIfInBounds_toArray, List.set_cons_zero, List.set_cons_succ])
  refine done_ (by kernel_rfl) ?_
  have HBX5 := Lib.hid (HWH.out.blk HBX1.out (by decide) (by have := HBL.out; omega))
  obtain ⟨k0, k1, k2, k3, k4, k5⟩ := cells_of HBX5.out
  go_wp2_with fail
  refine (wb_any 40 40 rfl HWH.out.1 (by have := HHL.out; have := HLEN.out; rw [List.length_append]; omega)).mono ?_
  rintro e w6 ⟨rfl, hw⟩
  have HW6 := Lib.hid (HWH.out.step hw)
  have HBX6 := Lib.hid (HW6.out.blk HBX1.out (by decide) (by have := HBL.out; omega))
  clear hw k0 k1 k2 k3 k4 k5
  obtain ⟨k0, k1, k2, k3, k4, k5⟩ := cells_of HBX6.out
  have HL1 := Lib.hid (show (l ++ headB ⟨o, nm, a, f, t, k⟩ ++ [40]).length ≤ l.length + 121 by have := HHL.out; simp only [List.length_append, List.length_cons, List.length_nil]; omega)
  obtain ⟨L1, hL1⟩ : ∃ L1, l ++ headB ⟨o, nm, a, f, t, k⟩ ++ [40] = L1 := ⟨_, rfl⟩
  rw [hL1] at HW6 HL1
  have HLL1 := Lib.hid hL1
  clear hL1
  go_wp2
  go_loopw [68] (fun v68 wr => RefRel b L1 a w1 v68 wr) (fun v68 _ => a.length - (intOf v68).toNat)
  case atStart => exact ⟨0, rfl, Nat.zero_le _, by simpa [commas] using HW6.out⟩
  case round =>
    obtain ⟨j, rfl, hj, hwr⟩ := hrel
    have HWR := Lib.hid hwr
    clear hwr k0 k1 k2 k3 k4 k5
    have HCL := Lib.hid (show (commas ((a.take j).map refB)).length ≤ 1020 from refs_len (fun r hr => refB_len (HNM.out.ref r hr)) HNM.out.refs j)
    have HLR := Lib.hid (show (L1 ++ commas ((a.take j).map refB)).length ≤ l.length + 1141 by rw [List.length_append]; have := HCL.out; have := HL1.out; omega)
    by_cases hlt : j < a.length
    · have hj0 : 0 ≤ (j : Int) := by omega
      have hj1 : (j : Int) < (a.length : Int) := by omega
      obtain ⟨ad, e1, q0, q1, q2⟩ := ref_at (Kd.F_now (Kd.F_step HG2.out (fun k hk _ => (HWB.out.base HWR.out).2.1.block k hk))) j hlt
      subst e1
      have HCN := Lib.hid (commas_next refB hlt)
      have HRM := Lib.hid (HNM.out.ref _ (List.getElem_mem hlt))
      obtain ⟨r, hr⟩ : ∃ r, a[j] = r := ⟨_, rfl⟩
      rw [hr] at q0 q1 q2 HCN HRM
      clear hr
      have HR5 := Lib.hid (blk_new wr (.cells #[.int .i64 r.f0, .int .i64 r.f1, .string r.f2] 84))
      have HWA := Lib.hid (HWR.out.alloc (.cells #[.int .i64 r.f0, .int .i64 r.f1, .string r.f2] 84))
      have HWS := Lib.hid (show b < wr.heap.size from bis_lt HWR.out.1)
      obtain ⟨LJ, hLJ⟩ : ∃ LJ, L1 ++ commas ((a.take j).map refB) = LJ := ⟨_, rfl⟩
      rw [hLJ] at HWA HLR
      have HLJ := Lib.hid hLJ
      clear hLJ HCL
      by_cases h0 : j = 0
      · have HJ0 := Lib.hid h0
        have gz : decide ((0 : Int) < (j : Int)) = false := decide_eq_false (by omega)
        have gzn : decide (0 < j) = false := decide_eq_false (by omega)
        clear h0
        have HWC := Lib.hid HWA.out
        obtain ⟨LC, hLC⟩ : ∃ LC, LJ = LC := ⟨_, rfl⟩
        have HLC2 := Lib.hid hLC
        rw [hLC] at HWC
        have HLC := Lib.hid (show LC.length ≤ l.length + 1143 by rw [← hLC]; have := HLR.out; omega)
        clear hLC
        by_cases h1 : r.f0 = 1
        · have HRF := Lib.hid (show refB r = 35 :: Lib.itoa r.f1 by unfold refB; rw [if_pos h1])
          have u1 : (r.f0 == (1 : Int)) = true := by simpa using h1
          clear h1
          go_wp2_with fail
          refine (itoa_any r.f1 HRM.out.2.1 HRM.out.2.2 (HWC.out.tb HTB1.out HGG.out)).mono ?_
          rintro e w8 ⟨rfl, kk, os, hgr⟩
          have HWI := Lib.hid (show Wr b LC w1 w8 by rw [hgr]; exact HWC.out.itoa)
          clear hgr
          obtain ⟨S, hS⟩ : ∃ S : ByteArray, (⟨(Lib.itoa r.f1).toArray⟩ : ByteArray) = S := ⟨_, rfl⟩
          rw [hS]
          have HSS := Lib.hid (show S.data.toList = Lib.itoa r.f1 by rw [← hS])
          have hsz : S.size ≤ 21 := by rw [← hS]; have := Lib.itoa_length_le r.f1 HRM.out.2.1 HRM.out.2.2; simpa [ByteArray.size] using this
          clear hS
          have hcat : ∀ W : World, (Op.stringOp .add ⟨#[35]⟩ S).run Tryz.prog W = .ok (.string (⟨#[35]⟩ ++ S)) W := fun W => run_string_add_sum W _ _ (by show 1 + S.size ≤ _; omega)
          have hc1 : ¬ (9223372036854775807 < 1 + S.size) := by omega
          have hc2 : ¬ (9223372036854775807 < (⟨#[35]⟩ : ByteArray).size + S.size) := by show ¬ (9223372036854775807 < 1 + S.size); omega
          have HCT := Lib.hid (show ((⟨#[35]⟩ : ByteArray) ++ S).data.toList = 35 :: Lib.itoa r.f1 by rw [ByteArray.data_append, Array.toList_append, HSS.out]; rfl)
          go_wp2_with fail
          obtain ⟨S2, hS2⟩ : ∃ S2, (⟨#[35]⟩ : ByteArray) ++ S = S2 := ⟨_, rfl⟩
          rw [hS2] at HCT ⊢
          clear hS2
          refine (ws_any S2 HWI.out.1 (by have h1 := congrArg List.length HCT.out; rw [List.length_cons] at h1; have := Lib.itoa_length_le r.f1 HRM.out.2.1 HRM.out.2.2; have := HLC.out; have := HLEN.out; omega)).mono ?_
          rintro e w9 ⟨rfl, hw9⟩
          have HW9 := Lib.hid (HWI.out.step hw9)
          clear hw9
          go_wp2
          go_roundw
          case rel => exact ⟨j + 1, by go_num, hlt, by rw [HCN.out, ← List.append_assoc, HLJ.out, if_pos HJ0.out, HRF.out]; have h9 := HW9.out; rw [← HLC2.out, HCT.out] at h9; exact h9⟩
          case measure => simp [intOf]; omega
        · by_cases h3 : r.f0 = 3
          · have HRF := Lib.hid (show refB r = 64 :: Lib.itoa r.f1 by unfold refB; rw [if_neg h1, if_pos h3])
            have u1 : (r.f0 == (1 : Int)) = false := by simpa using h1
            have u3 : (r.f0 == (3 : Int)) = true := by simpa using h3
            clear h1 h3
            go_wp2_with fail
            refine (itoa_any r.f1 HRM.out.2.1 HRM.out.2.2 (HWC.out.tb HTB1.out HGG.out)).mono ?_
            rintro e w8 ⟨rfl, kk, os, hgr⟩
            have HWI := Lib.hid (show Wr b LC w1 w8 by rw [hgr]; exact HWC.out.itoa)
            clear hgr
            obtain ⟨S, hS⟩ : ∃ S : ByteArray, (⟨(Lib.itoa r.f1).toArray⟩ : ByteArray) = S := ⟨_, rfl⟩
            rw [hS]
            have HSS := Lib.hid (show S.data.toList = Lib.itoa r.f1 by rw [← hS])
            have hsz : S.size ≤ 21 := by rw [← hS]; have := Lib.itoa_length_le r.f1 HRM.out.2.1 HRM.out.2.2; simpa [ByteArray.size] using this
            clear hS
            have hcat : ∀ W : World, (Op.stringOp .add ⟨#[64]⟩ S).run Tryz.prog W = .ok (.string (⟨#[64]⟩ ++ S)) W := fun W => run_string_add_sum W _ _ (by show 1 + S.size ≤ _; omega)
            have hc1 : ¬ (9223372036854775807 < 1 + S.size) := by omega
            have hc2 : ¬ (9223372036854775807 < (⟨#[64]⟩ : ByteArray).size + S.size) := by show ¬ (9223372036854775807 < 1 + S.size); omega
            have HCT := Lib.hid (show ((⟨#[64]⟩ : ByteArray) ++ S).data.toList = 64 :: Lib.itoa r.f1 by rw [ByteArray.data_append, Array.toList_append, HSS.out]; rfl)
            go_wp2_with fail
            obtain ⟨S2, hS2⟩ : ∃ S2, (⟨#[64]⟩ : ByteArray) ++ S = S2 := ⟨_, rfl⟩
            rw [hS2] at HCT ⊢
            clear hS2
            refine (ws_any S2 HWI.out.1 (by have h1 := congrArg List.length HCT.out; rw [List.length_cons] at h1; have := Lib.itoa_length_le r.f1 HRM.out.2.1 HRM.out.2.2; have := HLC.out; have := HLEN.out; omega)).mono ?_
            rintro e w9 ⟨rfl, hw9⟩
            have HW9 := Lib.hid (HWI.out.step hw9)
            clear hw9
            go_wp2
            go_roundw
            case rel => exact ⟨j + 1, by go_num, hlt, by rw [HCN.out, ← List.append_assoc, HLJ.out, if_pos HJ0.out, HRF.out]; have h9 := HW9.out; rw [← HLC2.out, HCT.out] at h9; exact h9⟩
            case measure => simp [intOf]; omega
          · by_cases h4 : r.f0 = 4
            · have HRF := Lib.hid (show refB r = Lib.itoa r.f1 by unfold refB; rw [if_neg h1, if_neg h3, if_pos h4])
              have u1 : (r.f0 == (1 : Int)) = false := by simpa using h1
              have u3 : (r.f0 == (3 : Int)) = false := by simpa using h3
              have u4 : (r.f0 == (4 : Int)) = true := by simpa using h4
              clear h1 h3 h4
              go_wp2_with fail
              refine (itoa_any r.f1 HRM.out.2.1 HRM.out.2.2 (HWC.out.tb HTB1.out HGG.out)).mono ?_
              rintro e w8 ⟨rfl, kk, os, hgr⟩
              have HWI := Lib.hid (show Wr b LC w1 w8 by rw [hgr]; exact HWC.out.itoa)
              clear hgr
              obtain ⟨S, hS⟩ : ∃ S : ByteArray, (⟨(Lib.itoa r.f1).toArray⟩ : ByteArray) = S := ⟨_, rfl⟩
              rw [hS]
              have HSS := Lib.hid (show S.data.toList = Lib.itoa r.f1 by rw [← hS])
              have hsz : S.size ≤ 21 := by rw [← hS]; have := Lib.itoa_length_le r.f1 HRM.out.2.1 HRM.out.2.2; simpa [ByteArray.size] using this
              clear hS
              go_wp2_with fail
              refine (ws_any S HWI.out.1 (by rw [HSS.out]; have := Lib.itoa_length_le r.f1 HRM.out.2.1 HRM.out.2.2; have := HLC.out; have := HLEN.out; omega)).mono ?_
              rintro e w9 ⟨rfl, hw9⟩
              have HW9 := Lib.hid (HWI.out.step hw9)
              clear hw9
              go_wp2
              go_roundw
              case rel => exact ⟨j + 1, by go_num, hlt, by rw [HCN.out, ← List.append_assoc, HLJ.out, if_pos HJ0.out, HRF.out]; have h9 := HW9.out; rw [← HLC2.out, HSS.out] at h9; exact h9⟩
              case measure => simp [intOf]; omega
            · have HRF := Lib.hid (show refB r = r.f2.data.toList by unfold refB; rw [if_neg h1, if_neg h3, if_neg h4])
              have u1 : (r.f0 == (1 : Int)) = false := by simpa using h1
              have u3 : (r.f0 == (3 : Int)) = false := by simpa using h3
              have u4 : (r.f0 == (4 : Int)) = false := by simpa using h4
              clear h1 h3 h4
              have HWI := Lib.hid HWC.out
              go_wp2_with fail
              refine (ws_any r.f2 HWI.out.1 (by have h := HRM.out.1; have := HLC.out; have := HLEN.out; have e : r.f2.data.toList.length = r.f2.size := rfl; omega)).mono ?_
              rintro e w9 ⟨rfl, hw9⟩
              have HW9 := Lib.hid (HWI.out.step hw9)
              clear hw9
              go_wp2
              go_roundw
              case rel => exact ⟨j + 1, by go_num, hlt, by rw [HCN.out, ← List.append_assoc, HLJ.out, if_pos HJ0.out, HRF.out]; have h9 := HW9.out; rw [← HLC2.out] at h9; exact h9⟩
              case measure => simp [intOf]; omega
      · have HJ0 := Lib.hid h0
        have gz : decide ((0 : Int) < (j : Int)) = true := decide_eq_true (by omega)
        have gzn : decide (0 < j) = true := decide_eq_true (by omega)
        clear h0
        go_wp2_with fail
        refine (ws_any ⟨#[44, 32]⟩ HWA.out.1 (by have := HLR.out; have := HLEN.out; simp; omega)).mono ?_
        rintro e w7 ⟨rfl, hw7⟩
        have HWC := Lib.hid (HWA.out.step hw7)
        have HR7 := Lib.hid (hw7.blk HR5.out (by decide) (by have := HWS.out; omega))
        have r70 : w7.cell? ⟨wr.heap.size, 0, none⟩ = some (.int .i64 r.f0) := blk_cell HR7.out 0
        have r71 : w7.cell? ⟨wr.heap.size, 1, none⟩ = some (.int .i64 r.f1) := blk_cell HR7.out 1
        have r72 : w7.cell? ⟨wr.heap.size, 2, none⟩ = some (.string r.f2) := blk_cell HR7.out 2
        clear hw7
        obtain ⟨LC, hLC⟩ : ∃ LC, LJ ++ (⟨#[44, 32]⟩ : ByteArray).data.toList = LC := ⟨_, rfl⟩
        have HLC2 := Lib.hid hLC
        rw [hLC] at HWC
        have HLC := Lib.hid (show LC.length ≤ l.length + 1143 by rw [← hLC]; have := HLR.out; simp; omega)
        clear hLC
        by_cases h1 : r.f0 = 1
        · have HRF := Lib.hid (show refB r = 35 :: Lib.itoa r.f1 by unfold refB; rw [if_pos h1])
          have u1 : (r.f0 == (1 : Int)) = true := by simpa using h1
          clear h1
          go_wp2_with fail
          refine (itoa_any r.f1 HRM.out.2.1 HRM.out.2.2 (HWC.out.tb HTB1.out HGG.out)).mono ?_
          rintro e w8 ⟨rfl, kk, os, hgr⟩
          have HWI := Lib.hid (show Wr b LC w1 w8 by rw [hgr]; exact HWC.out.itoa)
          clear hgr
          obtain ⟨S, hS⟩ : ∃ S : ByteArray, (⟨(Lib.itoa r.f1).toArray⟩ : ByteArray) = S := ⟨_, rfl⟩
          rw [hS]
          have HSS := Lib.hid (show S.data.toList = Lib.itoa r.f1 by rw [← hS])
          have hsz : S.size ≤ 21 := by rw [← hS]; have := Lib.itoa_length_le r.f1 HRM.out.2.1 HRM.out.2.2; simpa [ByteArray.size] using this
          clear hS
          have hcat : ∀ W : World, (Op.stringOp .add ⟨#[35]⟩ S).run Tryz.prog W = .ok (.string (⟨#[35]⟩ ++ S)) W := fun W => run_string_add_sum W _ _ (by show 1 + S.size ≤ _; omega)
          have hc1 : ¬ (9223372036854775807 < 1 + S.size) := by omega
          have hc2 : ¬ (9223372036854775807 < (⟨#[35]⟩ : ByteArray).size + S.size) := by show ¬ (9223372036854775807 < 1 + S.size); omega
          have HCT := Lib.hid (show ((⟨#[35]⟩ : ByteArray) ++ S).data.toList = 35 :: Lib.itoa r.f1 by rw [ByteArray.data_append, Array.toList_append, HSS.out]; rfl)
          go_wp2_with fail
          obtain ⟨S2, hS2⟩ : ∃ S2, (⟨#[35]⟩ : ByteArray) ++ S = S2 := ⟨_, rfl⟩
          rw [hS2] at HCT ⊢
          clear hS2
          refine (ws_any S2 HWI.out.1 (by have h1 := congrArg List.length HCT.out; rw [List.length_cons] at h1; have := Lib.itoa_length_le r.f1 HRM.out.2.1 HRM.out.2.2; have := HLC.out; have := HLEN.out; omega)).mono ?_
          rintro e w9 ⟨rfl, hw9⟩
          have HW9 := Lib.hid (HWI.out.step hw9)
          clear hw9
          go_wp2
          go_roundw
          case rel => exact ⟨j + 1, by go_num, hlt, by rw [HCN.out, ← List.append_assoc, HLJ.out, if_neg HJ0.out, HRF.out]; have h9 := HW9.out; rw [← HLC2.out, HCT.out] at h9; simpa using h9⟩
          case measure => simp [intOf]; omega
        · by_cases h3 : r.f0 = 3
          · have HRF := Lib.hid (show refB r = 64 :: Lib.itoa r.f1 by unfold refB; rw [if_neg h1, if_pos h3])
            have u1 : (r.f0 == (1 : Int)) = false := by simpa using h1
            have u3 : (r.f0 == (3 : Int)) = true := by simpa using h3
            clear h1 h3
            go_wp2_with fail
            refine (itoa_any r.f1 HRM.out.2.1 HRM.out.2.2 (HWC.out.tb HTB1.out HGG.out)).mono ?_
            rintro e w8 ⟨rfl, kk, os, hgr⟩
            have HWI := Lib.hid (show Wr b LC w1 w8 by rw [hgr]; exact HWC.out.itoa)
            clear hgr
            obtain ⟨S, hS⟩ : ∃ S : ByteArray, (⟨(Lib.itoa r.f1).toArray⟩ : ByteArray) = S := ⟨_, rfl⟩
            rw [hS]
            have HSS := Lib.hid (show S.data.toList = Lib.itoa r.f1 by rw [← hS])
            have hsz : S.size ≤ 21 := by rw [← hS]; have := Lib.itoa_length_le r.f1 HRM.out.2.1 HRM.out.2.2; simpa [ByteArray.size] using this
            clear hS
            have hcat : ∀ W : World, (Op.stringOp .add ⟨#[64]⟩ S).run Tryz.prog W = .ok (.string (⟨#[64]⟩ ++ S)) W := fun W => run_string_add_sum W _ _ (by show 1 + S.size ≤ _; omega)
            have hc1 : ¬ (9223372036854775807 < 1 + S.size) := by omega
            have hc2 : ¬ (9223372036854775807 < (⟨#[64]⟩ : ByteArray).size + S.size) := by show ¬ (9223372036854775807 < 1 + S.size); omega
            have HCT := Lib.hid (show ((⟨#[64]⟩ : ByteArray) ++ S).data.toList = 64 :: Lib.itoa r.f1 by rw [ByteArray.data_append, Array.toList_append, HSS.out]; rfl)
            go_wp2_with fail
            obtain ⟨S2, hS2⟩ : ∃ S2, (⟨#[64]⟩ : ByteArray) ++ S = S2 := ⟨_, rfl⟩
            rw [hS2] at HCT ⊢
            clear hS2
            refine (ws_any S2 HWI.out.1 (by have h1 := congrArg List.length HCT.out; rw [List.length_cons] at h1; have := Lib.itoa_length_le r.f1 HRM.out.2.1 HRM.out.2.2; have := HLC.out; have := HLEN.out; omega)).mono ?_
            rintro e w9 ⟨rfl, hw9⟩
            have HW9 := Lib.hid (HWI.out.step hw9)
            clear hw9
            go_wp2
            go_roundw
            case rel => exact ⟨j + 1, by go_num, hlt, by rw [HCN.out, ← List.append_assoc, HLJ.out, if_neg HJ0.out, HRF.out]; have h9 := HW9.out; rw [← HLC2.out, HCT.out] at h9; simpa using h9⟩
            case measure => simp [intOf]; omega
          · by_cases h4 : r.f0 = 4
            · have HRF := Lib.hid (show refB r = Lib.itoa r.f1 by unfold refB; rw [if_neg h1, if_neg h3, if_pos h4])
              have u1 : (r.f0 == (1 : Int)) = false := by simpa using h1
              have u3 : (r.f0 == (3 : Int)) = false := by simpa using h3
              have u4 : (r.f0 == (4 : Int)) = true := by simpa using h4
              clear h1 h3 h4
              go_wp2_with fail
              refine (itoa_any r.f1 HRM.out.2.1 HRM.out.2.2 (HWC.out.tb HTB1.out HGG.out)).mono ?_
              rintro e w8 ⟨rfl, kk, os, hgr⟩
              have HWI := Lib.hid (show Wr b LC w1 w8 by rw [hgr]; exact HWC.out.itoa)
              clear hgr
              obtain ⟨S, hS⟩ : ∃ S : ByteArray, (⟨(Lib.itoa r.f1).toArray⟩ : ByteArray) = S := ⟨_, rfl⟩
              rw [hS]
              have HSS := Lib.hid (show S.data.toList = Lib.itoa r.f1 by rw [← hS])
              have hsz : S.size ≤ 21 := by rw [← hS]; have := Lib.itoa_length_le r.f1 HRM.out.2.1 HRM.out.2.2; simpa [ByteArray.size] using this
              clear hS
              go_wp2_with fail
              refine (ws_any S HWI.out.1 (by rw [HSS.out]; have := Lib.itoa_length_le r.f1 HRM.out.2.1 HRM.out.2.2; have := HLC.out; have := HLEN.out; omega)).mono ?_
              rintro e w9 ⟨rfl, hw9⟩
              have HW9 := Lib.hid (HWI.out.step hw9)
              clear hw9
              go_wp2
              go_roundw
              case rel => exact ⟨j + 1, by go_num, hlt, by rw [HCN.out, ← List.append_assoc, HLJ.out, if_neg HJ0.out, HRF.out]; have h9 := HW9.out; rw [← HLC2.out, HSS.out] at h9; simpa using h9⟩
              case measure => simp [intOf]; omega
            · have HRF := Lib.hid (show refB r = r.f2.data.toList by unfold refB; rw [if_neg h1, if_neg h3, if_neg h4])
              have u1 : (r.f0 == (1 : Int)) = false := by simpa using h1
              have u3 : (r.f0 == (3 : Int)) = false := by simpa using h3
              have u4 : (r.f0 == (4 : Int)) = false := by simpa using h4
              clear h1 h3 h4
              have HWI := Lib.hid HWC.out
              go_wp2_with fail
              refine (ws_any r.f2 HWI.out.1 (by have h := HRM.out.1; have := HLC.out; have := HLEN.out; have e : r.f2.data.toList.length = r.f2.size := rfl; omega)).mono ?_
              rintro e w9 ⟨rfl, hw9⟩
              have HW9 := Lib.hid (HWI.out.step hw9)
              clear hw9
              go_wp2
              go_roundw
              case rel => exact ⟨j + 1, by go_num, hlt, by rw [HCN.out, ← List.append_assoc, HLJ.out, if_neg HJ0.out, HRF.out]; have h9 := HW9.out; rw [← HLC2.out] at h9; simpa using h9⟩
              case measure => simp [intOf]; omega
    · have hja : j = a.length := by omega
      subst hja
      clear hlt hj
      have HBX7 := Lib.hid (HWR.out.blk HBX1.out (by decide) (by have := HBL.out; omega))
      obtain ⟨k0, k1, k2, k3, k4, k5⟩ := cells_of HBX7.out
      rw [List.take_length] at HWR HLR HCL
      obtain ⟨L2, hL2⟩ : ∃ L2, L1 ++ commas (a.map refB) = L2 := ⟨_, rfl⟩
      rw [hL2] at HWR HLR
      have HLL2 := Lib.hid hL2
      clear hL2 HCL
      go_wp2
      go_loopw [110] (fun v110 wr => KidRel b L2 k w1 v110 wr) (fun v110 _ => k.length - (intOf v110).toNat)
      case atStart => exact ⟨0, rfl, Nat.zero_le _, by simpa [commas] using HWR.out⟩
      case round =>
        obtain ⟨j, rfl, hj, hwr⟩ := hrel
        have HWK := Lib.hid hwr
        clear hwr k0 k1 k2 k3 k4 k5
        by_cases hlt : j < k.length
        · have hj0 : 0 ≤ (j : Int) := by omega
          have hj1 : (j : Int) < (k.length : Int) := by omega
          obtain ⟨ad, A3, c3, A6, c6, e4, q0, q1, q2, q3, q4, q5, qF⟩ := form_F (Kd.F_step HG5.out (fun k hk _ => (HWB.out.base HWK.out).2.1.block k hk)) (Below.refl _ _) j hlt
          subst e4
          have HCN := Lib.hid (commas_next textB hlt)
          have HKLN := Lib.hid (kids_len HKAL.out hlt)
          have hmem : k[j] ∈ k := List.getElem_mem hlt
          obtain ⟨y, hy⟩ : ∃ y, k[j] = y := ⟨_, rfl⟩
          rw [hy] at q0 q1 q2 q3 q4 q5 qF hmem HCN HKLN
          clear hy
          have HQF := Lib.hid qF
          have HYL := Lib.hid (HKAL.out y hmem)
          have HYS := Lib.hid (show size y < n by have := kid_lt (x := ⟨o, nm, a, f, t, k⟩) hmem; have := HSZ.out; omega)
          have HXS := Lib.hid (show size ⟨o, nm, a, f, t, k⟩ = 1 + size.sizes k from size_is ⟨o, nm, a, f, t, k⟩)
          have HR5 := Lib.hid (blk_new wr (.cells #[.int .i64 y.f0, .string y.f1, .slice A3 y.f2.length c3, .int .i64 y.f3, .int .i64 y.f4, .slice A6 y.f5.length c6] 32))
          have HWA := Lib.hid (HWK.out.alloc (.cells #[.int .i64 y.f0, .string y.f1, .slice A3 y.f2.length c3, .int .i64 y.f3, .int .i64 y.f4, .slice A6 y.f5.length c6] 32))
          have HWAA := Lib.hid ((Wr.refl HWK.out.1).alloc (.cells #[.int .i64 y.f0, .string y.f1, .slice A3 y.f2.length c3, .int .i64 y.f3, .int .i64 y.f4, .slice A6 y.f5.length c6] 32))
          have HWS := Lib.hid (show b < wr.heap.size from bis_lt HWK.out.1)
          obtain ⟨LJ, hLJ⟩ : ∃ LJ, L2 ++ commas ((k.take j).map textB) = LJ := ⟨_, rfl⟩
          have HLRK := Lib.hid (show LJ.length + 2000 * size y + 857 ≤ l.length + 2000 * size ⟨o, nm, a, f, t, k⟩ by rw [← hLJ, List.length_append]; have := HKLN.out; have := HLR.out; have := HXS.out; omega)
          rw [hLJ] at HWA HWAA
          have HLJ := Lib.hid hLJ
          clear hLJ qF hmem
          by_cases h0 : j = 0
          · have HJ0 := Lib.hid h0
            have gz : decide ((0 : Int) < (j : Int)) = false := decide_eq_false (by omega)
            have gzn : decide (0 < j) = false := decide_eq_false (by omega)
            clear h0
            have HWC := Lib.hid HWA.out
            have HWCB := Lib.hid HWAA.out
            obtain ⟨LC, hLC⟩ : ∃ LC, LJ = LC := ⟨_, rfl⟩
            have HLC2 := Lib.hid hLC
            rw [hLC] at HWC HWCB
            have HLC := Lib.hid (show LC.length + 2000 * size y ≤ l.length + 2000 * size ⟨o, nm, a, f, t, k⟩ by rw [← hLC]; have := HLRK.out; omega)
            clear hLC
            have HCALL := Lib.hid (HREC.out y HYS.out b LC (wr.alloc (.cells #[.int .i64 y.f0, .string y.f1, .slice A3 y.f2.length c3, .int .i64 y.f3, .int .i64 y.f4, .slice A6 y.f5.length c6] 32)) _ (Kd.FK_step HQF.out (fun k hk _ => HWCB.out.2.1.block k hk)) HWC.out.1 (HWC.out.tb HTB1.out HGG.out) HGG.out HYL.out (by have := HLC.out; have := HLEN.out; omega))
            go_wp2_with fail
            refine HCALL.out.mono ?_
            rintro e w9 ⟨rfl, hw9⟩
            have HW9 := Lib.hid (HWC.out.step hw9.wrote)
            clear hw9
            go_wp2
            go_roundw
            case rel => exact ⟨j + 1, by go_num, hlt, by rw [HCN.out, ← List.append_assoc, HLJ.out, if_pos HJ0.out]; have h9 := HW9.out; rw [← HLC2.out] at h9; exact h9⟩
            case measure => simp [intOf]; omega
          · have HJ0 := Lib.hid h0
            have gz : decide ((0 : Int) < (j : Int)) = true := decide_eq_true (by omega)
            have gzn : decide (0 < j) = true := decide_eq_true (by omega)
            clear h0
            go_wp2_with fail
            refine (ws_any ⟨#[44, 32]⟩ HWA.out.1 (by have := HLRK.out; have := HLEN.out; simp; omega)).mono ?_
            rintro e w7 ⟨rfl, hw7⟩
            have HWC := Lib.hid (HWA.out.step hw7)
            have HWCB := Lib.hid (HWAA.out.step hw7)
            have HR7 := Lib.hid (hw7.blk HR5.out (by decide) (by have := HWS.out; omega))
            obtain ⟨r0, r1, r2, r3, r4, r5⟩ := cells_of HR7.out
            clear hw7
            obtain ⟨LC, hLC⟩ : ∃ LC, LJ ++ (⟨#[44, 32]⟩ : ByteArray).data.toList = LC := ⟨_, rfl⟩
            have HLC2 := Lib.hid hLC
            rw [hLC] at HWC HWCB
            have HLC := Lib.hid (show LC.length + 2000 * size y ≤ l.length + 2000 * size ⟨o, nm, a, f, t, k⟩ by rw [← hLC]; have := HLRK.out; simp; omega)
            clear hLC q0 q1 q2 q3 q4 q5
            have HCALL := Lib.hid (HREC.out y HYS.out b LC w7 _ (Kd.FK_step HQF.out (fun k hk _ => HWCB.out.2.1.block k hk)) HWC.out.1 (HWC.out.tb HTB1.out HGG.out) HGG.out HYL.out (by have := HLC.out; have := HLEN.out; omega))
            go_wp2_with fail
            refine HCALL.out.mono ?_
            rintro e w9 ⟨rfl, hw9⟩
            have HW9 := Lib.hid (HWC.out.step hw9.wrote)
            clear hw9
            go_wp2
            go_roundw
            case rel => exact ⟨j + 1, by go_num, hlt, by rw [HCN.out, ← List.append_assoc, HLJ.out, if_neg HJ0.out]; have h9 := HW9.out; rw [← HLC2.out] at h9; simpa using h9⟩
            case measure => simp [intOf]; omega
        · have hjk : j = k.length := by omega
          subst hjk
          clear hlt hj
          rw [List.take_length] at HWK
          go_wp2_with fail
          refine (wb_any 41 41 rfl HWK.out.1 (by have h1 := commas_sum (k.map textB); have h2 := textBs_len k HKAL.out; rw [textBs_map] at h2; have := HLR.out; have := HLEN.out; have := size_is ⟨o, nm, a, f, t, k⟩; dsimp only at this; rw [List.length_append]; omega)).mono ?_
          rintro e w9 ⟨rfl, hw9⟩
          have HW9 := Lib.hid (HWK.out.step hw9)
          clear hw9
          go_wp2
          go_end0
          exact ⟨rfl, by have h9 := HWB.out.base HW9.out; rw [HTX.out]; rw [← HLL2.out, ← HLL1.out] at h9; simpa using h9⟩
set_option maxRecDepth 1000000 in
set_option maxHeartbeats 8000000 in
theorem wr_dur {n : Nat} (hrec : WrTo n) {o : Int} (ho : o = 10) {nm : ByteArray} {a : List S84} {f t : Int} {k : List S32} (hx : size ⟨o, nm, a, f, t, k⟩ < n + 1) {b : Nat} {l : List UInt8} {w : World} {cs : List Value} (hF : Kd.FK k32 w (fun k => k < b) ⟨o, nm, a, f, t, k⟩ cs) (hBI : BIs b (Lib.byteCells l) w) (hTB : TB w) (hg : ∀ g, Tryz.prog.globalNamed "internal/strconv.uint64pow10" = some g → g < b) (hal : Al ⟨o, nm, a, f, t, k⟩) (hlen : l.length + 2000 * size ⟨o, nm, a, f, t, k⟩ ≤ 1000000000) :
    Calls Tryz.prog 53 #[.pointer (some ⟨b, 0, none⟩), .agg cs.toArray] w fun e w' => e = .returned (.tuple #[]) ∧ Wr b (l ++ textB ⟨o, nm, a, f, t, k⟩) w w' := by
  obtain ⟨A2, c2, A5, c5, rfl, _, g2, l5, g5⟩ := k32_openF hF
  have HREC := Lib.hid hrec
  have HG2 := Lib.hid g2
  have HG5 := Lib.hid g5
  have HBL := Lib.hid (bis_lt hBI)
  have HWB := Lib.hid ((Wr.refl hBI).alloc (.cells #[.int .i64 o, .string nm, .slice A2 a.length c2, .int .i64 f, .int .i64 t, .slice A5 k.length c5] 32))
  have HW0 := Lib.hid (Wr.refl HWB.out.1)
  have HTB := Lib.hid (HWB.out.tb hTB hg)
  have HBX := Lib.hid (blk_new w (.cells #[.int .i64 o, .string nm, .slice A2 a.length c2, .int .i64 f, .int .i64 t, .slice A5 k.length c5] 32))
  have HGG := Lib.hid hg
  have HNM := Lib.hid (al_nm hal)
  have HKAL := Lib.hid ((al_is _).1 hal).2
  have HLEN := Lib.hid hlen
  have HSZ := Lib.hid hx
  have ha5 : a.length ≤ 9223372036854775807 := (Kd.F_now g2).2.1
  have hk5 : k.length ≤ 9223372036854775807 := (Kd.F_now g5).2.1
  have z1 : (o == (1 : Int)) = false := by simp; omega
  have z2 : (o == (2 : Int)) = false := by simp; omega
  have z3 : (o == (3 : Int)) = false := by simp; omega
  have z8 : (o == (8 : Int)) = false := by simp; omega
  have z9 : (o == (9 : Int)) = false := by simp; omega
  have z10 : (o == (10 : Int)) = true := by simp; omega
  have HO := Lib.hid ho
  have HHL := Lib.hid (show (headB ⟨o, nm, a, f, t, k⟩).length ≤ 120 from headB_len HNM.out)
  have HTX := Lib.hid (show textB ⟨o, nm, a, f, t, k⟩ = headB ⟨o, nm, a, f, t, k⟩ ++ 40 :: (commas (a.map refB) ++ commas (k.map textB) ++ [41]) by rw [textB_is]; exact if_neg (by show ¬ (o = 1 ∨ o = 2); omega))
  clear hrec hF hBI hTB hg hal hlen hx g2 g5 l5 ho
  dsimp only at *
  obtain ⟨w1, hw1⟩ : ∃ w1, (w.alloc (.cells #[.int .i64 o, .string nm, .slice A2 a.length c2, .int .i64 f, .int .i64 t, .slice A5 k.length c5] 32)) = w1 := ⟨_, rfl⟩
  have HW10 := Lib.hid hw1
  rw [hw1] at HW0 HWB HTB HBX
  clear hw1
  have HTB1 := Lib.hid HTB.out
  have HBX1 := Lib.hid HBX.out
  go_enter Tryz.func53, Tryz.ntmps53
  obtain ⟨s, hs, hsk⟩ := kw_f o
  have HHE := Lib.hid (show headB ⟨o, nm, a, f, t, k⟩ = s.data.toList ++ 32 :: (Lib.itoa f ++ 32 :: Lib.itoa t) by rw [hsk]; unfold headB; rw [if_neg (by show ¬ o = 3; have := HO.out; omega), if_neg (by show ¬ (o = 8 ∨ o = 9); have := HO.out; omega), if_pos (by show o = 10; have := HO.out; omega)])
  have HSK := Lib.hid hsk
  have HKW := Lib.hid hs
  clear hs hsk
  obtain ⟨S, hS⟩ : ∃ S : ByteArray, (⟨(Lib.itoa f).toArray⟩ : ByteArray) = S := ⟨_, rfl⟩
  obtain ⟨T, hT⟩ : ∃ T : ByteArray, (⟨(Lib.itoa t).toArray⟩ : ByteArray) = T := ⟨_, rfl⟩
  have HSS := Lib.hid (show S.data.toList = Lib.itoa f by rw [← hS])
  have HTT := Lib.hid (show T.data.toList = Lib.itoa t by rw [← hT])
  have hsz1 : s.size ≤ 9 := by have h1 := congrArg List.length HSK.out; have h2 := kwd_len o; have e : s.data.toList.length = s.size := rfl; omega
  have hsz2 : S.size ≤ 21 := by rw [← hS]; have := Lib.itoa_length_le f HNM.out.frm.1 HNM.out.frm.2; simpa [ByteArray.size] using this
  have hsz3 : T.size ≤ 21 := by rw [← hT]; have := Lib.itoa_length_le t HNM.out.too.1 HNM.out.too.2; simpa [ByteArray.size] using this
  have HIF := Lib.hid (show ∀ W, Wr b l w1 W → Calls Tryz.prog 87 #[.int .i64 f] W fun e w' => e = .returned (.string S) ∧ Wr b l w1 w' from fun W hW => (itoa_any f HNM.out.frm.1 HNM.out.frm.2 (hW.tb HTB1.out HGG.out)).mono fun e w' h => by obtain ⟨he, kk, os, rfl⟩ := h; exact ⟨by rw [he, hS], hW.itoa⟩)
  have HIT := Lib.hid (show ∀ W, Wr b l w1 W → Calls Tryz.prog 87 #[.int .i64 t] W fun e w' => e = .returned (.string T) ∧ Wr b l w1 w' from fun W hW => (itoa_any t HNM.out.too.1 HNM.out.too.2 (hW.tb HTB1.out HGG.out)).mono fun e w' h => by obtain ⟨he, kk, os, rfl⟩ := h; exact ⟨by rw [he, hT], hW.itoa⟩)
  clear hS hT
  have hcat : ∀ W : World, (Op.stringOp .add s ⟨#[32]⟩).run Tryz.prog W = .ok (.string (s ++ ⟨#[32]⟩)) W := fun W => run_string_add_sum W _ _ (by show s.size + 1 ≤ _; omega)
  have hcat2 : ∀ W : World, (Op.stringOp .add (s ++ ⟨#[32]⟩) S).run Tryz.prog W = .ok (.string (s ++ ⟨#[32]⟩ ++ S)) W := fun W => run_string_add_sum W _ _ (by rw [ByteArray.size_append]; show s.size + 1 + S.size ≤ _; omega)
  have hcat3 : ∀ W : World, (Op.stringOp .add (s ++ ⟨#[32]⟩ ++ S) ⟨#[32]⟩).run Tryz.prog W = .ok (.string (s ++ ⟨#[32]⟩ ++ S ++ ⟨#[32]⟩)) W := fun W => run_string_add_sum W _ _ (by rw [ByteArray.size_append, ByteArray.size_append]; show s.size + 1 + S.size + 1 ≤ _; omega)
  have hcat4 : ∀ W : World, (Op.stringOp .add (s ++ ⟨#[32]⟩ ++ S ++ ⟨#[32]⟩) T).run Tryz.prog W = .ok (.string (s ++ ⟨#[32]⟩ ++ S ++ ⟨#[32]⟩ ++ T)) W := fun W => run_string_add_sum W _ _ (by rw [ByteArray.size_append, ByteArray.size_append, ByteArray.size_append]; show s.size + 1 + S.size + 1 + T.size ≤ _; omega)
  have hc1 : ¬ (9223372036854775807 < s.size + 1) := by omega
  have hc2 : ¬ (9223372036854775807 < s.size + 1 + S.size) := by omega
  have hc3 : ¬ (9223372036854775807 < s.size + 1 + S.size + 1) := by omega
  have hc4 : ¬ (9223372036854775807 < s.size + 1 + S.size + 1 + T.size) := by omega
  have HCT := Lib.hid (show (s ++ ⟨#[32]⟩ ++ S ++ ⟨#[32]⟩ ++ T).data.toList = s.data.toList ++ 32 :: (Lib.itoa f ++ 32 :: Lib.itoa t) by rw [← HSS.out, ← HTT.out]; simp only [ByteArray.data_append, Array.toList_append]; simp)
  have HC0 := Lib.hid (show ∀ W, Wr b l w1 W → W.cell? ⟨w.heap.size, 0, none⟩ = some (.int .i64 o) ∧ W.cell? ⟨w.heap.size, 3, none⟩ = some (.int .i64 f) ∧ W.cell? ⟨w.heap.size, 4, none⟩ = some (.int .i64 t) from fun W hW => by have h := cells_of (hW.blk HBX1.out (by decide) (by have := HBL.out; omega)); exact ⟨h.1, h.2.2.2.1, h.2.2.2.2.1⟩)
  go_wp2_with fail
  rw [HW10.out]
  refine start_ (n := 15) (S := fun w' => Wr b l w1 w') (ds := [14]) #[false, false, false, false, false, false, false, false, false, false, false, false, false, false, false] (by kernel_rfl) rfl rfl HW0.out.drew (fun hHeld => ?_)
  generalize w1.drew = w3 at hHeld ⊢
  refine pure_ (i := 0) (N := (some 48)) (v := ?_) (a' := ?_) #[true, false, false, false, false, false, false, false, false, false, false, false, false, false, false] rfl rfl (by kernel_rfl) (fun _ _ _ h => h) (Or.inl ⟨by rfl, ?_⟩) ?_ ?_
  rotate_left
  · intro w'
    go_simp
    with_reducible rfl
  rotate_left
  · simp only [Act.put, List.setIfInBounds_toArray, List.set_cons_zero, List.set_cons_succ]
    rfl
  refine pure_ (i := 1) (N := (some 49)) (v := ?_) (a' := ?_) #[true, true, false, false, false, false, false, false, false, false, false, false, false, false, false] rfl rfl (by kernel_rfl) (fun _ _ _ h => h) (Or.inl ⟨by rfl, ?_⟩) ?_ ?_
  rotate_left
  · intro w'
    go_simp
    with_reducible rfl
  rotate_left
  · simp only [Act.put, List.setIfInBounds_toArray, List.set_cons_zero, List.set_cons_succ]
    rfl
  refine take_ (i := 2) (N := (some 50)) (v := ?_) (a' := ?_) #[true, true, true, false, false, false, false, false, false, false, false, false, false, false, false] rfl rfl (by kernel_rfl) (fun _ _ _ h => h) (Or.inl ⟨by rfl, ?_⟩) hHeld ?_ ?_
  rotate_left
  · rintro w' s0
    obtain ⟨p0, p3, p4⟩ := HC0.out _ s0
    go_simp
    with_reducible rfl
  rotate_left
  · simp only [Act.put, List.setIfInBounds_toArray, List.set_cons_zero, List.set_cons_succ]
    rfl
  refine pure_ (i := 5) (N := (some 53)) (v := ?_) (a' := ?_) #[true, true, true, false, false, true, false, false, false, false, false, false, false, false, false] rfl rfl (by kernel_rfl) (fun _ _ _ h => h) (Or.inl ⟨by rfl, ?_⟩) ?_ ?_
  rotate_left
  · intro w'
    go_simp
    with_reducible rfl
  rotate_left
  · simp only [Act.put, List.setIfInBounds_toArray, List.set_cons_zero, List.set_cons_succ]
    rfl
  refine take_ (i := 6) (N := (some 54)) (v := ?_) (a' := ?_) #[true, true, true, false, false, true, true, false, false, false, false, false, false, false, false] rfl rfl (by kernel_rfl) (fun _ _ _ h => h) (Or.inl ⟨by rfl, ?_⟩) hHeld ?_ ?_
  rotate_left
  · rintro w' s0
    obtain ⟨p0, p3, p4⟩ := HC0.out _ s0
    go_simp
    with_reducible rfl
  rotate_left
  · simp only [Act.put, List.setIfInBounds_toArray, List.set_cons_zero, List.set_cons_succ]
    rfl
  refine pure_ (i := 10) (N := (some 58)) (v := ?_) (a' := ?_) #[true, true, true, false, false, true, true, false, false, false, true, false, false, false, false] rfl rfl (by kernel_rfl) (fun _ _ _ h => h) (Or.inl ⟨by rfl, ?_⟩) ?_ ?_
  rotate_left
  · intro w'
    go_simp
    with_reducible rfl
  rotate_left
  · simp only [Act.put, List.setIfInBounds_toArray, List.set_cons_zero, List.set_cons_succ]
    rfl
  refine take_ (i := 11) (N := (some 59)) (v := ?_) (a' := ?_) #[true, true, true, false, false, true, true, false, false, false, true, true, false, false, false] rfl rfl (by kernel_rfl) (fun _ _ _ h => h) (Or.inl ⟨by rfl, ?_⟩) hHeld ?_ ?_
  rotate_left
  · rintro w' s0
    obtain ⟨p0, p3, p4⟩ := HC0.out _ s0
    go_simp
    with_reducible rfl
  rotate_left
  · simp only [Act.put, List.setIfInBounds_toArray, List.set_cons_zero, List.set_cons_succ]
    rfl
  refine one_ (i := 3) (N := (some 51)) #[true, true, true, true, false, true, true, false, false, false, true, true, false, false, false] rfl rfl (by kernel_rfl) (by decide) (fun K hK => ?_)
  go_simp
  refine (formula_keyword.calls o s _ HKW.out).mono ?_
  rintro e w4 ⟨rfl, hd⟩
  refine hK.out _ _ (hHeld.drawn hd) (fun hHeld => ?_)
  clear hK K
  (try simp only [Act.put, List.setIfInBounds_toArray, List.set_cons_zero, List.set_cons_succ])
  refine pure_ (i := 4) (N := (some 52)) (v := ?_) (a' := ?_) #[true, true, true, true, true, true, true, false, false, false, true, true, false, false, false] rfl rfl (by kernel_rfl) (fun _ _ _ h => h) (Or.inl ⟨by rfl, ?_⟩) ?_ ?_
  rotate_left
  · intro w'
    go_simp
    with_reducible rfl
  rotate_left
  · simp only [Act.put, List.setIfInBounds_toArray, List.set_cons_zero, List.set_cons_succ]
    rfl
  refine one_ (i := 7) (N := (some 55)) #[true, true, true, true, true, true, true, true, false, false, true, true, false, false, false] rfl rfl (by kernel_rfl) (by decide) (fun K hK => ?_)
  go_simp
  refine (HIF.out _ hHeld).mono ?_
  rintro e w6 ⟨rfl, hwi⟩
  refine hK.out _ _ hwi (fun hHeld => ?_)
  clear hK K
  (try simp only [Act.put, List.setIfInBounds_toArray, List.set_cons_zero, List.set_cons_succ])
  refine pure_ (i := 8) (N := (some 56)) (v := ?_) (a' := ?_) #[true, true, true, true, true, true, true, true, true, false, true, true, false, false, false] rfl rfl (by kernel_rfl) (fun _ _ _ h => h) (Or.inl ⟨by rfl, ?_⟩) ?_ ?_
  rotate_left
  · intro w'
    go_simp
    with_reducible rfl
  rotate_left
  · simp only [Act.put, List.setIfInBounds_toArray, List.set_cons_zero, List.set_cons_succ]
    rfl
  refine pure_ (i := 9) (N := (some 57)) (v := ?_) (a' := ?_) #[true, true, true, true, true, true, true, true, true, true, true, true, false, false, false] rfl rfl (by kernel_rfl) (fun _ _ _ h => h) (Or.inl ⟨by rfl, ?_⟩) ?_ ?_
  rotate_left
  · intro w'
    go_simp
    with_reducible rfl
  rotate_left
  · simp only [Act.put, List.setIfInBounds_toArray, List.set_cons_zero, List.set_cons_succ]
    rfl
  refine one_ (i := 12) (N := (some 60)) #[true, true, true, true, true, true, true, true, true, true, true, true, true, false, false] rfl rfl (by kernel_rfl) (by decide) (fun K hK => ?_)
  go_simp
  refine (HIT.out _ hHeld).mono ?_
  rintro e w7 ⟨rfl, hwt⟩
  refine hK.out _ _ hwt (fun hHeld => ?_)
  clear hK K
  (try simp only [Act.put, List.setIfInBounds_toArray, List.set_cons_zero, List.set_cons_succ])
  refine pure_ (i := 13) (N := (some 61)) (v := ?_) (a' := ?_) #[true, true, true, true, true, true, true, true, true, true, true, true, true, true, false] rfl rfl (by kernel_rfl) (fun _ _ _ h => h) (Or.inl ⟨by rfl, ?_⟩) ?_ ?_
  rotate_left
  · intro w'
    go_simp
    with_reducible rfl
  rotate_left
  · simp only [Act.put, List.setIfInBounds_toArray, List.set_cons_zero, List.set_cons_succ]
    rfl
  refine last_ (i := 14) (N := (some 62)) #[true, true, true, true, true, true, true, true, true, true, true, true, true, true, true] rfl rfl (by kernel_rfl) (by decide) (fun K hK => ?_)
  go_simp
  obtain ⟨S2, hS2⟩ : ∃ S2, s ++ (⟨#[32]⟩ : ByteArray) ++ S ++ ⟨#[32]⟩ ++ T = S2 := ⟨_, rfl⟩
  rw [hS2] at HCT ⊢
  clear hS2
  refine (ws_any S2 hHeld.1 (by have h1 := congrArg List.length HCT.out; rw [List.length_append, List.length_cons, List.length_append, List.length_cons] at h1; have e1 : s.data.toList.length = s.size := rfl; have := Lib.itoa_length_le f HNM.out.frm.1 HNM.out.frm.2; have := Lib.itoa_length_le t HNM.out.too.1 HNM.out.too.2; have := HLEN.out; omega)).mono ?_
  rintro e w5 ⟨rfl, hw⟩
  have HWH := Lib.hid (hHeld.step hw)
  rw [HCT.out, ← HHE.out] at HWH
  clear hw
  refine hK.out _ _ ?_
  clear hK K
  (try simp only [Act.put, List.setIfInBounds_toArray, List.set_cons_zero, List.set_cons_succ])
  refine done_ (by kernel_rfl) ?_
  have HBX5 := Lib.hid (HWH.out.blk HBX1.out (by decide) (by have := HBL.out; omega))
  obtain ⟨k0, k1, k2, k3, k4, k5⟩ := cells_of HBX5.out
  go_wp2_with fail
  refine (wb_any 40 40 rfl HWH.out.1 (by have := HHL.out; have := HLEN.out; rw [List.length_append]; omega)).mono ?_
  rintro e w6 ⟨rfl, hw⟩
  have HW6 := Lib.hid (HWH.out.step hw)
  have HBX6 := Lib.hid (HW6.out.blk HBX1.out (by decide) (by have := HBL.out; omega))
  clear hw k0 k1 k2 k3 k4 k5
  obtain ⟨k0, k1, k2, k3, k4, k5⟩ := cells_of HBX6.out
  have HL1 := Lib.hid (show (l ++ headB ⟨o, nm, a, f, t, k⟩ ++ [40]).length ≤ l.length + 121 by have := HHL.out; simp only [List.length_append, List.length_cons, List.length_nil]; omega)
  obtain ⟨L1, hL1⟩ : ∃ L1, l ++ headB ⟨o, nm, a, f, t, k⟩ ++ [40] = L1 := ⟨_, rfl⟩
  rw [hL1] at HW6 HL1
  have HLL1 := Lib.hid hL1
  clear hL1
  go_wp2
  go_loopw [68] (fun v68 wr => RefRel b L1 a w1 v68 wr) (fun v68 _ => a.length - (intOf v68).toNat)
  case atStart => exact ⟨0, rfl, Nat.zero_le _, by simpa [commas] using HW6.out⟩
  case round =>
    obtain ⟨j, rfl, hj, hwr⟩ := hrel
    have HWR := Lib.hid hwr
    clear hwr k0 k1 k2 k3 k4 k5
    have HCL := Lib.hid (show (commas ((a.take j).map refB)).length ≤ 1020 from refs_len (fun r hr => refB_len (HNM.out.ref r hr)) HNM.out.refs j)
    have HLR := Lib.hid (show (L1 ++ commas ((a.take j).map refB)).length ≤ l.length + 1141 by rw [List.length_append]; have := HCL.out; have := HL1.out; omega)
    by_cases hlt : j < a.length
    · have hj0 : 0 ≤ (j : Int) := by omega
      have hj1 : (j : Int) < (a.length : Int) := by omega
      obtain ⟨ad, e1, q0, q1, q2⟩ := ref_at (Kd.F_now (Kd.F_step HG2.out (fun k hk _ => (HWB.out.base HWR.out).2.1.block k hk))) j hlt
      subst e1
      have HCN := Lib.hid (commas_next refB hlt)
      have HRM := Lib.hid (HNM.out.ref _ (List.getElem_mem hlt))
      obtain ⟨r, hr⟩ : ∃ r, a[j] = r := ⟨_, rfl⟩
      rw [hr] at q0 q1 q2 HCN HRM
      clear hr
      have HR5 := Lib.hid (blk_new wr (.cells #[.int .i64 r.f0, .int .i64 r.f1, .string r.f2] 84))
      have HWA := Lib.hid (HWR.out.alloc (.cells #[.int .i64 r.f0, .int .i64 r.f1, .string r.f2] 84))
      have HWS := Lib.hid (show b < wr.heap.size from bis_lt HWR.out.1)
      obtain ⟨LJ, hLJ⟩ : ∃ LJ, L1 ++ commas ((a.take j).map refB) = LJ := ⟨_, rfl⟩
      rw [hLJ] at HWA HLR
      have HLJ := Lib.hid hLJ
      clear hLJ HCL
      by_cases h0 : j = 0
      · have HJ0 := Lib.hid h0
        have gz : decide ((0 : Int) < (j : Int)) = false := decide_eq_false (by omega)
        have gzn : decide (0 < j) = false := decide_eq_false (by omega)
        clear h0
        have HWC := Lib.hid HWA.out
        obtain ⟨LC, hLC⟩ : ∃ LC, LJ = LC := ⟨_, rfl⟩
        have HLC2 := Lib.hid hLC
        rw [hLC] at HWC
        have HLC := Lib.hid (show LC.length ≤ l.length + 1143 by rw [← hLC]; have := HLR.out; omega)
        clear hLC
        by_cases h1 : r.f0 = 1
        · have HRF := Lib.hid (show refB r = 35 :: Lib.itoa r.f1 by unfold refB; rw [if_pos h1])
          have u1 : (r.f0 == (1 : Int)) = true := by simpa using h1
          clear h1
          go_wp2_with fail
          refine (itoa_any r.f1 HRM.out.2.1 HRM.out.2.2 (HWC.out.tb HTB1.out HGG.out)).mono ?_
          rintro e w8 ⟨rfl, kk, os, hgr⟩
          have HWI := Lib.hid (show Wr b LC w1 w8 by rw [hgr]; exact HWC.out.itoa)
          clear hgr
          obtain ⟨S, hS⟩ : ∃ S : ByteArray, (⟨(Lib.itoa r.f1).toArray⟩ : ByteArray) = S := ⟨_, rfl⟩
          rw [hS]
          have HSS := Lib.hid (show S.data.toList = Lib.itoa r.f1 by rw [← hS])
          have hsz : S.size ≤ 21 := by rw [← hS]; have := Lib.itoa_length_le r.f1 HRM.out.2.1 HRM.out.2.2; simpa [ByteArray.size] using this
          clear hS
          have hcat : ∀ W : World, (Op.stringOp .add ⟨#[35]⟩ S).run Tryz.prog W = .ok (.string (⟨#[35]⟩ ++ S)) W := fun W => run_string_add_sum W _ _ (by show 1 + S.size ≤ _; omega)
          have hc1 : ¬ (9223372036854775807 < 1 + S.size) := by omega
          have hc2 : ¬ (9223372036854775807 < (⟨#[35]⟩ : ByteArray).size + S.size) := by show ¬ (9223372036854775807 < 1 + S.size); omega
          have HCT := Lib.hid (show ((⟨#[35]⟩ : ByteArray) ++ S).data.toList = 35 :: Lib.itoa r.f1 by rw [ByteArray.data_append, Array.toList_append, HSS.out]; rfl)
          go_wp2_with fail
          obtain ⟨S2, hS2⟩ : ∃ S2, (⟨#[35]⟩ : ByteArray) ++ S = S2 := ⟨_, rfl⟩
          rw [hS2] at HCT ⊢
          clear hS2
          refine (ws_any S2 HWI.out.1 (by have h1 := congrArg List.length HCT.out; rw [List.length_cons] at h1; have := Lib.itoa_length_le r.f1 HRM.out.2.1 HRM.out.2.2; have := HLC.out; have := HLEN.out; omega)).mono ?_
          rintro e w9 ⟨rfl, hw9⟩
          have HW9 := Lib.hid (HWI.out.step hw9)
          clear hw9
          go_wp2
          go_roundw
          case rel => exact ⟨j + 1, by go_num, hlt, by rw [HCN.out, ← List.append_assoc, HLJ.out, if_pos HJ0.out, HRF.out]; have h9 := HW9.out; rw [← HLC2.out, HCT.out] at h9; exact h9⟩
          case measure => simp [intOf]; omega
        · by_cases h3 : r.f0 = 3
          · have HRF := Lib.hid (show refB r = 64 :: Lib.itoa r.f1 by unfold refB; rw [if_neg h1, if_pos h3])
            have u1 : (r.f0 == (1 : Int)) = false := by simpa using h1
            have u3 : (r.f0 == (3 : Int)) = true := by simpa using h3
            clear h1 h3
            go_wp2_with fail
            refine (itoa_any r.f1 HRM.out.2.1 HRM.out.2.2 (HWC.out.tb HTB1.out HGG.out)).mono ?_
            rintro e w8 ⟨rfl, kk, os, hgr⟩
            have HWI := Lib.hid (show Wr b LC w1 w8 by rw [hgr]; exact HWC.out.itoa)
            clear hgr
            obtain ⟨S, hS⟩ : ∃ S : ByteArray, (⟨(Lib.itoa r.f1).toArray⟩ : ByteArray) = S := ⟨_, rfl⟩
            rw [hS]
            have HSS := Lib.hid (show S.data.toList = Lib.itoa r.f1 by rw [← hS])
            have hsz : S.size ≤ 21 := by rw [← hS]; have := Lib.itoa_length_le r.f1 HRM.out.2.1 HRM.out.2.2; simpa [ByteArray.size] using this
            clear hS
            have hcat : ∀ W : World, (Op.stringOp .add ⟨#[64]⟩ S).run Tryz.prog W = .ok (.string (⟨#[64]⟩ ++ S)) W := fun W => run_string_add_sum W _ _ (by show 1 + S.size ≤ _; omega)
            have hc1 : ¬ (9223372036854775807 < 1 + S.size) := by omega
            have hc2 : ¬ (9223372036854775807 < (⟨#[64]⟩ : ByteArray).size + S.size) := by show ¬ (9223372036854775807 < 1 + S.size); omega
            have HCT := Lib.hid (show ((⟨#[64]⟩ : ByteArray) ++ S).data.toList = 64 :: Lib.itoa r.f1 by rw [ByteArray.data_append, Array.toList_append, HSS.out]; rfl)
            go_wp2_with fail
            obtain ⟨S2, hS2⟩ : ∃ S2, (⟨#[64]⟩ : ByteArray) ++ S = S2 := ⟨_, rfl⟩
            rw [hS2] at HCT ⊢
            clear hS2
            refine (ws_any S2 HWI.out.1 (by have h1 := congrArg List.length HCT.out; rw [List.length_cons] at h1; have := Lib.itoa_length_le r.f1 HRM.out.2.1 HRM.out.2.2; have := HLC.out; have := HLEN.out; omega)).mono ?_
            rintro e w9 ⟨rfl, hw9⟩
            have HW9 := Lib.hid (HWI.out.step hw9)
            clear hw9
            go_wp2
            go_roundw
            case rel => exact ⟨j + 1, by go_num, hlt, by rw [HCN.out, ← List.append_assoc, HLJ.out, if_pos HJ0.out, HRF.out]; have h9 := HW9.out; rw [← HLC2.out, HCT.out] at h9; exact h9⟩
            case measure => simp [intOf]; omega
          · by_cases h4 : r.f0 = 4
            · have HRF := Lib.hid (show refB r = Lib.itoa r.f1 by unfold refB; rw [if_neg h1, if_neg h3, if_pos h4])
              have u1 : (r.f0 == (1 : Int)) = false := by simpa using h1
              have u3 : (r.f0 == (3 : Int)) = false := by simpa using h3
              have u4 : (r.f0 == (4 : Int)) = true := by simpa using h4
              clear h1 h3 h4
              go_wp2_with fail
              refine (itoa_any r.f1 HRM.out.2.1 HRM.out.2.2 (HWC.out.tb HTB1.out HGG.out)).mono ?_
              rintro e w8 ⟨rfl, kk, os, hgr⟩
              have HWI := Lib.hid (show Wr b LC w1 w8 by rw [hgr]; exact HWC.out.itoa)
              clear hgr
              obtain ⟨S, hS⟩ : ∃ S : ByteArray, (⟨(Lib.itoa r.f1).toArray⟩ : ByteArray) = S := ⟨_, rfl⟩
              rw [hS]
              have HSS := Lib.hid (show S.data.toList = Lib.itoa r.f1 by rw [← hS])
              have hsz : S.size ≤ 21 := by rw [← hS]; have := Lib.itoa_length_le r.f1 HRM.out.2.1 HRM.out.2.2; simpa [ByteArray.size] using this
              clear hS
              go_wp2_with fail
              refine (ws_any S HWI.out.1 (by rw [HSS.out]; have := Lib.itoa_length_le r.f1 HRM.out.2.1 HRM.out.2.2; have := HLC.out; have := HLEN.out; omega)).mono ?_
              rintro e w9 ⟨rfl, hw9⟩
              have HW9 := Lib.hid (HWI.out.step hw9)
              clear hw9
              go_wp2
              go_roundw
              case rel => exact ⟨j + 1, by go_num, hlt, by rw [HCN.out, ← List.append_assoc, HLJ.out, if_pos HJ0.out, HRF.out]; have h9 := HW9.out; rw [← HLC2.out, HSS.out] at h9; exact h9⟩
              case measure => simp [intOf]; omega
            · have HRF := Lib.hid (show refB r = r.f2.data.toList by unfold refB; rw [if_neg h1, if_neg h3, if_neg h4])
              have u1 : (r.f0 == (1 : Int)) = false := by simpa using h1
              have u3 : (r.f0 == (3 : Int)) = false := by simpa using h3
              have u4 : (r.f0 == (4 : Int)) = false := by simpa using h4
              clear h1 h3 h4
              have HWI := Lib.hid HWC.out
              go_wp2_with fail
              refine (ws_any r.f2 HWI.out.1 (by have h := HRM.out.1; have := HLC.out; have := HLEN.out; have e : r.f2.data.toList.length = r.f2.size := rfl; omega)).mono ?_
              rintro e w9 ⟨rfl, hw9⟩
              have HW9 := Lib.hid (HWI.out.step hw9)
              clear hw9
              go_wp2
              go_roundw
              case rel => exact ⟨j + 1, by go_num, hlt, by rw [HCN.out, ← List.append_assoc, HLJ.out, if_pos HJ0.out, HRF.out]; have h9 := HW9.out; rw [← HLC2.out] at h9; exact h9⟩
              case measure => simp [intOf]; omega
      · have HJ0 := Lib.hid h0
        have gz : decide ((0 : Int) < (j : Int)) = true := decide_eq_true (by omega)
        have gzn : decide (0 < j) = true := decide_eq_true (by omega)
        clear h0
        go_wp2_with fail
        refine (ws_any ⟨#[44, 32]⟩ HWA.out.1 (by have := HLR.out; have := HLEN.out; simp; omega)).mono ?_
        rintro e w7 ⟨rfl, hw7⟩
        have HWC := Lib.hid (HWA.out.step hw7)
        have HR7 := Lib.hid (hw7.blk HR5.out (by decide) (by have := HWS.out; omega))
        have r70 : w7.cell? ⟨wr.heap.size, 0, none⟩ = some (.int .i64 r.f0) := blk_cell HR7.out 0
        have r71 : w7.cell? ⟨wr.heap.size, 1, none⟩ = some (.int .i64 r.f1) := blk_cell HR7.out 1
        have r72 : w7.cell? ⟨wr.heap.size, 2, none⟩ = some (.string r.f2) := blk_cell HR7.out 2
        clear hw7
        obtain ⟨LC, hLC⟩ : ∃ LC, LJ ++ (⟨#[44, 32]⟩ : ByteArray).data.toList = LC := ⟨_, rfl⟩
        have HLC2 := Lib.hid hLC
        rw [hLC] at HWC
        have HLC := Lib.hid (show LC.length ≤ l.length + 1143 by rw [← hLC]; have := HLR.out; simp; omega)
        clear hLC
        by_cases h1 : r.f0 = 1
        · have HRF := Lib.hid (show refB r = 35 :: Lib.itoa r.f1 by unfold refB; rw [if_pos h1])
          have u1 : (r.f0 == (1 : Int)) = true := by simpa using h1
          clear h1
          go_wp2_with fail
          refine (itoa_any r.f1 HRM.out.2.1 HRM.out.2.2 (HWC.out.tb HTB1.out HGG.out)).mono ?_
          rintro e w8 ⟨rfl, kk, os, hgr⟩
          have HWI := Lib.hid (show Wr b LC w1 w8 by rw [hgr]; exact HWC.out.itoa)
          clear hgr
          obtain ⟨S, hS⟩ : ∃ S : ByteArray, (⟨(Lib.itoa r.f1).toArray⟩ : ByteArray) = S := ⟨_, rfl⟩
          rw [hS]
          have HSS := Lib.hid (show S.data.toList = Lib.itoa r.f1 by rw [← hS])
          have hsz : S.size ≤ 21 := by rw [← hS]; have := Lib.itoa_length_le r.f1 HRM.out.2.1 HRM.out.2.2; simpa [ByteArray.size] using this
          clear hS
          have hcat : ∀ W : World, (Op.stringOp .add ⟨#[35]⟩ S).run Tryz.prog W = .ok (.string (⟨#[35]⟩ ++ S)) W := fun W => run_string_add_sum W _ _ (by show 1 + S.size ≤ _; omega)
          have hc1 : ¬ (9223372036854775807 < 1 + S.size) := by omega
          have hc2 : ¬ (9223372036854775807 < (⟨#[35]⟩ : ByteArray).size + S.size) := by show ¬ (9223372036854775807 < 1 + S.size); omega
          have HCT := Lib.hid (show ((⟨#[35]⟩ : ByteArray) ++ S).data.toList = 35 :: Lib.itoa r.f1 by rw [ByteArray.data_append, Array.toList_append, HSS.out]; rfl)
          go_wp2_with fail
          obtain ⟨S2, hS2⟩ : ∃ S2, (⟨#[35]⟩ : ByteArray) ++ S = S2 := ⟨_, rfl⟩
          rw [hS2] at HCT ⊢
          clear hS2
          refine (ws_any S2 HWI.out.1 (by have h1 := congrArg List.length HCT.out; rw [List.length_cons] at h1; have := Lib.itoa_length_le r.f1 HRM.out.2.1 HRM.out.2.2; have := HLC.out; have := HLEN.out; omega)).mono ?_
          rintro e w9 ⟨rfl, hw9⟩
          have HW9 := Lib.hid (HWI.out.step hw9)
          clear hw9
          go_wp2
          go_roundw
          case rel => exact ⟨j + 1, by go_num, hlt, by rw [HCN.out, ← List.append_assoc, HLJ.out, if_neg HJ0.out, HRF.out]; have h9 := HW9.out; rw [← HLC2.out, HCT.out] at h9; simpa using h9⟩
          case measure => simp [intOf]; omega
        · by_cases h3 : r.f0 = 3
          · have HRF := Lib.hid (show refB r = 64 :: Lib.itoa r.f1 by unfold refB; rw [if_neg h1, if_pos h3])
            have u1 : (r.f0 == (1 : Int)) = false := by simpa using h1
            have u3 : (r.f0 == (3 : Int)) = true := by simpa using h3
            clear h1 h3
            go_wp2_with fail
            refine (itoa_any r.f1 HRM.out.2.1 HRM.out.2.2 (HWC.out.tb HTB1.out HGG.out)).mono ?_
            rintro e w8 ⟨rfl, kk, os, hgr⟩
            have HWI := Lib.hid (show Wr b LC w1 w8 by rw [hgr]; exact HWC.out.itoa)
            clear hgr
            obtain ⟨S, hS⟩ : ∃ S : ByteArray, (⟨(Lib.itoa r.f1).toArray⟩ : ByteArray) = S := ⟨_, rfl⟩
            rw [hS]
            have HSS := Lib.hid (show S.data.toList = Lib.itoa r.f1 by rw [← hS])
            have hsz : S.size ≤ 21 := by rw [← hS]; have := Lib.itoa_length_le r.f1 HRM.out.2.1 HRM.out.2.2; simpa [ByteArray.size] using this
            clear hS
            have hcat : ∀ W : World, (Op.stringOp .add ⟨#[64]⟩ S).run Tryz.prog W = .ok (.string (⟨#[64]⟩ ++ S)) W := fun W => run_string_add_sum W _ _ (by show 1 + S.size ≤ _; omega)
            have hc1 : ¬ (9223372036854775807 < 1 + S.size) := by omega
            have hc2 : ¬ (9223372036854775807 < (⟨#[64]⟩ : ByteArray).size + S.size) := by show ¬ (9223372036854775807 < 1 + S.size); omega
            have HCT := Lib.hid (show ((⟨#[64]⟩ : ByteArray) ++ S).data.toList = 64 :: Lib.itoa r.f1 by rw [ByteArray.data_append, Array.toList_append, HSS.out]; rfl)
            go_wp2_with fail
            obtain ⟨S2, hS2⟩ : ∃ S2, (⟨#[64]⟩ : ByteArray) ++ S = S2 := ⟨_, rfl⟩
            rw [hS2] at HCT ⊢
            clear hS2
            refine (ws_any S2 HWI.out.1 (by have h1 := congrArg List.length HCT.out; rw [List.length_cons] at h1; have := Lib.itoa_length_le r.f1 HRM.out.2.1 HRM.out.2.2; have := HLC.out; have := HLEN.out; omega)).mono ?_
            rintro e w9 ⟨rfl, hw9⟩
            have HW9 := Lib.hid (HWI.out.step hw9)
            clear hw9
            go_wp2
            go_roundw
            case rel => exact ⟨j + 1, by go_num, hlt, by rw [HCN.out, ← List.append_assoc, HLJ.out, if_neg HJ0.out, HRF.out]; have h9 := HW9.out; rw [← HLC2.out, HCT.out] at h9; simpa using h9⟩
            case measure => simp [intOf]; omega
          · by_cases h4 : r.f0 = 4
            · have HRF := Lib.hid (show refB r = Lib.itoa r.f1 by unfold refB; rw [if_neg h1, if_neg h3, if_pos h4])
              have u1 : (r.f0 == (1 : Int)) = false := by simpa using h1
              have u3 : (r.f0 == (3 : Int)) = false := by simpa using h3
              have u4 : (r.f0 == (4 : Int)) = true := by simpa using h4
              clear h1 h3 h4
              go_wp2_with fail
              refine (itoa_any r.f1 HRM.out.2.1 HRM.out.2.2 (HWC.out.tb HTB1.out HGG.out)).mono ?_
              rintro e w8 ⟨rfl, kk, os, hgr⟩
              have HWI := Lib.hid (show Wr b LC w1 w8 by rw [hgr]; exact HWC.out.itoa)
              clear hgr
              obtain ⟨S, hS⟩ : ∃ S : ByteArray, (⟨(Lib.itoa r.f1).toArray⟩ : ByteArray) = S := ⟨_, rfl⟩
              rw [hS]
              have HSS := Lib.hid (show S.data.toList = Lib.itoa r.f1 by rw [← hS])
              have hsz : S.size ≤ 21 := by rw [← hS]; have := Lib.itoa_length_le r.f1 HRM.out.2.1 HRM.out.2.2; simpa [ByteArray.size] using this
              clear hS
              go_wp2_with fail
              refine (ws_any S HWI.out.1 (by rw [HSS.out]; have := Lib.itoa_length_le r.f1 HRM.out.2.1 HRM.out.2.2; have := HLC.out; have := HLEN.out; omega)).mono ?_
              rintro e w9 ⟨rfl, hw9⟩
              have HW9 := Lib.hid (HWI.out.step hw9)
              clear hw9
              go_wp2
              go_roundw
              case rel => exact ⟨j + 1, by go_num, hlt, by rw [HCN.out, ← List.append_assoc, HLJ.out, if_neg HJ0.out, HRF.out]; have h9 := HW9.out; rw [← HLC2.out, HSS.out] at h9; simpa using h9⟩
              case measure => simp [intOf]; omega
            · have HRF := Lib.hid (show refB r = r.f2.data.toList by unfold refB; rw [if_neg h1, if_neg h3, if_neg h4])
              have u1 : (r.f0 == (1 : Int)) = false := by simpa using h1
              have u3 : (r.f0 == (3 : Int)) = false := by simpa using h3
              have u4 : (r.f0 == (4 : Int)) = false := by simpa using h4
              clear h1 h3 h4
              have HWI := Lib.hid HWC.out
              go_wp2_with fail
              refine (ws_any r.f2 HWI.out.1 (by have h := HRM.out.1; have := HLC.out; have := HLEN.out; have e : r.f2.data.toList.length = r.f2.size := rfl; omega)).mono ?_
              rintro e w9 ⟨rfl, hw9⟩
              have HW9 := Lib.hid (HWI.out.step hw9)
              clear hw9
              go_wp2
              go_roundw
              case rel => exact ⟨j + 1, by go_num, hlt, by rw [HCN.out, ← List.append_assoc, HLJ.out, if_neg HJ0.out, HRF.out]; have h9 := HW9.out; rw [← HLC2.out] at h9; simpa using h9⟩
              case measure => simp [intOf]; omega
    · have hja : j = a.length := by omega
      subst hja
      clear hlt hj
      have HBX7 := Lib.hid (HWR.out.blk HBX1.out (by decide) (by have := HBL.out; omega))
      obtain ⟨k0, k1, k2, k3, k4, k5⟩ := cells_of HBX7.out
      rw [List.take_length] at HWR HLR HCL
      obtain ⟨L2, hL2⟩ : ∃ L2, L1 ++ commas (a.map refB) = L2 := ⟨_, rfl⟩
      rw [hL2] at HWR HLR
      have HLL2 := Lib.hid hL2
      clear hL2 HCL
      go_wp2
      go_loopw [110] (fun v110 wr => KidRel b L2 k w1 v110 wr) (fun v110 _ => k.length - (intOf v110).toNat)
      case atStart => exact ⟨0, rfl, Nat.zero_le _, by simpa [commas] using HWR.out⟩
      case round =>
        obtain ⟨j, rfl, hj, hwr⟩ := hrel
        have HWK := Lib.hid hwr
        clear hwr k0 k1 k2 k3 k4 k5
        by_cases hlt : j < k.length
        · have hj0 : 0 ≤ (j : Int) := by omega
          have hj1 : (j : Int) < (k.length : Int) := by omega
          obtain ⟨ad, A3, c3, A6, c6, e4, q0, q1, q2, q3, q4, q5, qF⟩ := form_F (Kd.F_step HG5.out (fun k hk _ => (HWB.out.base HWK.out).2.1.block k hk)) (Below.refl _ _) j hlt
          subst e4
          have HCN := Lib.hid (commas_next textB hlt)
          have HKLN := Lib.hid (kids_len HKAL.out hlt)
          have hmem : k[j] ∈ k := List.getElem_mem hlt
          obtain ⟨y, hy⟩ : ∃ y, k[j] = y := ⟨_, rfl⟩
          rw [hy] at q0 q1 q2 q3 q4 q5 qF hmem HCN HKLN
          clear hy
          have HQF := Lib.hid qF
          have HYL := Lib.hid (HKAL.out y hmem)
          have HYS := Lib.hid (show size y < n by have := kid_lt (x := ⟨o, nm, a, f, t, k⟩) hmem; have := HSZ.out; omega)
          have HXS := Lib.hid (show size ⟨o, nm, a, f, t, k⟩ = 1 + size.sizes k from size_is ⟨o, nm, a, f, t, k⟩)
          have HR5 := Lib.hid (blk_new wr (.cells #[.int .i64 y.f0, .string y.f1, .slice A3 y.f2.length c3, .int .i64 y.f3, .int .i64 y.f4, .slice A6 y.f5.length c6] 32))
          have HWA := Lib.hid (HWK.out.alloc (.cells #[.int .i64 y.f0, .string y.f1, .slice A3 y.f2.length c3, .int .i64 y.f3, .int .i64 y.f4, .slice A6 y.f5.length c6] 32))
          have HWAA := Lib.hid ((Wr.refl HWK.out.1).alloc (.cells #[.int .i64 y.f0, .string y.f1, .slice A3 y.f2.length c3, .int .i64 y.f3, .int .i64 y.f4, .slice A6 y.f5.length c6] 32))
          have HWS := Lib.hid (show b < wr.heap.size from bis_lt HWK.out.1)
          obtain ⟨LJ, hLJ⟩ : ∃ LJ, L2 ++ commas ((k.take j).map textB) = LJ := ⟨_, rfl⟩
          have HLRK := Lib.hid (show LJ.length + 2000 * size y + 857 ≤ l.length + 2000 * size ⟨o, nm, a, f, t, k⟩ by rw [← hLJ, List.length_append]; have := HKLN.out; have := HLR.out; have := HXS.out; omega)
          rw [hLJ] at HWA HWAA
          have HLJ := Lib.hid hLJ
          clear hLJ qF hmem
          by_cases h0 : j = 0
          · have HJ0 := Lib.hid h0
            have gz : decide ((0 : Int) < (j : Int)) = false := decide_eq_false (by omega)
            have gzn : decide (0 < j) = false := decide_eq_false (by omega)
            clear h0
            have HWC := Lib.hid HWA.out
            have HWCB := Lib.hid HWAA.out
            obtain ⟨LC, hLC⟩ : ∃ LC, LJ = LC := ⟨_, rfl⟩
            have HLC2 := Lib.hid hLC
            rw [hLC] at HWC HWCB
            have HLC := Lib.hid (show LC.length + 2000 * size y ≤ l.length + 2000 * size ⟨o, nm, a, f, t, k⟩ by rw [← hLC]; have := HLRK.out; omega)
            clear hLC
            have HCALL := Lib.hid (HREC.out y HYS.out b LC (wr.alloc (.cells #[.int .i64 y.f0, .string y.f1, .slice A3 y.f2.length c3, .int .i64 y.f3, .int .i64 y.f4, .slice A6 y.f5.length c6] 32)) _ (Kd.FK_step HQF.out (fun k hk _ => HWCB.out.2.1.block k hk)) HWC.out.1 (HWC.out.tb HTB1.out HGG.out) HGG.out HYL.out (by have := HLC.out; have := HLEN.out; omega))
            go_wp2_with fail
            refine HCALL.out.mono ?_
            rintro e w9 ⟨rfl, hw9⟩
            have HW9 := Lib.hid (HWC.out.step hw9.wrote)
            clear hw9
            go_wp2
            go_roundw
            case rel => exact ⟨j + 1, by go_num, hlt, by rw [HCN.out, ← List.append_assoc, HLJ.out, if_pos HJ0.out]; have h9 := HW9.out; rw [← HLC2.out] at h9; exact h9⟩
            case measure => simp [intOf]; omega
          · have HJ0 := Lib.hid h0
            have gz : decide ((0 : Int) < (j : Int)) = true := decide_eq_true (by omega)
            have gzn : decide (0 < j) = true := decide_eq_true (by omega)
            clear h0
            go_wp2_with fail
            refine (ws_any ⟨#[44, 32]⟩ HWA.out.1 (by have := HLRK.out; have := HLEN.out; simp; omega)).mono ?_
            rintro e w7 ⟨rfl, hw7⟩
            have HWC := Lib.hid (HWA.out.step hw7)
            have HWCB := Lib.hid (HWAA.out.step hw7)
            have HR7 := Lib.hid (hw7.blk HR5.out (by decide) (by have := HWS.out; omega))
            obtain ⟨r0, r1, r2, r3, r4, r5⟩ := cells_of HR7.out
            clear hw7
            obtain ⟨LC, hLC⟩ : ∃ LC, LJ ++ (⟨#[44, 32]⟩ : ByteArray).data.toList = LC := ⟨_, rfl⟩
            have HLC2 := Lib.hid hLC
            rw [hLC] at HWC HWCB
            have HLC := Lib.hid (show LC.length + 2000 * size y ≤ l.length + 2000 * size ⟨o, nm, a, f, t, k⟩ by rw [← hLC]; have := HLRK.out; simp; omega)
            clear hLC q0 q1 q2 q3 q4 q5
            have HCALL := Lib.hid (HREC.out y HYS.out b LC w7 _ (Kd.FK_step HQF.out (fun k hk _ => HWCB.out.2.1.block k hk)) HWC.out.1 (HWC.out.tb HTB1.out HGG.out) HGG.out HYL.out (by have := HLC.out; have := HLEN.out; omega))
            go_wp2_with fail
            refine HCALL.out.mono ?_
            rintro e w9 ⟨rfl, hw9⟩
            have HW9 := Lib.hid (HWC.out.step hw9.wrote)
            clear hw9
            go_wp2
            go_roundw
            case rel => exact ⟨j + 1, by go_num, hlt, by rw [HCN.out, ← List.append_assoc, HLJ.out, if_neg HJ0.out]; have h9 := HW9.out; rw [← HLC2.out] at h9; simpa using h9⟩
            case measure => simp [intOf]; omega
        · have hjk : j = k.length := by omega
          subst hjk
          clear hlt hj
          rw [List.take_length] at HWK
          go_wp2_with fail
          refine (wb_any 41 41 rfl HWK.out.1 (by have h1 := commas_sum (k.map textB); have h2 := textBs_len k HKAL.out; rw [textBs_map] at h2; have := HLR.out; have := HLEN.out; have := size_is ⟨o, nm, a, f, t, k⟩; dsimp only at this; rw [List.length_append]; omega)).mono ?_
          rintro e w9 ⟨rfl, hw9⟩
          have HW9 := Lib.hid (HWK.out.step hw9)
          clear hw9
          go_wp2
          go_end0
          exact ⟨rfl, by have h9 := HWB.out.base HW9.out; rw [HTX.out]; rw [← HLL2.out, ← HLL1.out] at h9; simpa using h9⟩
set_option maxRecDepth 1000000 in
set_option maxHeartbeats 4000000 in
theorem wr_const {o : Int} (ho : o = 1 ∨ o = 2) {nm : ByteArray} {a : List S84} {f t : Int} {k : List S32} {b : Nat} {l : List UInt8} {w : World} {cs : List Value} (hF : Kd.FK k32 w (fun k => k < b) ⟨o, nm, a, f, t, k⟩ cs) (hBI : BIs b (Lib.byteCells l) w) (hlen : l.length ≤ 1000000000) :
    Calls Tryz.prog 53 #[.pointer (some ⟨b, 0, none⟩), .agg cs.toArray] w fun e w' => e = .returned (.tuple #[]) ∧ Wr b (l ++ textB ⟨o, nm, a, f, t, k⟩) w w' := by
  obtain ⟨A2, c2, A5, c5, rfl, -⟩ := k32_openF hF
  have HWB := Lib.hid ((Wr.refl hBI).alloc (.cells #[.int .i64 o, .string nm, .slice A2 a.length c2, .int .i64 f, .int .i64 t, .slice A5 k.length c5] 32))
  have HTX := Lib.hid (show textB ⟨o, nm, a, f, t, k⟩ = kwd o by rw [textB_is]; exact if_pos ho)
  obtain ⟨s, hs, hsk⟩ := kw_f o
  have HSK := Lib.hid hsk
  have HKW := Lib.hid hs
  have HLEN := Lib.hid hlen
  clear hF hBI hs hsk hlen
  dsimp only at *
  rcases ho with rfl | rfl
  · go_enter Tryz.func53, Tryz.ntmps53
    go_wp2_with fail
    refine (formula_keyword.calls 1 s _ HKW.out).mono ?_
    rintro e w4 ⟨rfl, hd⟩
    have HW4 := Lib.hid (HWB.out.drawn hd)
    clear hd
    go_wp2_with fail
    refine (ws_any s HW4.out.1 (by rw [HSK.out]; have := kwd_len 1; have := HLEN.out; omega)).mono ?_
    rintro e w5 ⟨rfl, hw⟩
    have HW5 := Lib.hid (HW4.out.step hw)
    clear hw
    go_wp2
    refine bodyPost_ret (results_none rfl _ _ _) rfl ?_
    rw [HTX.out, ← HSK.out]
    exact ⟨rfl, HW5.out⟩
  · go_enter Tryz.func53, Tryz.ntmps53
    go_wp2_with fail
    refine (formula_keyword.calls 2 s _ HKW.out).mono ?_
    rintro e w4 ⟨rfl, hd⟩
    have HW4 := Lib.hid (HWB.out.drawn hd)
    clear hd
    go_wp2_with fail
    refine (ws_any s HW4.out.1 (by rw [HSK.out]; have := kwd_len 2; have := HLEN.out; omega)).mono ?_
    rintro e w5 ⟨rfl, hw⟩
    have HW5 := Lib.hid (HW4.out.step hw)
    clear hw
    go_wp2
    refine bodyPost_ret (results_none rfl _ _ _) rfl ?_
    rw [HTX.out, ← HSK.out]
    exact ⟨rfl, HW5.out⟩
theorem wr_all_n : ∀ n, WrTo n
  | 0 => fun x h => absurd h (Nat.not_lt_zero _)
  | n + 1 => by
    have hrec := wr_all_n n
    rintro ⟨o, nm, a, f, t, k⟩ hx b l w cs hF hBI hTB hg hal hlen
    by_cases h12 : o = 1 ∨ o = 2
    · exact wr_const h12 hF hBI (by omega)
    · by_cases h3 : o = 3
      · exact wr_atom hrec h3 hx hF hBI hTB hg hal hlen
      · by_cases h8 : o = 8
        · exact wr_all hrec h8 hx hF hBI hTB hg hal hlen
        · by_cases h9 : o = 9
          · exact wr_some hrec h9 hx hF hBI hTB hg hal hlen
          · by_cases h10 : o = 10
            · exact wr_dur hrec h10 hx hF hBI hTB hg hal hlen
            · exact wr_kw hrec (by omega) hx hF hBI hTB hg hal hlen
theorem tb_lt {w : World} (h : TB w) : ∀ g, Tryz.prog.globalNamed "internal/strconv.uint64pow10" = some g → g < w.heap.size := by
  intro g hg
  unfold TB Lib.TabIs World.var? at h
  simp only [hg, Option.bind_some] at h
  apply Classical.byContradiction
  intro hn
  rw [Array.getElem?_eq_none (by omega)] at h
  simp at h
theorem bis_new (w : World) : BIs w.heap.size (Lib.byteCells []) (w.alloc (.cells #[.pointer none, .slice none 0 0] 98)) :=
  Or.inl ⟨Nat.le_refl _, .slice none 0 0, blk_new w _, ⟨rfl, Or.inl ⟨rfl, rfl⟩⟩, by simp [Value.ownBlock]⟩
set_option maxRecDepth 1000000 in
set_option maxHeartbeats 4000000 in
theorem text_any {x : S32} {w : World} {cs : List Value} {ok : Nat → Prop} (hF : Kd.FK k32 w ok x cs) (hok : ∀ k, ok k → k < w.heap.size) (hTB : TB w) (hal : Al x) (hsz : size x ≤ 200000) :
    Calls Tryz.prog 39 #[.agg cs.toArray] w fun e w' => e = .returned (.string ⟨(textB x).toArray⟩) ∧ Below w.heap.size w w' := by
  have HF := Lib.hid hF
  obtain ⟨A2, c2, A5, c5, rfl, -⟩ := k32_openF hF
  have H1 := Lib.hid (one_blk w #[.int .i64 x.f0, .string x.f1, .slice A2 x.f2.length c2, .int .i64 x.f3, .int .i64 x.f4, .slice A5 x.f5.length c5])
  have hs1 : (w.alloc (.cells #[.int .i64 x.f0, .string x.f1, .slice A2 x.f2.length c2, .int .i64 x.f3, .int .i64 x.f4, .slice A5 x.f5.length c5] 32)).heap.size = w.heap.size + 1 := by show (w.heap.push _).size = _; simp
  have hbn := bis_new (w.alloc (.cells #[.int .i64 x.f0, .string x.f1, .slice A2 x.f2.length c2, .int .i64 x.f3, .int .i64 x.f4, .slice A5 x.f5.length c5] 32))
  rw [hs1] at hbn
  have HBN := Lib.hid hbn
  have HB2 := Lib.hid (H1.out.2.alloc H1.out.2.size (.cells #[.pointer none, .slice none 0 0] 98))
  have HCALL := Lib.hid (wr_all_n (size x + 1) x (by omega) (w.heap.size + 1) [] _ _ (Kd.FK_mono (Kd.FK_step HF.out (fun k _ hk => HB2.out.block k hk)) (fun k hk => Nat.lt_succ_of_lt (hok k hk))) HBN.out (tb_below hTB HB2.out (Or.inl (Nat.le_refl _))) (fun g hg => Nat.lt_succ_of_lt (tb_lt hTB g hg)) hal (by simp only [List.length_nil]; omega))
  clear hF hok hTB hal hsz hs1 hbn
  go_enter Tryz.func39, Tryz.ntmps39
  go_wp2_with fail
  refine HCALL.out.mono ?_
  rintro e w3 ⟨rfl, hw3⟩
  have HW3 := Lib.hid hw3
  have HB3 := Lib.hid (show Below w.heap.size w w3 from HB2.out.trans ⟨hw3.2.1.os, hw3.2.1.tape, hw3.2.1.output, hw3.2.1.size, fun k hk => hw3.2.1.block k (Nat.lt_succ_of_lt hk)⟩)
  clear hw3
  go_wp2_with fail
  refine (str_any (textB x) (by have := HW3.out.1; rwa [List.nil_append] at this) (Nat.le_of_lt (bis_lt HW3.out.1))).mono ?_
  rintro e w4 ⟨rfl, hb4⟩
  have HB4 := Lib.hid (show Below w.heap.size w w4 from HB3.out.trans ⟨hb4.os, hb4.tape, hb4.output, hb4.size, fun k hk => hb4.block k (Nat.lt_succ_of_lt hk)⟩)
  clear hb4
  go_wp2
  go_ret
  exact ⟨rfl, HB4.out⟩
/-- memory.keyOf -/
def keyF (g : ByteArray) (x : S32) : (ByteArray × ByteArray) × Int := if (ofF x).2 = 0 then ((g, ⟨(textB (ofF x).1).toArray⟩), 0) else ((eStr, eStr), (ofF x).2)
theorem of_al {x : S32} (h : Al x) : Al (ofF x).1 ∧ size (ofF x).1 ≤ 200 := by
  unfold ofF fitF limF
  split
  · split
    · rename_i h2
      simp only [Bool.and_eq_true, decide_eq_true_eq] at h2
      exact ⟨al_nf x false h, h2.1⟩
    · exact ⟨al_z, by decide⟩
  · exact ⟨al_z, by decide⟩
theorem two_cells {w : World} {s t : Nat} {c0 c1 : Value} (h : w.heap[s]? = some (.cells #[c0, c1] t (0, 0))) : w.cell? ⟨s, 0, none⟩ = some c0 ∧ w.cell? ⟨s, 1, none⟩ = some c1 ∧ w.frozen? ⟨s, 0, none⟩ = false ∧ w.frozen? ⟨s, 1, none⟩ = false :=
  ⟨blk_cell h 0, blk_cell h 1, blk_frozen h 0, blk_frozen h 1⟩
theorem two_set {w : World} {s t : Nat} {a0 a1 : Value} (h : w.heap[s]? = some (.cells #[a0, a1] t (0, 0))) (c0 c1 : Value) : ((w.setCell ⟨s, 0, none⟩ c0).setCell ⟨s, 1, none⟩ c1).heap[s]? = some (.cells #[c0, c1] t (0, 0)) := by
  have := blk_set (blk_set h 0 c0) 1 c1
  simpa using this
theorem res_key {fn : Func} {p u : Tmp} (h : fn.results = #[.cell p 57, .tmp u]) (tmps : Array Value) (w : World) (s : Nat) (c0 c1 : Value) (hp : tmps.getD p undef = .pointer (some ⟨s, 0, none⟩)) (hg : w.heap[s]? = some (.cells #[c0, c1] 57 (0, 0))) :
    (results fn tmps).run Tryz.prog w = .ok (.tuple #[.agg #[c0, c1], tmps.getD u undef]) w :=
  results_ct h _ _ s 57 #[c0, c1] (0, 0) _ hp hg Tryz.underlying57 rfl (by kernel_rfl)
theorem mix_slot (w : World) (X Y : Array Value) (s t : Nat) : ((w.alloc (.cells X s)).alloc (.cells Y t)).heap[w.heap.size]? = some (.cells X s (0, 0)) ∧ ((w.alloc (.cells X s)).alloc (.cells Y t)).heap[w.heap.size + 1]? = some (.cells Y t (0, 0)) ∧ Below w.heap.size w ((w.alloc (.cells X s)).alloc (.cells Y t)) ∧ ((w.alloc (.cells X s)).alloc (.cells Y t)).heap.size = w.heap.size + 2 := by
  have hb1 := (Below.refl w.heap.size w).alloc (Nat.le_refl _) (.cells X s)
  have hs : (w.alloc (.cells X s)).heap.size = w.heap.size + 1 := by show (w.heap.push _).size = _; simp
  refine ⟨(Below.heap_alloc _ _ _ (by rw [hs]; omega)).trans (blk_new w _), ?_, hb1.alloc hb1.size _, by show ((w.heap.push _).push _).size = _; simp⟩
  have := blk_new (w.alloc (.cells X s)) (.cells Y t)
  rwa [hs] at this
set_option maxRecDepth 1000000 in
set_option maxHeartbeats 4000000 in
theorem keyof_any {g : ByteArray} {x : S32} {w : World} {cs : List Value} {ok : Nat → Prop} (hF : Kd.FK k32 w ok x cs) (hok : ∀ k, ok k → k < w.heap.size) (hTB : TB w) (hal : Al x) (hsz : size x < 1000000) :
    Calls Tryz.prog 25 #[.string g, .agg cs.toArray] w fun e w' => e = .returned (.tuple #[.agg #[.string (keyF g x).1.1, .string (keyF g x).1.2], .int .i64 (keyF g x).2]) ∧ Below w.heap.size w w' := by
  have HF := Lib.hid hF
  have HOK := Lib.hid hok
  have HTB := Lib.hid hTB
  obtain ⟨A2, c2, A5, c5, rfl, -⟩ := k32_openF hF
  have HM := Lib.hid (mix_slot w #[.int .i64 x.f0, .string x.f1, .slice A2 x.f2.length c2, .int .i64 x.f3, .int .i64 x.f4, .slice A5 x.f5.length c5] #[.string ⟨#[]⟩, .string ⟨#[]⟩] 32 57)
  have HOF := Lib.hid (of_any (Kd.FK_step HF.out (fun k _ hk => HM.out.2.2.1.block k hk)) (fun k hk => Nat.lt_of_lt_of_le (HOK.out k hk) HM.out.2.2.1.size) hal hsz)
  have HAL := Lib.hid (of_al hal)
  have HK := Lib.hid (show keyF g x = if (ofF x).2 = 0 then ((g, ⟨(textB (ofF x).1).toArray⟩), 0) else ((eStr, eStr), (ofF x).2) from rfl)
  clear hF hok hTB hal hsz
  obtain ⟨p, hp⟩ : ∃ p, ofF x = p := ⟨_, rfl⟩
  rw [hp] at HOF HAL HK
  clear hp
  obtain ⟨y, m⟩ := p
  dsimp only at HAL HK
  go_enter Tryz.func25, Tryz.ntmps25
  go_wp2_with fail
  refine HOF.out.mono ?_
  rintro e w3 ⟨ds, rfl, hF3, hB3⟩
  dsimp only at hF3 ⊢
  have HF3 := Lib.hid (Kd.FK_bound hF3)
  have HB3 := Lib.hid (below_then HM.out.2.2.1 HM.out.2.2.1.size hB3)
  have HSB := Lib.hid ((hB3.block _ (blk_lt HM.out.2.1)).trans HM.out.2.1)
  obtain ⟨B2, d2, B5, d5, rfl, -⟩ := k32_openF hF3
  have HA3 := Lib.hid ((Below.refl w3.heap.size w3).alloc (Nat.le_refl _) (.cells #[.int .i64 y.f0, .string y.f1, .slice B2 y.f2.length d2, .int .i64 y.f3, .int .i64 y.f4, .slice B5 y.f5.length d5] 32))
  have HB4 := Lib.hid (below_then HB3.out HB3.out.size HA3.out)
  have HSB4 := Lib.hid ((HA3.out.block _ (blk_lt HSB.out)).trans HSB.out)
  clear hF3 hB3 HOF
  by_cases h0 : m = 0
  · subst h0
    have HK2 := Lib.hid (show keyF g x = ((g, ⟨(textB y).toArray⟩), 0) by rw [HK.out]; rfl)
    have HTX := Lib.hid (text_any (Kd.FK_step HF3.out (fun k _ hk => HA3.out.block k hk)) (fun k hk => Nat.lt_of_lt_of_le hk.2 HA3.out.size) (tb_below HTB.out HB4.out (Or.inl (Nat.le_refl _))) HAL.out.1 (by have := HAL.out.2; omega))
    go_wp2_with fail
    refine HTX.out.mono ?_
    rintro e w5 ⟨rfl, hb5⟩
    have HB5 := Lib.hid (below_then HB4.out HB4.out.size hb5)
    have HSB5 := Lib.hid ((hb5.block _ (blk_lt HSB4.out)).trans HSB4.out)
    obtain ⟨y0, y1, f0, f1⟩ := two_cells HSB5.out
    clear hb5
    go_wp2
    refine bodyPost_ret (res_key rfl _ _ _ _ _ rfl (two_set HSB5.out _ _)) rfl ?_
    rw [HK2.out]
    exact ⟨rfl, (HB5.out.setCell (p := ⟨w.heap.size + 1, 0, none⟩) (by show w.heap.size ≤ w.heap.size + 1; omega) _).setCell (p := ⟨w.heap.size + 1, 1, none⟩) (by show w.heap.size ≤ w.heap.size + 1; omega) _⟩
  · have HK2 := Lib.hid (show keyF g x = ((eStr, eStr), m) by rw [HK.out, if_neg h0])
    have gm : (m != (0 : Int)) = true := by simpa using h0
    obtain ⟨y0, y1, f0, f1⟩ := two_cells HSB4.out
    clear h0
    go_wp2
    refine bodyPost_ret (res_key rfl _ _ _ _ _ rfl (two_set HSB4.out _ _)) rfl ?_
    rw [HK2.out]
    exact ⟨rfl, (HB4.out.setCell (p := ⟨w.heap.size + 1, 0, none⟩) (by show w.heap.size ≤ w.heap.size + 1; omega) _).setCell (p := ⟨w.heap.size + 1, 1, none⟩) (by show w.heap.size ≤ w.heap.size + 1; omega) _⟩
end Go.Proofs.YtbahnpdgaoedmaaGreatDoor.Mm
