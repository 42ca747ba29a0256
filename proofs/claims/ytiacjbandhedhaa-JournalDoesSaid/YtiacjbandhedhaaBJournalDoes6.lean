/- Part 6 of the proof of JournalDoes: Jr. -/
import Derived.Test.YtiacjbandhedhaaBJournalDoes5
import Derived.Test.YtiacjbandhedhaaBJournalDoes4
/- JournalDoes: Open, Append and Len do what the chapter says, on a device that is crashed and armed in between. -/
namespace Go.Proofs.Ytiacjbandhedhaa.Jn
open Go.RowKit Go.Proofs.YtiacjbandhedhaaW.PrintWords Go.Proofs.YtiacjbandhedhaaW.PrintLast Go.Proofs.YtiacjbandhedhaaW.PrintMore
set_option linter.unusedSimpArgs false
set_option linter.unusedVariables false
theorem held_below4 {q k : Nat} {w w' : World} {o : Bool} {v u : Value} {A : Option Addr} {b : List UInt8} (h : w.cell? ⟨k, 1, none⟩ = some u ∧ w.cell? ⟨q, 3, none⟩ = some (.bool o) ∧ w.cell? ⟨q, 1, none⟩ = some v ∧ BC w A b) (hb : Below w.heap.size w w') : w'.cell? ⟨k, 1, none⟩ = some u ∧ w'.cell? ⟨q, 3, none⟩ = some (.bool o) ∧ w'.cell? ⟨q, 1, none⟩ = some v ∧ BC w' A b :=
  ⟨(hb.cell (World.block_lt_of_cell? w _ h.1)).trans h.1, held_below h.2 hb⟩
def DoRel (l : List Step) (w : World) (g q : Nat) (v7 v10 v13 : Value) (wr : World) : Prop :=
  ∃ (i : Nat) (d : Dv) (m : Nat) (en : Bool) (j k : Nat), v7 = .pointer (some ⟨j, 0, none⟩) ∧ v10 = .pointer (some ⟨k, 0, none⟩) ∧ v13 = .int .i64 i ∧ i ≤ l.length ∧ Pr w g q d d wr ∧ JAt 68 wr j g m en ∧ JAt 55 wr k q m en ∧ w.heap.size ≤ j ∧ w.heap.size ≤ k ∧ m ≤ 1048576 + i
theorem dv0_open (n : Int) : (dv0 n).open_ = (0, dv0 n) := by
  unfold Dv.open_
  rw [if_neg (by simp [dv0]), if_neg (by simp [dv0, scan])]
theorem dv0_scan (n : Int) : (scanAll (dv0 n).data).1 = [] := by simp [dv0, scan]
set_option maxRecDepth 1000000 in
set_option maxHeartbeats 4000000 in
theorem does_law {w : World} {A : Option Addr} {l : List Step} {c : Nat} (size : Int) (hsz : (Lit.int .i64 size).wf = true) (h : kst.C w A l.length l) (hc : l.length ≤ c) :
    Calls Try.prog 10 #[.int .i64 size, .slice A l.length c] w fun e w' => e = .returned (.bool true) ∧ Below w.heap.size w w' := by
  have HLS := Lib.hid h
  have hmx : l.length ≤ 9223372036854775807 := h.2.1
  have HSZ := Lib.hid (wf_le hsz)
  clear h hsz
  go_enter Try.func10, Try.ntmps10
  go_wp2_with fail
  refine (awake_any _).mono ?_
  rintro e w1 ⟨rfl, hb1⟩
  have HB1 := Lib.hid hb1
  clear hb1
  go_wp2_with fail
  refine (few_any (Kd.C_below HLS.out HB1.out) hc).mono ?_
  rintro e w2 ⟨rfl, hb2⟩
  have HB2 := Lib.hid (below_then HB1.out HB1.out.size hb2)
  clear hb2
  cases hf : fewB l with
  | false =>
    clear hf
    go_wp2_with fail
    refine (awake_any _).mono ?_
    rintro e w3 ⟨rfl, hb3⟩
    have HB3 := Lib.hid (below_then HB2.out HB2.out.size hb3)
    clear hb3
    go_wp2
    go_ret
    exact ⟨rfl, HB3.out⟩
  | true =>
    have HALL := Lib.hid (few_all hf)
    have HLL := Lib.hid (show l.length ≤ 30 by unfold fewB at hf; rw [Bool.and_eq_true] at hf; exact of_decide_eq_true hf.2)
    clear hf
    go_wp2_with fail
    refine (newdev_any w2 w.heap.size HB2.out.size size HSZ.out).mono ?_
    rintro e w3 ⟨g, v, rfl, ha, hb, hg, hn⟩
    have HN := Lib.hid (pr_new ha hn (below_then HB2.out HB2.out.size hb) size HSZ.out)
    clear ha hn hb hg
    go_wp2_with fail
    refine HN.out.mono ?_
    rintro e w4 ⟨q, rfl, hp⟩
    have HP4 := Lib.hid hp
    clear hp HN HSZ HB1 HB2
    have hol := open_left HP4.out
    rw [dv0_open, dv0_scan] at hol
    have HOL := Lib.hid hol
    clear hol
    go_wp2_with fail
    refine HOL.out.mono ?_
    rintro e w5 ⟨⟨vj5, vl5, rfl, hv5⟩, hp5, hk5⟩
    obtain ⟨j, rfl, hj5, hjb, _⟩ : ∃ j, vj5 = .pointer (some ⟨j, 0, none⟩) ∧ JAt 68 w5 j g 0 false ∧ w.heap.size ≤ j ∧ kbs.R 22 w5 w4.heap.size (fun _ => True) vl5 (([] : List (List UInt8)).map ib) := by
      rcases hv5 with ⟨_, h⟩ | ⟨h0, _⟩
      · exact h
      · exact absurd rfl h0
    have hor := open_right hp5
    rw [dv0_open, dv0_scan] at hor
    have HOR := Lib.hid hor
    have HJ5 := Lib.hid hj5
    have HJB := Lib.hid hjb
    clear hor hv5 hp5 hk5 HOL HP4 hj5 hjb
    go_wp2_with fail
    refine HOR.out.mono ?_
    rintro e w6 ⟨⟨vj6, vl6, rfl, hv6⟩, hp6, hk6, _⟩
    obtain ⟨k, rfl, hj6, hkb, _⟩ : ∃ k, vj6 = .pointer (some ⟨k, 0, none⟩) ∧ JAt 55 w6 k q 0 false ∧ w.heap.size ≤ k ∧ kbs.R 22 w6 w5.heap.size (fun _ => True) vl6 (([] : List (List UInt8)).map ib) := by
      rcases hv6 with ⟨_, h⟩ | ⟨h0, _⟩
      · exact h
      · exact absurd rfl h0
    have HR := Lib.hid (show DoRel l w g q (.pointer (some ⟨j, 0, none⟩)) (.pointer (some ⟨k, 0, none⟩)) (.int .i64 0) w6 from ⟨0, _, 0, false, j, k, rfl, rfl, rfl, Nat.zero_le _, hp6, HJ5.out.keepO hk6 (by decide) (by decide) (by decide), hj6, HJB.out, hkb, by omega⟩)
    clear hv6 hp6 hk6 hj6 hkb HOR HJ5 HJB
    go_wp2
    go_loopw [7, 10, 13] (fun v7 v10 v13 wr => DoRel l w g q v7 v10 v13 wr) (fun _ _ v13 _ => l.length - (intOf v13).toNat)
    case atStart => exact HR.out
    case round =>
      clear HR
      obtain ⟨i, d, m, en, j, k, rfl, rfl, rfl, hi, hp, hj, hk, hjb, hkb, hm⟩ := hrel
      have HP := Lib.hid hp
      have HJ := Lib.hid hj
      have HK := Lib.hid hk
      have HJB := Lib.hid hjb
      have HKB := Lib.hid hkb
      have HM := Lib.hid hm
      have HM2 := Lib.hid (show m < 1000000000 by have := HLL.out; omega)
      clear hp hj hk hjb hkb hm
      by_cases hlt : i < l.length
      · have hi0 : 0 ≤ (i : Int) := by omega
        have hi1 : (i : Int) < (l.length : Int) := by omega
        obtain ⟨ad, B, cB, e1, q0, q1, q2, hl, hC⟩ := at_st HLS.out i hlt
        subst e1
        replace q0 := (HP.out.bel.cell (World.block_lt_of_cell? w _ q0)).trans q0
        replace q1 := (HP.out.bel.cell (World.block_lt_of_cell? w _ q1)).trans q1
        replace q2 := (HP.out.bel.cell (World.block_lt_of_cell? w _ q2)).trans q2
        have HC := Lib.hid hC
        have HD9 := Lib.hid (HALL.out l[i] (List.getElem_mem _))
        obtain ⟨⟨kd, n, x⟩, hs⟩ : ∃ s, l[i] = s := ⟨_, rfl⟩
        rw [hs] at q0 q1 q2 hl HC HD9
        have HX := Lib.hid (show x.length < 900000000 by have := HD9.out; simp only at this; omega)
        clear hs hC HD9
        simp only at q0 q1 q2 hl
        by_cases k0 : kd = 0
        · subst k0
          as_aux_lemma =>
          go_wp2_with fail
          have HP5 := Lib.hid (HP.out.mv ((Below.refl wr.heap.size wr).alloc (Nat.le_refl _) (.cells #[.int .i64 0, .int .i64 n.val, .slice B x.length cB] 53)))
          have HJ5 := Lib.hid (HJ.out.below ((Below.refl wr.heap.size wr).alloc (Nat.le_refl _) (.cells #[.int .i64 0, .int .i64 n.val, .slice B x.length cB] 53)))
          have HK5 := Lib.hid (HK.out.below ((Below.refl wr.heap.size wr).alloc (Nat.le_refl _) (.cells #[.int .i64 0, .int .i64 n.val, .slice B x.length cB] 53)))
          have hb5 := blk_new wr (.cells #[.int .i64 0, .int .i64 n.val, .slice B x.length cB] 53)
          clear q0 q1 q2 HP HJ HK
          refine (p_crash HP5.out n.val).mono ?_
          rintro e w6 ⟨rfl, hp6, hk6⟩
          have HP6 := Lib.hid hp6
          have HJ6 := Lib.hid (HJ5.out.keepO hk6 (by decide) (by decide) (by decide))
          have HK6 := Lib.hid (HK5.out.keepO hk6 (by decide) (by decide) (by decide))
          have hb6 := (hk6 _ _ _ hb5 (by decide) (by decide) (by decide)).trans hb5
          have c1 := blk_cell hb6 1
          simp only [List.getElem?_toArray, List.getElem?_cons_succ, List.getElem?_cons_zero] at c1
          clear hp6 hk6 hb5 hb6 HP5 HJ5 HK5
          go_wp2_with fail
          refine (r_crash HP6.out n.val).mono ?_
          rintro e w7 ⟨rfl, hp7, hk7⟩
          obtain ⟨d1, hrd⟩ : ∃ d1, d.crash n.val = d1 := ⟨_, rfl⟩
          rw [hrd] at hp7
          have HP7 := Lib.hid hp7
          have HJ7 := Lib.hid (HJ6.out.keepO hk7 (by decide) (by decide) (by decide))
          have HK7 := Lib.hid (HK6.out.keepO hk7 (by decide) (by decide) (by decide))
          clear c1 hp7 hk7 hrd HP6 HJ6 HK6
          go_wp2_with fail
          have hol := open_left HP7.out
          have hor := fun (W : World) (h : PrB w g q d1.open_.2 d1 w7.heap.size W) => open_right h
          have hrs : (scanAll d1.data).1.length ≤ d1.data.length := (scan_le (d1.data.length + 1) d1.data).2
          obtain ⟨rs, hrs2⟩ : ∃ rs, (scanAll d1.data).1 = rs := ⟨_, rfl⟩
          have hok1 := HP7.out.ok
          unfold Dv.ok at hok1
          have HRS := Lib.hid (show rs.length ≤ 1048576 by rw [← hrs2]; omega)
          obtain ⟨⟨r, d'⟩, hrd⟩ : ∃ y, d1.open_ = y := ⟨_, rfl⟩
          rw [hrd, hrs2] at hol hor
          have HOR := Lib.hid hor
          clear hrs hrs2 hok1 hrd hor
          refine hol.mono ?_
          rintro e w8 ⟨⟨vj8, vl8, rfl, hv8⟩, hp8, hk8⟩
          have HP8 := Lib.hid hp8
          have HV8 := Lib.hid hv8
          have HJ8 := Lib.hid (HJ7.out.keepO hk8 (by decide) (by decide) (by decide))
          have HK8 := Lib.hid (HK7.out.keepO hk8 (by decide) (by decide) (by decide))
          clear hp8 hv8 hk8 hol HP7 HJ7 HK7
          go_wp2_with fail
          refine (HOR.out _ HP8.out).mono ?_
          rintro e w9 ⟨⟨vj9, vl9, rfl, hv9⟩, hp9, hk9, hR9⟩
          have HP9 := Lib.hid hp9
          have HJ9 := Lib.hid (HJ8.out.keepO hk9 (by decide) (by decide) (by decide))
          have HK9 := Lib.hid (HK8.out.keepO hk9 (by decide) (by decide) (by decide))
          by_cases hr0 : r = 0
          · subst hr0
            obtain ⟨j', rfl, hj8, hjb, hR8⟩ : ∃ j', vj8 = .pointer (some ⟨j', 0, none⟩) ∧ JAt 68 w8 j' g rs.length false ∧ w.heap.size ≤ j' ∧ kbs.R 22 w8 w7.heap.size (fun _ => True) vl8 (rs.map ib) := by
              rcases HV8.out with ⟨_, h⟩ | ⟨h0, _⟩
              · exact h
              · exact absurd rfl h0
            obtain ⟨k', rfl, hj9, hkb, hR9b⟩ : ∃ k', vj9 = .pointer (some ⟨k', 0, none⟩) ∧ JAt 55 w9 k' q rs.length false ∧ w.heap.size ≤ k' ∧ kbs.R 22 w9 w8.heap.size (fun _ => True) vl9 (rs.map ib) := by
              rcases hv9 with ⟨_, h⟩ | ⟨h0, _⟩
              · exact h
              · exact absurd rfl h0
            obtain ⟨A8, c8, e8, _, hC8⟩ := Kd.R_reads (hR9 _ _ hR8)
            obtain ⟨A9, c9, e9, _, hC9⟩ := Kd.R_reads hR9b
            rw [List.length_map] at e8 hC8 e9 hC9
            subst e8
            subst e9
            have HC8 := Lib.hid hC8
            have HC9 := Lib.hid hC9
            have HJN := Lib.hid (hj8.keepO hk9 (by decide) (by decide) (by decide))
            have HKN := Lib.hid hj9
            have HJB2 := Lib.hid hjb
            have HKB2 := Lib.hid hkb
            clear hp9 hk9 hR9 hv9 hj8 hjb hR8 hj9 hkb hR9b hC8 hC9 HV8 HJ8 HK8 HP8 HOR HJ9 HK9
            go_wp2_with fail
            refine (same_any HC8.out HC9.out).mono ?_
            rintro e w10 ⟨rfl, hb10⟩
            have HP7 := Lib.hid (HP9.out.mv hb10)
            have HJ7 := Lib.hid (HJN.out.below hb10)
            have HK7 := Lib.hid (HKN.out.below hb10)
            obtain ⟨m', hm'⟩ : ∃ m', rs.length = m' := ⟨_, rfl⟩
            rw [hm'] at HJ7 HK7
            have HMB := Lib.hid (show m' ≤ 1048576 + (i + 1) by have := HRS.out; omega)
            obtain ⟨en', hen⟩ : ∃ en', false = en' := ⟨_, rfl⟩
            rw [hen] at HJ7 HK7
            rw [show decide (rs = rs) = true from decide_eq_true rfl]
            clear hb10 hm' hen HC8 HC9 HP9 HJN HKN
            go_wp2
            have HP8 := Lib.hid (HP7.out.mv (Below.drew (Below.refl w10.heap.size w10)))
            have HJ8 := Lib.hid (HJ7.out.below (Below.drew (Below.refl w10.heap.size w10)))
            have HK8 := Lib.hid (HK7.out.below (Below.drew (Below.refl w10.heap.size w10)))
            obtain ⟨Ar, cr, r3, r1, rC⟩ := HP8.out.right
            have r0 := HK8.out.cells.2.1
            clear HP7 HJ7 HK7
            refine start_ (n := 27) (S := fun w' => w'.cell? ⟨k', 1, none⟩ = some (.int .i64 m') ∧ w'.cell? ⟨q, 3, none⟩ = some (.bool d'.off) ∧ w'.cell? ⟨q, 1, none⟩ = some (.slice Ar d'.data.length cr) ∧ BC w' Ar d'.data) (ds := []) #[false, false, false, false, false, false, false, false, false, false, false, false, false, false, false, false, false, false, false, false, false, false, false, false, false, false, false] (by kernel_rfl) rfl rfl ⟨r0, r3, r1, rC⟩ (fun hHeld => ?_)
            clear r0 r3 r1 rC
            generalize w10.drew = w8 at HP8 HJ8 HK8 hHeld ⊢
            refine pure_ (i := 0) (N := (some 118)) (v := ?_) (a' := ?_) #[true, false, false, false, false, false, false, false, false, false, false, false, false, false, false, false, false, false, false, false, false, false, false, false, false, false, false] rfl rfl (by kernel_rfl) (fun _ _ _ h => h) (Or.inl ⟨by rfl, ?_⟩) ?_ ?_
            rotate_left
            · intro w'
              go_simp
              with_reducible rfl
            rotate_left
            · simp only [Act.put, List.setIfInBounds_toArray, List.set_cons_zero, List.set_cons_succ]
              rfl
            refine pure_ (i := 2) (N := (some 120)) (v := ?_) (a' := ?_) #[true, false, true, false, false, false, false, false, false, false, false, false, false, false, false, false, false, false, false, false, false, false, false, false, false, false, false] rfl rfl (by kernel_rfl) (fun _ _ _ h => h) (Or.inl ⟨by rfl, ?_⟩) ?_ ?_
            rotate_left
            · intro w'
              go_simp
              with_reducible rfl
            rotate_left
            · simp only [Act.put, List.setIfInBounds_toArray, List.set_cons_zero, List.set_cons_succ]
              rfl
            refine pure_ (i := 3) (N := (some 121)) (v := ?_) (a' := ?_) #[true, false, true, true, false, false, false, false, false, false, false, false, false, false, false, false, false, false, false, false, false, false, false, false, false, false, false] rfl rfl (by kernel_rfl) (fun _ _ _ h => h) (Or.inl ⟨by rfl, ?_⟩) ?_ ?_
            rotate_left
            · intro w'
              go_simp
              with_reducible rfl
            rotate_left
            · simp only [Act.put, List.setIfInBounds_toArray, List.set_cons_zero, List.set_cons_succ]
              rfl
            refine pure_ (i := 4) (N := (some 122)) (v := ?_) (a' := ?_) #[true, false, true, true, true, false, false, false, false, false, false, false, false, false, false, false, false, false, false, false, false, false, false, false, false, false, false] rfl rfl (by kernel_rfl) (fun _ _ _ h => h) (Or.inl ⟨by rfl, ?_⟩) ?_ ?_
            rotate_left
            · intro w'
              go_simp
              with_reducible rfl
            rotate_left
            · simp only [Act.put, List.setIfInBounds_toArray, List.set_cons_zero, List.set_cons_succ]
              rfl
            refine take_ (i := 5) (N := (some 123)) (v := ?_) (a' := ?_) #[true, false, true, true, true, true, false, false, false, false, false, false, false, false, false, false, false, false, false, false, false, false, false, false, false, false, false] rfl rfl (by kernel_rfl) (fun _ _ _ h => h) (Or.inl ⟨by rfl, ?_⟩) hHeld ?_ ?_
            rotate_left
            · rintro w' ⟨s0, s1, s2, s3⟩
              go_simp
              with_reducible rfl
            rotate_left
            · simp only [Act.put, List.setIfInBounds_toArray, List.set_cons_zero, List.set_cons_succ]
              rfl
            refine one_ (i := 1) (N := (some 119)) #[true, true, true, true, true, true, false, false, false, false, false, false, false, false, false, false, false, false, false, false, false, false, false, false, false, false, false] rfl rfl (by kernel_rfl) (by decide) (fun K hK => ?_)
            go_simp
            refine (len_any HJ8.out).mono ?_
            rintro e w9 ⟨rfl, rfl⟩
            refine hK.out _ _ hHeld (fun hHeld => ?_)
            clear hK K
            (try simp only [Act.put, List.setIfInBounds_toArray, List.set_cons_zero, List.set_cons_succ])
            refine pure_ (i := 6) (N := (some 124)) (v := ?_) (a' := ?_) #[true, true, true, true, true, true, true, false, false, false, false, false, false, false, false, false, false, false, false, false, false, false, false, false, false, false, false] rfl rfl (by kernel_rfl) (fun _ _ _ h => h) (Or.inl ⟨by rfl, ?_⟩) ?_ ?_
            rotate_left
            · intro w'
              go_simp
              with_reducible rfl
            rotate_left
            · simp only [Act.put, List.setIfInBounds_toArray, List.set_cons_zero, List.set_cons_succ]
              rfl
            refine pure_ (i := 7) (N := (some 125)) (v := ?_) (a' := ?_) #[true, true, true, true, true, true, true, true, false, false, false, false, false, false, false, false, false, false, false, false, false, false, false, false, false, false, false] rfl rfl (by kernel_rfl) (fun _ _ _ h => h) (Or.inl ⟨by rfl, ?_⟩) ?_ ?_
            rotate_left
            · intro w'
              go_simp
              with_reducible rfl
            rotate_left
            · simp only [Act.put, List.setIfInBounds_toArray, List.set_cons_zero, List.set_cons_succ]
              rfl
            refine pure_ (i := 8) (N := (some 126)) (v := ?_) (a' := ?_) #[true, true, true, true, true, true, true, true, true, false, false, false, false, false, false, false, false, false, false, false, false, false, false, false, false, false, false] rfl rfl (by kernel_rfl) (fun _ _ _ h => h) (Or.inl ⟨by rfl, ?_⟩) ?_ ?_
            rotate_left
            · intro w'
              go_simp
              with_reducible rfl
            rotate_left
            · simp only [Act.put, List.setIfInBounds_toArray, List.set_cons_zero, List.set_cons_succ]
              rfl
            refine pure_ (i := 11) (N := (some 129)) (v := ?_) (a' := ?_) #[true, true, true, true, true, true, true, true, true, false, false, true, false, false, false, false, false, false, false, false, false, false, false, false, false, false, false] rfl rfl (by kernel_rfl) (fun _ _ _ h => h) (Or.inl ⟨by rfl, ?_⟩) ?_ ?_
            rotate_left
            · intro w'
              go_simp
              with_reducible rfl
            rotate_left
            · simp only [Act.put, List.setIfInBounds_toArray, List.set_cons_zero, List.set_cons_succ]
              rfl
            refine pure_ (i := 12) (N := (some 130)) (v := ?_) (a' := ?_) #[true, true, true, true, true, true, true, true, true, false, false, true, true, false, false, false, false, false, false, false, false, false, false, false, false, false, false] rfl rfl (by kernel_rfl) (fun _ _ _ h => h) (Or.inl ⟨by rfl, ?_⟩) ?_ ?_
            rotate_left
            · intro w'
              go_simp
              with_reducible rfl
            rotate_left
            · simp only [Act.put, List.setIfInBounds_toArray, List.set_cons_zero, List.set_cons_succ]
              rfl
            refine pure_ (i := 13) (N := (some 131)) (v := ?_) (a' := ?_) #[true, true, true, true, true, true, true, true, true, false, false, true, true, true, false, false, false, false, false, false, false, false, false, false, false, false, false] rfl rfl (by kernel_rfl) (fun _ _ _ h => h) (Or.inl ⟨by rfl, ?_⟩) ?_ ?_
            rotate_left
            · intro w'
              go_simp
              with_reducible rfl
            rotate_left
            · simp only [Act.put, List.setIfInBounds_toArray, List.set_cons_zero, List.set_cons_succ]
              rfl
            refine take_ (i := 14) (N := (some 132)) (v := ?_) (a' := ?_) #[true, true, true, true, true, true, true, true, true, false, false, true, true, true, true, false, false, false, false, false, false, false, false, false, false, false, false] rfl rfl (by kernel_rfl) (fun _ _ _ h => h) (Or.inl ⟨by rfl, ?_⟩) hHeld ?_ ?_
            rotate_left
            · rintro w' ⟨s0, s1, s2, s3⟩
              go_simp
              with_reducible rfl
            rotate_left
            · simp only [Act.put, List.setIfInBounds_toArray, List.set_cons_zero, List.set_cons_succ]
              rfl
            refine take_ (i := 15) (N := (some 133)) (v := ?_) (a' := ?_) #[true, true, true, true, true, true, true, true, true, false, false, true, true, true, true, true, false, false, false, false, false, false, false, false, false, false, false] rfl rfl (by kernel_rfl) (fun _ _ _ h => h) (Or.inl ⟨by rfl, ?_⟩) hHeld ?_ ?_
            rotate_left
            · rintro w' ⟨s0, s1, s2, s3⟩
              have hcv := conv_b (c := cr) s3
              go_simp
              with_reducible rfl
            rotate_left
            · simp only [Act.put, List.setIfInBounds_toArray, List.set_cons_zero, List.set_cons_succ]
              rfl
            refine one_ (i := 9) (N := (some 127)) #[true, true, true, true, true, true, true, true, true, true, false, true, true, true, true, true, false, false, false, false, false, false, false, false, false, false, false] rfl rfl (by kernel_rfl) (by decide) (fun K hK => ?_)
            go_simp
            refine (p_bytes HP8.out).mono ?_
            rintro e w10 ⟨A10, rfl, hC10, hb10⟩
            have HP10 := Lib.hid (HP8.out.mv hb10)
            have HJ10 := Lib.hid (HJ8.out.below hb10)
            have HK10 := Lib.hid (HK8.out.below hb10)
            have HC10 := Lib.hid hC10
            have HQ10 := Lib.hid (held_below4 hHeld hb10)
            clear hb10 hC10
            refine hK.out _ _ HQ10.out (fun hHeld => ?_)
            clear hK K
            (try simp only [Act.put, List.setIfInBounds_toArray, List.set_cons_zero, List.set_cons_succ])
            refine one_ (i := 10) (N := (some 128)) #[true, true, true, true, true, true, true, true, true, true, true, true, true, true, true, true, false, false, false, false, false, false, false, false, false, false, false] rfl rfl (by kernel_rfl) (by decide) (fun K hK => ?_)
            have hcv := conv_b (c := d'.data.length) HC10.out
            go_simp
            clear hcv
            refine hK.out _ _ HQ10.out (fun hHeld => ?_)
            clear hK K
            (try simp only [Act.put, List.setIfInBounds_toArray, List.set_cons_zero, List.set_cons_succ])
            refine pure_ (i := 16) (N := (some 134)) (v := ?_) (a' := ?_) #[true, true, true, true, true, true, true, true, true, true, true, true, true, true, true, true, true, false, false, false, false, false, false, false, false, false, false] rfl rfl (by kernel_rfl) (fun _ _ _ h => h) (Or.inl ⟨by rfl, ?_⟩) ?_ ?_
            rotate_left
            · intro w'
              go_simp
              with_reducible rfl
            rotate_left
            · simp only [Act.put, List.setIfInBounds_toArray, List.set_cons_zero, List.set_cons_succ]
              rfl
            refine pure_ (i := 17) (N := (some 135)) (v := ?_) (a' := ?_) #[true, true, true, true, true, true, true, true, true, true, true, true, true, true, true, true, true, true, false, false, false, false, false, false, false, false, false] rfl rfl (by kernel_rfl) (fun _ _ _ h => h) (Or.inl ⟨by rfl, ?_⟩) ?_ ?_
            rotate_left
            · intro w'
              go_simp
              with_reducible rfl
            rotate_left
            · simp only [Act.put, List.setIfInBounds_toArray, List.set_cons_zero, List.set_cons_succ]
              rfl
            refine pure_ (i := 18) (N := (some 136)) (v := ?_) (a' := ?_) #[true, true, true, true, true, true, true, true, true, true, true, true, true, true, true, true, true, true, true, false, false, false, false, false, false, false, false] rfl rfl (by kernel_rfl) (fun _ _ _ h => h) (Or.inl ⟨by rfl, ?_⟩) ?_ ?_
            rotate_left
            · intro w'
              go_simp
              with_reducible rfl
            rotate_left
            · simp only [Act.put, List.setIfInBounds_toArray, List.set_cons_zero, List.set_cons_succ]
              rfl
            refine pure_ (i := 19) (N := (some 137)) (v := ?_) (a' := ?_) #[true, true, true, true, true, true, true, true, true, true, true, true, true, true, true, true, true, true, true, true, false, false, false, false, false, false, false] rfl rfl (by kernel_rfl) (fun _ _ _ h => h) (Or.inl ⟨by rfl, ?_⟩) ?_ ?_
            rotate_left
            · intro w'
              go_simp
              with_reducible rfl
            rotate_left
            · simp only [Act.put, List.setIfInBounds_toArray, List.set_cons_zero, List.set_cons_succ]
              rfl
            refine pure_ (i := 21) (N := (some 139)) (v := ?_) (a' := ?_) #[true, true, true, true, true, true, true, true, true, true, true, true, true, true, true, true, true, true, true, true, false, true, false, false, false, false, false] rfl rfl (by kernel_rfl) (fun _ _ _ h => h) (Or.inl ⟨by rfl, ?_⟩) ?_ ?_
            rotate_left
            · intro w'
              go_simp
              with_reducible rfl
            rotate_left
            · simp only [Act.put, List.setIfInBounds_toArray, List.set_cons_zero, List.set_cons_succ]
              rfl
            refine pure_ (i := 22) (N := (some 140)) (v := ?_) (a' := ?_) #[true, true, true, true, true, true, true, true, true, true, true, true, true, true, true, true, true, true, true, true, false, true, true, false, false, false, false] rfl rfl (by kernel_rfl) (fun _ _ _ h => h) (Or.inl ⟨by rfl, ?_⟩) ?_ ?_
            rotate_left
            · intro w'
              go_simp
              with_reducible rfl
            rotate_left
            · simp only [Act.put, List.setIfInBounds_toArray, List.set_cons_zero, List.set_cons_succ]
              rfl
            refine pure_ (i := 23) (N := (some 141)) (v := ?_) (a' := ?_) #[true, true, true, true, true, true, true, true, true, true, true, true, true, true, true, true, true, true, true, true, false, true, true, true, false, false, false] rfl rfl (by kernel_rfl) (fun _ _ _ h => h) (Or.inl ⟨by rfl, ?_⟩) ?_ ?_
            rotate_left
            · intro w'
              go_simp
              with_reducible rfl
            rotate_left
            · simp only [Act.put, List.setIfInBounds_toArray, List.set_cons_zero, List.set_cons_succ]
              rfl
            refine take_ (i := 24) (N := (some 142)) (v := ?_) (a' := ?_) #[true, true, true, true, true, true, true, true, true, true, true, true, true, true, true, true, true, true, true, true, false, true, true, true, true, false, false] rfl rfl (by kernel_rfl) (fun _ _ _ h => h) (Or.inl ⟨by rfl, ?_⟩) hHeld ?_ ?_
            rotate_left
            · rintro w' ⟨s0, s1, s2, s3⟩
              go_simp
              with_reducible rfl
            rotate_left
            · simp only [Act.put, List.setIfInBounds_toArray, List.set_cons_zero, List.set_cons_succ]
              rfl
            refine one_ (i := 20) (N := (some 138)) #[true, true, true, true, true, true, true, true, true, true, true, true, true, true, true, true, true, true, true, true, true, true, true, true, true, false, false] rfl rfl (by kernel_rfl) (by decide) (fun K hK => ?_)
            go_simp
            refine (p_down HP10.out).mono ?_
            rintro e w11 ⟨rfl, rfl⟩
            refine hK.out _ _ HQ10.out (fun hHeld => ?_)
            clear hK K
            (try simp only [Act.put, List.setIfInBounds_toArray, List.set_cons_zero, List.set_cons_succ])
            refine pure_ (i := 25) (N := (some 143)) (v := ?_) (a' := ?_) #[true, true, true, true, true, true, true, true, true, true, true, true, true, true, true, true, true, true, true, true, true, true, true, true, true, true, false] rfl rfl (by kernel_rfl) (fun _ _ _ h => h) (Or.inl ⟨by rfl, ?_⟩) ?_ ?_
            rotate_left
            · intro w'
              go_simp
              with_reducible rfl
            rotate_left
            · simp only [Act.put, List.setIfInBounds_toArray, List.set_cons_zero, List.set_cons_succ]
              rfl
            refine pure_ (i := 26) (N := (some 144)) (v := ?_) (a' := ?_) #[true, true, true, true, true, true, true, true, true, true, true, true, true, true, true, true, true, true, true, true, true, true, true, true, true, true, true] rfl rfl (by kernel_rfl) (fun _ _ _ h => h) (Or.inl ⟨by rfl, ?_⟩) ?_ ?_
            rotate_left
            · intro w'
              go_simp
              with_reducible rfl
            rotate_left
            · simp only [Act.put, List.setIfInBounds_toArray, List.set_cons_zero, List.set_cons_succ]
              rfl
            refine done_ (by kernel_rfl) ?_
            clear hHeld
            go_wp2
            go_roundw
            case rel => exact ⟨i + 1, d', m', en', j', k', rfl, rfl, by go_num, hlt, HP10.out, HJ10.out, HK10.out, HJB2.out, HKB2.out, HMB.out⟩
            case measure => simp [intOf]; omega
          · have hj8 : vj8 = .pointer none ∧ vl8 = .slice none 0 0 := by
              rcases HV8.out with ⟨h0, _⟩ | ⟨_, h⟩
              · exact absurd h0 hr0
              · exact h
            have hj9 : vj9 = .pointer none ∧ vl9 = .slice none 0 0 := by
              rcases hv9 with ⟨h0, _⟩ | ⟨_, h⟩
              · exact absurd h0 hr0
              · exact h
            obtain ⟨rfl, rfl⟩ := hj8
            obtain ⟨rfl, rfl⟩ := hj9
            have g0 : (r == 0) = false := by simpa using hr0
            clear hp9 hk9 hR9 hv9 HV8 HJ8 HK8 HP8 HOR hr0
            go_wp2_with fail
            have hsm := same_any (w := w9) (A := none) (B := none) (a := []) (b := []) (c := 0) (d := 0) (Kd.C_nil kbs w9) (Kd.C_nil kbs w9)
            refine hsm.mono ?_
            rintro e w10 ⟨rfl, hb10⟩
            have HP7 := Lib.hid (HP9.out.mv hb10)
            have HJ7 := Lib.hid (HJ9.out.below hb10)
            have HK7 := Lib.hid (HK9.out.below hb10)
            obtain ⟨m', hm'⟩ : ∃ m', m = m' := ⟨_, rfl⟩
            obtain ⟨en', hen⟩ : ∃ en', en = en' := ⟨_, rfl⟩
            obtain ⟨j', hj'⟩ : ∃ j', j = j' := ⟨_, rfl⟩
            obtain ⟨k', hk'⟩ : ∃ k', k = k' := ⟨_, rfl⟩
            have HMB := Lib.hid (show m' ≤ 1048576 + (i + 1) by have := HM.out; omega)
            have HJB2 := Lib.hid (show w.heap.size ≤ j' from hj' ▸ HJB.out)
            have HKB2 := Lib.hid (show w.heap.size ≤ k' from hk' ▸ HKB.out)
            rw [hm', hen, hj'] at HJ7
            rw [hm', hen, hk'] at HK7
            rw [show decide (([] : List (List UInt8)) = []) = true from decide_eq_true rfl, hj', hk']
            clear hb10 hm' hen hj' hk' hsm HP9 HJ9 HK9
            go_wp2
            have HP8 := Lib.hid (HP7.out.mv (Below.drew (Below.refl w10.heap.size w10)))
            have HJ8 := Lib.hid (HJ7.out.below (Below.drew (Below.refl w10.heap.size w10)))
            have HK8 := Lib.hid (HK7.out.below (Below.drew (Below.refl w10.heap.size w10)))
            obtain ⟨Ar, cr, r3, r1, rC⟩ := HP8.out.right
            have r0 := HK8.out.cells.2.1
            clear HP7 HJ7 HK7
            refine start_ (n := 27) (S := fun w' => w'.cell? ⟨k', 1, none⟩ = some (.int .i64 m') ∧ w'.cell? ⟨q, 3, none⟩ = some (.bool d'.off) ∧ w'.cell? ⟨q, 1, none⟩ = some (.slice Ar d'.data.length cr) ∧ BC w' Ar d'.data) (ds := []) #[false, false, false, false, false, false, false, false, false, false, false, false, false, false, false, false, false, false, false, false, false, false, false, false, false, false, false] (by kernel_rfl) rfl rfl ⟨r0, r3, r1, rC⟩ (fun hHeld => ?_)
            clear r0 r3 r1 rC
            generalize w10.drew = w8 at HP8 HJ8 HK8 hHeld ⊢
            refine pure_ (i := 0) (N := (some 118)) (v := ?_) (a' := ?_) #[true, false, false, false, false, false, false, false, false, false, false, false, false, false, false, false, false, false, false, false, false, false, false, false, false, false, false] rfl rfl (by kernel_rfl) (fun _ _ _ h => h) (Or.inl ⟨by rfl, ?_⟩) ?_ ?_
            rotate_left
            · intro w'
              go_simp
              with_reducible rfl
            rotate_left
            · simp only [Act.put, List.setIfInBounds_toArray, List.set_cons_zero, List.set_cons_succ]
              rfl
            refine pure_ (i := 2) (N := (some 120)) (v := ?_) (a' := ?_) #[true, false, true, false, false, false, false, false, false, false, false, false, false, false, false, false, false, false, false, false, false, false, false, false, false, false, false] rfl rfl (by kernel_rfl) (fun _ _ _ h => h) (Or.inl ⟨by rfl, ?_⟩) ?_ ?_
            rotate_left
            · intro w'
              go_simp
              with_reducible rfl
            rotate_left
            · simp only [Act.put, List.setIfInBounds_toArray, List.set_cons_zero, List.set_cons_succ]
              rfl
            refine pure_ (i := 3) (N := (some 121)) (v := ?_) (a' := ?_) #[true, false, true, true, false, false, false, false, false, false, false, false, false, false, false, false, false, false, false, false, false, false, false, false, false, false, false] rfl rfl (by kernel_rfl) (fun _ _ _ h => h) (Or.inl ⟨by rfl, ?_⟩) ?_ ?_
            rotate_left
            · intro w'
              go_simp
              with_reducible rfl
            rotate_left
            · simp only [Act.put, List.setIfInBounds_toArray, List.set_cons_zero, List.set_cons_succ]
              rfl
            refine pure_ (i := 4) (N := (some 122)) (v := ?_) (a' := ?_) #[true, false, true, true, true, false, false, false, false, false, false, false, false, false, false, false, false, false, false, false, false, false, false, false, false, false, false] rfl rfl (by kernel_rfl) (fun _ _ _ h => h) (Or.inl ⟨by rfl, ?_⟩) ?_ ?_
            rotate_left
            · intro w'
              go_simp
              with_reducible rfl
            rotate_left
            · simp only [Act.put, List.setIfInBounds_toArray, List.set_cons_zero, List.set_cons_succ]
              rfl
            refine take_ (i := 5) (N := (some 123)) (v := ?_) (a' := ?_) #[true, false, true, true, true, true, false, false, false, false, false, false, false, false, false, false, false, false, false, false, false, false, false, false, false, false, false] rfl rfl (by kernel_rfl) (fun _ _ _ h => h) (Or.inl ⟨by rfl, ?_⟩) hHeld ?_ ?_
            rotate_left
            · rintro w' ⟨s0, s1, s2, s3⟩
              go_simp
              with_reducible rfl
            rotate_left
            · simp only [Act.put, List.setIfInBounds_toArray, List.set_cons_zero, List.set_cons_succ]
              rfl
            refine one_ (i := 1) (N := (some 119)) #[true, true, true, true, true, true, false, false, false, false, false, false, false, false, false, false, false, false, false, false, false, false, false, false, false, false, false] rfl rfl (by kernel_rfl) (by decide) (fun K hK => ?_)
            go_simp
            refine (len_any HJ8.out).mono ?_
            rintro e w9 ⟨rfl, rfl⟩
            refine hK.out _ _ hHeld (fun hHeld => ?_)
            clear hK K
            (try simp only [Act.put, List.setIfInBounds_toArray, List.set_cons_zero, List.set_cons_succ])
            refine pure_ (i := 6) (N := (some 124)) (v := ?_) (a' := ?_) #[true, true, true, true, true, true, true, false, false, false, false, false, false, false, false, false, false, false, false, false, false, false, false, false, false, false, false] rfl rfl (by kernel_rfl) (fun _ _ _ h => h) (Or.inl ⟨by rfl, ?_⟩) ?_ ?_
            rotate_left
            · intro w'
              go_simp
              with_reducible rfl
            rotate_left
            · simp only [Act.put, List.setIfInBounds_toArray, List.set_cons_zero, List.set_cons_succ]
              rfl
            refine pure_ (i := 7) (N := (some 125)) (v := ?_) (a' := ?_) #[true, true, true, true, true, true, true, true, false, false, false, false, false, false, false, false, false, false, false, false, false, false, false, false, false, false, false] rfl rfl (by kernel_rfl) (fun _ _ _ h => h) (Or.inl ⟨by rfl, ?_⟩) ?_ ?_
            rotate_left
            · intro w'
              go_simp
              with_reducible rfl
            rotate_left
            · simp only [Act.put, List.setIfInBounds_toArray, List.set_cons_zero, List.set_cons_succ]
              rfl
            refine pure_ (i := 8) (N := (some 126)) (v := ?_) (a' := ?_) #[true, true, true, true, true, true, true, true, true, false, false, false, false, false, false, false, false, false, false, false, false, false, false, false, false, false, false] rfl rfl (by kernel_rfl) (fun _ _ _ h => h) (Or.inl ⟨by rfl, ?_⟩) ?_ ?_
            rotate_left
            · intro w'
              go_simp
              with_reducible rfl
            rotate_left
            · simp only [Act.put, List.setIfInBounds_toArray, List.set_cons_zero, List.set_cons_succ]
              rfl
            refine pure_ (i := 11) (N := (some 129)) (v := ?_) (a' := ?_) #[true, true, true, true, true, true, true, true, true, false, false, true, false, false, false, false, false, false, false, false, false, false, false, false, false, false, false] rfl rfl (by kernel_rfl) (fun _ _ _ h => h) (Or.inl ⟨by rfl, ?_⟩) ?_ ?_
            rotate_left
            · intro w'
              go_simp
              with_reducible rfl
            rotate_left
            · simp only [Act.put, List.setIfInBounds_toArray, List.set_cons_zero, List.set_cons_succ]
              rfl
            refine pure_ (i := 12) (N := (some 130)) (v := ?_) (a' := ?_) #[true, true, true, true, true, true, true, true, true, false, false, true, true, false, false, false, false, false, false, false, false, false, false, false, false, false, false] rfl rfl (by kernel_rfl) (fun _ _ _ h => h) (Or.inl ⟨by rfl, ?_⟩) ?_ ?_
            rotate_left
            · intro w'
              go_simp
              with_reducible rfl
            rotate_left
            · simp only [Act.put, List.setIfInBounds_toArray, List.set_cons_zero, List.set_cons_succ]
              rfl
            refine pure_ (i := 13) (N := (some 131)) (v := ?_) (a' := ?_) #[true, true, true, true, true, true, true, true, true, false, false, true, true, true, false, false, false, false, false, false, false, false, false, false, false, false, false] rfl rfl (by kernel_rfl) (fun _ _ _ h => h) (Or.inl ⟨by rfl, ?_⟩) ?_ ?_
            rotate_left
            · intro w'
              go_simp
              with_reducible rfl
            rotate_left
            · simp only [Act.put, List.setIfInBounds_toArray, List.set_cons_zero, List.set_cons_succ]
              rfl
            refine take_ (i := 14) (N := (some 132)) (v := ?_) (a' := ?_) #[true, true, true, true, true, true, true, true, true, false, false, true, true, true, true, false, false, false, false, false, false, false, false, false, false, false, false] rfl rfl (by kernel_rfl) (fun _ _ _ h => h) (Or.inl ⟨by rfl, ?_⟩) hHeld ?_ ?_
            rotate_left
            · rintro w' ⟨s0, s1, s2, s3⟩
              go_simp
              with_reducible rfl
            rotate_left
            · simp only [Act.put, List.setIfInBounds_toArray, List.set_cons_zero, List.set_cons_succ]
              rfl
            refine take_ (i := 15) (N := (some 133)) (v := ?_) (a' := ?_) #[true, true, true, true, true, true, true, true, true, false, false, true, true, true, true, true, false, false, false, false, false, false, false, false, false, false, false] rfl rfl (by kernel_rfl) (fun _ _ _ h => h) (Or.inl ⟨by rfl, ?_⟩) hHeld ?_ ?_
            rotate_left
            · rintro w' ⟨s0, s1, s2, s3⟩
              have hcv := conv_b (c := cr) s3
              go_simp
              with_reducible rfl
            rotate_left
            · simp only [Act.put, List.setIfInBounds_toArray, List.set_cons_zero, List.set_cons_succ]
              rfl
            refine one_ (i := 9) (N := (some 127)) #[true, true, true, true, true, true, true, true, true, true, false, true, true, true, true, true, false, false, false, false, false, false, false, false, false, false, false] rfl rfl (by kernel_rfl) (by decide) (fun K hK => ?_)
            go_simp
            refine (p_bytes HP8.out).mono ?_
            rintro e w10 ⟨A10, rfl, hC10, hb10⟩
            have HP10 := Lib.hid (HP8.out.mv hb10)
            have HJ10 := Lib.hid (HJ8.out.below hb10)
            have HK10 := Lib.hid (HK8.out.below hb10)
            have HC10 := Lib.hid hC10
            have HQ10 := Lib.hid (held_below4 hHeld hb10)
            clear hb10 hC10
            refine hK.out _ _ HQ10.out (fun hHeld => ?_)
            clear hK K
            (try simp only [Act.put, List.setIfInBounds_toArray, List.set_cons_zero, List.set_cons_succ])
            refine one_ (i := 10) (N := (some 128)) #[true, true, true, true, true, true, true, true, true, true, true, true, true, true, true, true, false, false, false, false, false, false, false, false, false, false, false] rfl rfl (by kernel_rfl) (by decide) (fun K hK => ?_)
            have hcv := conv_b (c := d'.data.length) HC10.out
            go_simp
            clear hcv
            refine hK.out _ _ HQ10.out (fun hHeld => ?_)
            clear hK K
            (try simp only [Act.put, List.setIfInBounds_toArray, List.set_cons_zero, List.set_cons_succ])
            refine pure_ (i := 16) (N := (some 134)) (v := ?_) (a' := ?_) #[true, true, true, true, true, true, true, true, true, true, true, true, true, true, true, true, true, false, false, false, false, false, false, false, false, false, false] rfl rfl (by kernel_rfl) (fun _ _ _ h => h) (Or.inl ⟨by rfl, ?_⟩) ?_ ?_
            rotate_left
            · intro w'
              go_simp
              with_reducible rfl
            rotate_left
            · simp only [Act.put, List.setIfInBounds_toArray, List.set_cons_zero, List.set_cons_succ]
              rfl
            refine pure_ (i := 17) (N := (some 135)) (v := ?_) (a' := ?_) #[true, true, true, true, true, true, true, true, true, true, true, true, true, true, true, true, true, true, false, false, false, false, false, false, false, false, false] rfl rfl (by kernel_rfl) (fun _ _ _ h => h) (Or.inl ⟨by rfl, ?_⟩) ?_ ?_
            rotate_left
            · intro w'
              go_simp
              with_reducible rfl
            rotate_left
            · simp only [Act.put, List.setIfInBounds_toArray, List.set_cons_zero, List.set_cons_succ]
              rfl
            refine pure_ (i := 18) (N := (some 136)) (v := ?_) (a' := ?_) #[true, true, true, true, true, true, true, true, true, true, true, true, true, true, true, true, true, true, true, false, false, false, false, false, false, false, false] rfl rfl (by kernel_rfl) (fun _ _ _ h => h) (Or.inl ⟨by rfl, ?_⟩) ?_ ?_
            rotate_left
            · intro w'
              go_simp
              with_reducible rfl
            rotate_left
            · simp only [Act.put, List.setIfInBounds_toArray, List.set_cons_zero, List.set_cons_succ]
              rfl
            refine pure_ (i := 19) (N := (some 137)) (v := ?_) (a' := ?_) #[true, true, true, true, true, true, true, true, true, true, true, true, true, true, true, true, true, true, true, true, false, false, false, false, false, false, false] rfl rfl (by kernel_rfl) (fun _ _ _ h => h) (Or.inl ⟨by rfl, ?_⟩) ?_ ?_
            rotate_left
            · intro w'
              go_simp
              with_reducible rfl
            rotate_left
            · simp only [Act.put, List.setIfInBounds_toArray, List.set_cons_zero, List.set_cons_succ]
              rfl
            refine pure_ (i := 21) (N := (some 139)) (v := ?_) (a' := ?_) #[true, true, true, true, true, true, true, true, true, true, true, true, true, true, true, true, true, true, true, true, false, true, false, false, false, false, false] rfl rfl (by kernel_rfl) (fun _ _ _ h => h) (Or.inl ⟨by rfl, ?_⟩) ?_ ?_
            rotate_left
            · intro w'
              go_simp
              with_reducible rfl
            rotate_left
            · simp only [Act.put, List.setIfInBounds_toArray, List.set_cons_zero, List.set_cons_succ]
              rfl
            refine pure_ (i := 22) (N := (some 140)) (v := ?_) (a' := ?_) #[true, true, true, true, true, true, true, true, true, true, true, true, true, true, true, true, true, true, true, true, false, true, true, false, false, false, false] rfl rfl (by kernel_rfl) (fun _ _ _ h => h) (Or.inl ⟨by rfl, ?_⟩) ?_ ?_
            rotate_left
            · intro w'
              go_simp
              with_reducible rfl
            rotate_left
            · simp only [Act.put, List.setIfInBounds_toArray, List.set_cons_zero, List.set_cons_succ]
              rfl
            refine pure_ (i := 23) (N := (some 141)) (v := ?_) (a' := ?_) #[true, true, true, true, true, true, true, true, true, true, true, true, true, true, true, true, true, true, true, true, false, true, true, true, false, false, false] rfl rfl (by kernel_rfl) (fun _ _ _ h => h) (Or.inl ⟨by rfl, ?_⟩) ?_ ?_
            rotate_left
            · intro w'
              go_simp
              with_reducible rfl
            rotate_left
            · simp only [Act.put, List.setIfInBounds_toArray, List.set_cons_zero, List.set_cons_succ]
              rfl
            refine take_ (i := 24) (N := (some 142)) (v := ?_) (a' := ?_) #[true, true, true, true, true, true, true, true, true, true, true, true, true, true, true, true, true, true, true, true, false, true, true, true, true, false, false] rfl rfl (by kernel_rfl) (fun _ _ _ h => h) (Or.inl ⟨by rfl, ?_⟩) hHeld ?_ ?_
            rotate_left
            · rintro w' ⟨s0, s1, s2, s3⟩
              go_simp
              with_reducible rfl
            rotate_left
            · simp only [Act.put, List.setIfInBounds_toArray, List.set_cons_zero, List.set_cons_succ]
              rfl
            refine one_ (i := 20) (N := (some 138)) #[true, true, true, true, true, true, true, true, true, true, true, true, true, true, true, true, true, true, true, true, true, true, true, true, true, false, false] rfl rfl (by kernel_rfl) (by decide) (fun K hK => ?_)
            go_simp
            refine (p_down HP10.out).mono ?_
            rintro e w11 ⟨rfl, rfl⟩
            refine hK.out _ _ HQ10.out (fun hHeld => ?_)
            clear hK K
            (try simp only [Act.put, List.setIfInBounds_toArray, List.set_cons_zero, List.set_cons_succ])
            refine pure_ (i := 25) (N := (some 143)) (v := ?_) (a' := ?_) #[true, true, true, true, true, true, true, true, true, true, true, true, true, true, true, true, true, true, true, true, true, true, true, true, true, true, false] rfl rfl (by kernel_rfl) (fun _ _ _ h => h) (Or.inl ⟨by rfl, ?_⟩) ?_ ?_
            rotate_left
            · intro w'
              go_simp
              with_reducible rfl
            rotate_left
            · simp only [Act.put, List.setIfInBounds_toArray, List.set_cons_zero, List.set_cons_succ]
              rfl
            refine pure_ (i := 26) (N := (some 144)) (v := ?_) (a' := ?_) #[true, true, true, true, true, true, true, true, true, true, true, true, true, true, true, true, true, true, true, true, true, true, true, true, true, true, true] rfl rfl (by kernel_rfl) (fun _ _ _ h => h) (Or.inl ⟨by rfl, ?_⟩) ?_ ?_
            rotate_left
            · intro w'
              go_simp
              with_reducible rfl
            rotate_left
            · simp only [Act.put, List.setIfInBounds_toArray, List.set_cons_zero, List.set_cons_succ]
              rfl
            refine done_ (by kernel_rfl) ?_
            clear hHeld
            go_wp2
            go_roundw
            case rel => exact ⟨i + 1, d', m', en', j', k', rfl, rfl, by go_num, hlt, HP10.out, HJ10.out, HK10.out, HJB2.out, HKB2.out, HMB.out⟩
            case measure => simp [intOf]; omega
        by_cases k2 : kd = 2
        · subst k2
          as_aux_lemma =>
          go_wp2_with fail
          have HP5 := Lib.hid (HP.out.mv ((Below.refl wr.heap.size wr).alloc (Nat.le_refl _) (.cells #[.int .i64 2, .int .i64 n.val, .slice B x.length cB] 53)))
          have HJ5 := Lib.hid (HJ.out.below ((Below.refl wr.heap.size wr).alloc (Nat.le_refl _) (.cells #[.int .i64 2, .int .i64 n.val, .slice B x.length cB] 53)))
          have HK5 := Lib.hid (HK.out.below ((Below.refl wr.heap.size wr).alloc (Nat.le_refl _) (.cells #[.int .i64 2, .int .i64 n.val, .slice B x.length cB] 53)))
          have hb5 := blk_new wr (.cells #[.int .i64 2, .int .i64 n.val, .slice B x.length cB] 53)
          clear q0 q1 q2 HP HJ HK
          refine (p_crash HP5.out n.val).mono ?_
          rintro e w6 ⟨rfl, hp6, hk6⟩
          have HP6 := Lib.hid hp6
          have HJ6 := Lib.hid (HJ5.out.keepO hk6 (by decide) (by decide) (by decide))
          have HK6 := Lib.hid (HK5.out.keepO hk6 (by decide) (by decide) (by decide))
          have hb6 := (hk6 _ _ _ hb5 (by decide) (by decide) (by decide)).trans hb5
          have c1 := blk_cell hb6 1
          simp only [List.getElem?_toArray, List.getElem?_cons_succ, List.getElem?_cons_zero] at c1
          clear hp6 hk6 hb5 hb6 HP5 HJ5 HK5
          go_wp2_with fail
          refine (r_crash HP6.out n.val).mono ?_
          rintro e w7 ⟨rfl, hp7, hk7⟩
          obtain ⟨d1, hrd⟩ : ∃ d1, d.crash n.val = d1 := ⟨_, rfl⟩
          rw [hrd] at hp7
          have HP7 := Lib.hid hp7
          have HJ7 := Lib.hid (HJ6.out.keepO hk7 (by decide) (by decide) (by decide))
          have HK7 := Lib.hid (HK6.out.keepO hk7 (by decide) (by decide) (by decide))
          clear c1 hp7 hk7 hrd HP6 HJ6 HK6
          go_wp2_with fail
          have hol := open_left HP7.out
          have hor := fun (W : World) (h : PrB w g q d1.open_.2 d1 w7.heap.size W) => open_right h
          have hrs : (scanAll d1.data).1.length ≤ d1.data.length := (scan_le (d1.data.length + 1) d1.data).2
          obtain ⟨rs, hrs2⟩ : ∃ rs, (scanAll d1.data).1 = rs := ⟨_, rfl⟩
          have hok1 := HP7.out.ok
          unfold Dv.ok at hok1
          have HRS := Lib.hid (show rs.length ≤ 1048576 by rw [← hrs2]; omega)
          obtain ⟨⟨r, d'⟩, hrd⟩ : ∃ y, d1.open_ = y := ⟨_, rfl⟩
          rw [hrd, hrs2] at hol hor
          have HOR := Lib.hid hor
          clear hrs hrs2 hok1 hrd hor
          refine hol.mono ?_
          rintro e w8 ⟨⟨vj8, vl8, rfl, hv8⟩, hp8, hk8⟩
          have HP8 := Lib.hid hp8
          have HV8 := Lib.hid hv8
          have HJ8 := Lib.hid (HJ7.out.keepO hk8 (by decide) (by decide) (by decide))
          have HK8 := Lib.hid (HK7.out.keepO hk8 (by decide) (by decide) (by decide))
          clear hp8 hv8 hk8 hol HP7 HJ7 HK7
          go_wp2_with fail
          refine (HOR.out _ HP8.out).mono ?_
          rintro e w9 ⟨⟨vj9, vl9, rfl, hv9⟩, hp9, hk9, hR9⟩
          have HP9 := Lib.hid hp9
          have HJ9 := Lib.hid (HJ8.out.keepO hk9 (by decide) (by decide) (by decide))
          have HK9 := Lib.hid (HK8.out.keepO hk9 (by decide) (by decide) (by decide))
          by_cases hr0 : r = 0
          · subst hr0
            obtain ⟨j', rfl, hj8, hjb, hR8⟩ : ∃ j', vj8 = .pointer (some ⟨j', 0, none⟩) ∧ JAt 68 w8 j' g rs.length false ∧ w.heap.size ≤ j' ∧ kbs.R 22 w8 w7.heap.size (fun _ => True) vl8 (rs.map ib) := by
              rcases HV8.out with ⟨_, h⟩ | ⟨h0, _⟩
              · exact h
              · exact absurd rfl h0
            obtain ⟨k', rfl, hj9, hkb, hR9b⟩ : ∃ k', vj9 = .pointer (some ⟨k', 0, none⟩) ∧ JAt 55 w9 k' q rs.length false ∧ w.heap.size ≤ k' ∧ kbs.R 22 w9 w8.heap.size (fun _ => True) vl9 (rs.map ib) := by
              rcases hv9 with ⟨_, h⟩ | ⟨h0, _⟩
              · exact h
              · exact absurd rfl h0
            obtain ⟨A8, c8, e8, _, hC8⟩ := Kd.R_reads (hR9 _ _ hR8)
            obtain ⟨A9, c9, e9, _, hC9⟩ := Kd.R_reads hR9b
            rw [List.length_map] at e8 hC8 e9 hC9
            subst e8
            subst e9
            have HC8 := Lib.hid hC8
            have HC9 := Lib.hid hC9
            have HJN := Lib.hid (hj8.keepO hk9 (by decide) (by decide) (by decide))
            have HKN := Lib.hid hj9
            have HJB2 := Lib.hid hjb
            have HKB2 := Lib.hid hkb
            clear hp9 hk9 hR9 hv9 hj8 hjb hR8 hj9 hkb hR9b hC8 hC9 HV8 HJ8 HK8 HP8 HOR HJ9 HK9
            go_wp2_with fail
            refine (same_any HC8.out HC9.out).mono ?_
            rintro e w10 ⟨rfl, hb10⟩
            have HP7 := Lib.hid (HP9.out.mv hb10)
            have HJ7 := Lib.hid (HJN.out.below hb10)
            have HK7 := Lib.hid (HKN.out.below hb10)
            obtain ⟨m', hm'⟩ : ∃ m', rs.length = m' := ⟨_, rfl⟩
            rw [hm'] at HJ7 HK7
            have HMB := Lib.hid (show m' ≤ 1048576 + (i + 1) by have := HRS.out; omega)
            obtain ⟨en', hen⟩ : ∃ en', false = en' := ⟨_, rfl⟩
            rw [hen] at HJ7 HK7
            rw [show decide (rs = rs) = true from decide_eq_true rfl]
            clear hb10 hm' hen HC8 HC9 HP9 HJN HKN
            go_wp2
            have HP8 := Lib.hid (HP7.out.mv (Below.drew (Below.refl w10.heap.size w10)))
            have HJ8 := Lib.hid (HJ7.out.below (Below.drew (Below.refl w10.heap.size w10)))
            have HK8 := Lib.hid (HK7.out.below (Below.drew (Below.refl w10.heap.size w10)))
            obtain ⟨Ar, cr, r3, r1, rC⟩ := HP8.out.right
            have r0 := HK8.out.cells.2.1
            clear HP7 HJ7 HK7
            refine start_ (n := 27) (S := fun w' => w'.cell? ⟨k', 1, none⟩ = some (.int .i64 m') ∧ w'.cell? ⟨q, 3, none⟩ = some (.bool d'.off) ∧ w'.cell? ⟨q, 1, none⟩ = some (.slice Ar d'.data.length cr) ∧ BC w' Ar d'.data) (ds := []) #[false, false, false, false, false, false, false, false, false, false, false, false, false, false, false, false, false, false, false, false, false, false, false, false, false, false, false] (by kernel_rfl) rfl rfl ⟨r0, r3, r1, rC⟩ (fun hHeld => ?_)
            clear r0 r3 r1 rC
            generalize w10.drew = w8 at HP8 HJ8 HK8 hHeld ⊢
            refine pure_ (i := 0) (N := (some 118)) (v := ?_) (a' := ?_) #[true, false, false, false, false, false, false, false, false, false, false, false, false, false, false, false, false, false, false, false, false, false, false, false, false, false, false] rfl rfl (by kernel_rfl) (fun _ _ _ h => h) (Or.inl ⟨by rfl, ?_⟩) ?_ ?_
            rotate_left
            · intro w'
              go_simp
              with_reducible rfl
            rotate_left
            · simp only [Act.put, List.setIfInBounds_toArray, List.set_cons_zero, List.set_cons_succ]
              rfl
            refine pure_ (i := 2) (N := (some 120)) (v := ?_) (a' := ?_) #[true, false, true, false, false, false, false, false, false, false, false, false, false, false, false, false, false, false, false, false, false, false, false, false, false, false, false] rfl rfl (by kernel_rfl) (fun _ _ _ h => h) (Or.inl ⟨by rfl, ?_⟩) ?_ ?_
            rotate_left
            · intro w'
              go_simp
              with_reducible rfl
            rotate_left
            · simp only [Act.put, List.setIfInBounds_toArray, List.set_cons_zero, List.set_cons_succ]
              rfl
            refine pure_ (i := 3) (N := (some 121)) (v := ?_) (a' := ?_) #[true, false, true, true, false, false, false, false, false, false, false, false, false, false, false, false, false, false, false, false, false, false, false, false, false, false, false] rfl rfl (by kernel_rfl) (fun _ _ _ h => h) (Or.inl ⟨by rfl, ?_⟩) ?_ ?_
            rotate_left
            · intro w'
              go_simp
              with_reducible rfl
            rotate_left
            · simp only [Act.put, List.setIfInBounds_toArray, List.set_cons_zero, List.set_cons_succ]
              rfl
            refine pure_ (i := 4) (N := (some 122)) (v := ?_) (a' := ?_) #[true, false, true, true, true, false, false, false, false, false, false, false, false, false, false, false, false, false, false, false, false, false, false, false, false, false, false] rfl rfl (by kernel_rfl) (fun _ _ _ h => h) (Or.inl ⟨by rfl, ?_⟩) ?_ ?_
            rotate_left
            · intro w'
              go_simp
              with_reducible rfl
            rotate_left
            · simp only [Act.put, List.setIfInBounds_toArray, List.set_cons_zero, List.set_cons_succ]
              rfl
            refine take_ (i := 5) (N := (some 123)) (v := ?_) (a' := ?_) #[true, false, true, true, true, true, false, false, false, false, false, false, false, false, false, false, false, false, false, false, false, false, false, false, false, false, false] rfl rfl (by kernel_rfl) (fun _ _ _ h => h) (Or.inl ⟨by rfl, ?_⟩) hHeld ?_ ?_
            rotate_left
            · rintro w' ⟨s0, s1, s2, s3⟩
              go_simp
              with_reducible rfl
            rotate_left
            · simp only [Act.put, List.setIfInBounds_toArray, List.set_cons_zero, List.set_cons_succ]
              rfl
            refine one_ (i := 1) (N := (some 119)) #[true, true, true, true, true, true, false, false, false, false, false, false, false, false, false, false, false, false, false, false, false, false, false, false, false, false, false] rfl rfl (by kernel_rfl) (by decide) (fun K hK => ?_)
            go_simp
            refine (len_any HJ8.out).mono ?_
            rintro e w9 ⟨rfl, rfl⟩
            refine hK.out _ _ hHeld (fun hHeld => ?_)
            clear hK K
            (try simp only [Act.put, List.setIfInBounds_toArray, List.set_cons_zero, List.set_cons_succ])
            refine pure_ (i := 6) (N := (some 124)) (v := ?_) (a' := ?_) #[true, true, true, true, true, true, true, false, false, false, false, false, false, false, false, false, false, false, false, false, false, false, false, false, false, false, false] rfl rfl (by kernel_rfl) (fun _ _ _ h => h) (Or.inl ⟨by rfl, ?_⟩) ?_ ?_
            rotate_left
            · intro w'
              go_simp
              with_reducible rfl
            rotate_left
            · simp only [Act.put, List.setIfInBounds_toArray, List.set_cons_zero, List.set_cons_succ]
              rfl
            refine pure_ (i := 7) (N := (some 125)) (v := ?_) (a' := ?_) #[true, true, true, true, true, true, true, true, false, false, false, false, false, false, false, false, false, false, false, false, false, false, false, false, false, false, false] rfl rfl (by kernel_rfl) (fun _ _ _ h => h) (Or.inl ⟨by rfl, ?_⟩) ?_ ?_
            rotate_left
            · intro w'
              go_simp
              with_reducible rfl
            rotate_left
            · simp only [Act.put, List.setIfInBounds_toArray, List.set_cons_zero, List.set_cons_succ]
              rfl
            refine pure_ (i := 8) (N := (some 126)) (v := ?_) (a' := ?_) #[true, true, true, true, true, true, true, true, true, false, false, false, false, false, false, false, false, false, false, false, false, false, false, false, false, false, false] rfl rfl (by kernel_rfl) (fun _ _ _ h => h) (Or.inl ⟨by rfl, ?_⟩) ?_ ?_
            rotate_left
            · intro w'
              go_simp
              with_reducible rfl
            rotate_left
            · simp only [Act.put, List.setIfInBounds_toArray, List.set_cons_zero, List.set_cons_succ]
              rfl
            refine pure_ (i := 11) (N := (some 129)) (v := ?_) (a' := ?_) #[true, true, true, true, true, true, true, true, true, false, false, true, false, false, false, false, false, false, false, false, false, false, false, false, false, false, false] rfl rfl (by kernel_rfl) (fun _ _ _ h => h) (Or.inl ⟨by rfl, ?_⟩) ?_ ?_
            rotate_left
            · intro w'
              go_simp
              with_reducible rfl
            rotate_left
            · simp only [Act.put, List.setIfInBounds_toArray, List.set_cons_zero, List.set_cons_succ]
              rfl
            refine pure_ (i := 12) (N := (some 130)) (v := ?_) (a' := ?_) #[true, true, true, true, true, true, true, true, true, false, false, true, true, false, false, false, false, false, false, false, false, false, false, false, false, false, false] rfl rfl (by kernel_rfl) (fun _ _ _ h => h) (Or.inl ⟨by rfl, ?_⟩) ?_ ?_
            rotate_left
            · intro w'
              go_simp
              with_reducible rfl
            rotate_left
            · simp only [Act.put, List.setIfInBounds_toArray, List.set_cons_zero, List.set_cons_succ]
              rfl
            refine pure_ (i := 13) (N := (some 131)) (v := ?_) (a' := ?_) #[true, true, true, true, true, true, true, true, true, false, false, true, true, true, false, false, false, false, false, false, false, false, false, false, false, false, false] rfl rfl (by kernel_rfl) (fun _ _ _ h => h) (Or.inl ⟨by rfl, ?_⟩) ?_ ?_
            rotate_left
            · intro w'
              go_simp
              with_reducible rfl
            rotate_left
            · simp only [Act.put, List.setIfInBounds_toArray, List.set_cons_zero, List.set_cons_succ]
              rfl
            refine take_ (i := 14) (N := (some 132)) (v := ?_) (a' := ?_) #[true, true, true, true, true, true, true, true, true, false, false, true, true, true, true, false, false, false, false, false, false, false, false, false, false, false, false] rfl rfl (by kernel_rfl) (fun _ _ _ h => h) (Or.inl ⟨by rfl, ?_⟩) hHeld ?_ ?_
            rotate_left
            · rintro w' ⟨s0, s1, s2, s3⟩
              go_simp
              with_reducible rfl
            rotate_left
            · simp only [Act.put, List.setIfInBounds_toArray, List.set_cons_zero, List.set_cons_succ]
              rfl
            refine take_ (i := 15) (N := (some 133)) (v := ?_) (a' := ?_) #[true, true, true, true, true, true, true, true, true, false, false, true, true, true, true, true, false, false, false, false, false, false, false, false, false, false, false] rfl rfl (by kernel_rfl) (fun _ _ _ h => h) (Or.inl ⟨by rfl, ?_⟩) hHeld ?_ ?_
            rotate_left
            · rintro w' ⟨s0, s1, s2, s3⟩
              have hcv := conv_b (c := cr) s3
              go_simp
              with_reducible rfl
            rotate_left
            · simp only [Act.put, List.setIfInBounds_toArray, List.set_cons_zero, List.set_cons_succ]
              rfl
            refine one_ (i := 9) (N := (some 127)) #[true, true, true, true, true, true, true, true, true, true, false, true, true, true, true, true, false, false, false, false, false, false, false, false, false, false, false] rfl rfl (by kernel_rfl) (by decide) (fun K hK => ?_)
            go_simp
            refine (p_bytes HP8.out).mono ?_
            rintro e w10 ⟨A10, rfl, hC10, hb10⟩
            have HP10 := Lib.hid (HP8.out.mv hb10)
            have HJ10 := Lib.hid (HJ8.out.below hb10)
            have HK10 := Lib.hid (HK8.out.below hb10)
            have HC10 := Lib.hid hC10
            have HQ10 := Lib.hid (held_below4 hHeld hb10)
            clear hb10 hC10
            refine hK.out _ _ HQ10.out (fun hHeld => ?_)
            clear hK K
            (try simp only [Act.put, List.setIfInBounds_toArray, List.set_cons_zero, List.set_cons_succ])
            refine one_ (i := 10) (N := (some 128)) #[true, true, true, true, true, true, true, true, true, true, true, true, true, true, true, true, false, false, false, false, false, false, false, false, false, false, false] rfl rfl (by kernel_rfl) (by decide) (fun K hK => ?_)
            have hcv := conv_b (c := d'.data.length) HC10.out
            go_simp
            clear hcv
            refine hK.out _ _ HQ10.out (fun hHeld => ?_)
            clear hK K
            (try simp only [Act.put, List.setIfInBounds_toArray, List.set_cons_zero, List.set_cons_succ])
            refine pure_ (i := 16) (N := (some 134)) (v := ?_) (a' := ?_) #[true, true, true, true, true, true, true, true, true, true, true, true, true, true, true, true, true, false, false, false, false, false, false, false, false, false, false] rfl rfl (by kernel_rfl) (fun _ _ _ h => h) (Or.inl ⟨by rfl, ?_⟩) ?_ ?_
            rotate_left
            · intro w'
              go_simp
              with_reducible rfl
            rotate_left
            · simp only [Act.put, List.setIfInBounds_toArray, List.set_cons_zero, List.set_cons_succ]
              rfl
            refine pure_ (i := 17) (N := (some 135)) (v := ?_) (a' := ?_) #[true, true, true, true, true, true, true, true, true, true, true, true, true, true, true, true, true, true, false, false, false, false, false, false, false, false, false] rfl rfl (by kernel_rfl) (fun _ _ _ h => h) (Or.inl ⟨by rfl, ?_⟩) ?_ ?_
            rotate_left
            · intro w'
              go_simp
              with_reducible rfl
            rotate_left
            · simp only [Act.put, List.setIfInBounds_toArray, List.set_cons_zero, List.set_cons_succ]
              rfl
            refine pure_ (i := 18) (N := (some 136)) (v := ?_) (a' := ?_) #[true, true, true, true, true, true, true, true, true, true, true, true, true, true, true, true, true, true, true, false, false, false, false, false, false, false, false] rfl rfl (by kernel_rfl) (fun _ _ _ h => h) (Or.inl ⟨by rfl, ?_⟩) ?_ ?_
            rotate_left
            · intro w'
              go_simp
              with_reducible rfl
            rotate_left
            · simp only [Act.put, List.setIfInBounds_toArray, List.set_cons_zero, List.set_cons_succ]
              rfl
            refine pure_ (i := 19) (N := (some 137)) (v := ?_) (a' := ?_) #[true, true, true, true, true, true, true, true, true, true, true, true, true, true, true, true, true, true, true, true, false, false, false, false, false, false, false] rfl rfl (by kernel_rfl) (fun _ _ _ h => h) (Or.inl ⟨by rfl, ?_⟩) ?_ ?_
            rotate_left
            · intro w'
              go_simp
              with_reducible rfl
            rotate_left
            · simp only [Act.put, List.setIfInBounds_toArray, List.set_cons_zero, List.set_cons_succ]
              rfl
            refine pure_ (i := 21) (N := (some 139)) (v := ?_) (a' := ?_) #[true, true, true, true, true, true, true, true, true, true, true, true, true, true, true, true, true, true, true, true, false, true, false, false, false, false, false] rfl rfl (by kernel_rfl) (fun _ _ _ h => h) (Or.inl ⟨by rfl, ?_⟩) ?_ ?_
            rotate_left
            · intro w'
              go_simp
              with_reducible rfl
            rotate_left
            · simp only [Act.put, List.setIfInBounds_toArray, List.set_cons_zero, List.set_cons_succ]
              rfl
            refine pure_ (i := 22) (N := (some 140)) (v := ?_) (a' := ?_) #[true, true, true, true, true, true, true, true, true, true, true, true, true, true, true, true, true, true, true, true, false, true, true, false, false, false, false] rfl rfl (by kernel_rfl) (fun _ _ _ h => h) (Or.inl ⟨by rfl, ?_⟩) ?_ ?_
            rotate_left
            · intro w'
              go_simp
              with_reducible rfl
            rotate_left
            · simp only [Act.put, List.setIfInBounds_toArray, List.set_cons_zero, List.set_cons_succ]
              rfl
            refine pure_ (i := 23) (N := (some 141)) (v := ?_) (a' := ?_) #[true, true, true, true, true, true, true, true, true, true, true, true, true, true, true, true, true, true, true, true, false, true, true, true, false, false, false] rfl rfl (by kernel_rfl) (fun _ _ _ h => h) (Or.inl ⟨by rfl, ?_⟩) ?_ ?_
            rotate_left
            · intro w'
              go_simp
              with_reducible rfl
            rotate_left
            · simp only [Act.put, List.setIfInBounds_toArray, List.set_cons_zero, List.set_cons_succ]
              rfl
            refine take_ (i := 24) (N := (some 142)) (v := ?_) (a' := ?_) #[true, true, true, true, true, true, true, true, true, true, true, true, true, true, true, true, true, true, true, true, false, true, true, true, true, false, false] rfl rfl (by kernel_rfl) (fun _ _ _ h => h) (Or.inl ⟨by rfl, ?_⟩) hHeld ?_ ?_
            rotate_left
            · rintro w' ⟨s0, s1, s2, s3⟩
              go_simp
              with_reducible rfl
            rotate_left
            · simp only [Act.put, List.setIfInBounds_toArray, List.set_cons_zero, List.set_cons_succ]
              rfl
            refine one_ (i := 20) (N := (some 138)) #[true, true, true, true, true, true, true, true, true, true, true, true, true, true, true, true, true, true, true, true, true, true, true, true, true, false, false] rfl rfl (by kernel_rfl) (by decide) (fun K hK => ?_)
            go_simp
            refine (p_down HP10.out).mono ?_
            rintro e w11 ⟨rfl, rfl⟩
            refine hK.out _ _ HQ10.out (fun hHeld => ?_)
            clear hK K
            (try simp only [Act.put, List.setIfInBounds_toArray, List.set_cons_zero, List.set_cons_succ])
            refine pure_ (i := 25) (N := (some 143)) (v := ?_) (a' := ?_) #[true, true, true, true, true, true, true, true, true, true, true, true, true, true, true, true, true, true, true, true, true, true, true, true, true, true, false] rfl rfl (by kernel_rfl) (fun _ _ _ h => h) (Or.inl ⟨by rfl, ?_⟩) ?_ ?_
            rotate_left
            · intro w'
              go_simp
              with_reducible rfl
            rotate_left
            · simp only [Act.put, List.setIfInBounds_toArray, List.set_cons_zero, List.set_cons_succ]
              rfl
            refine pure_ (i := 26) (N := (some 144)) (v := ?_) (a' := ?_) #[true, true, true, true, true, true, true, true, true, true, true, true, true, true, true, true, true, true, true, true, true, true, true, true, true, true, true] rfl rfl (by kernel_rfl) (fun _ _ _ h => h) (Or.inl ⟨by rfl, ?_⟩) ?_ ?_
            rotate_left
            · intro w'
              go_simp
              with_reducible rfl
            rotate_left
            · simp only [Act.put, List.setIfInBounds_toArray, List.set_cons_zero, List.set_cons_succ]
              rfl
            refine done_ (by kernel_rfl) ?_
            clear hHeld
            go_wp2
            go_roundw
            case rel => exact ⟨i + 1, d', m', en', j', k', rfl, rfl, by go_num, hlt, HP10.out, HJ10.out, HK10.out, HJB2.out, HKB2.out, HMB.out⟩
            case measure => simp [intOf]; omega
          · have hj8 : vj8 = .pointer none ∧ vl8 = .slice none 0 0 := by
              rcases HV8.out with ⟨h0, _⟩ | ⟨_, h⟩
              · exact absurd h0 hr0
              · exact h
            have hj9 : vj9 = .pointer none ∧ vl9 = .slice none 0 0 := by
              rcases hv9 with ⟨h0, _⟩ | ⟨_, h⟩
              · exact absurd h0 hr0
              · exact h
            obtain ⟨rfl, rfl⟩ := hj8
            obtain ⟨rfl, rfl⟩ := hj9
            have g0 : (r == 0) = false := by simpa using hr0
            clear hp9 hk9 hR9 hv9 HV8 HJ8 HK8 HP8 HOR hr0
            go_wp2_with fail
            have hsm := same_any (w := w9) (A := none) (B := none) (a := []) (b := []) (c := 0) (d := 0) (Kd.C_nil kbs w9) (Kd.C_nil kbs w9)
            refine hsm.mono ?_
            rintro e w10 ⟨rfl, hb10⟩
            have HP7 := Lib.hid (HP9.out.mv hb10)
            have HJ7 := Lib.hid (HJ9.out.below hb10)
            have HK7 := Lib.hid (HK9.out.below hb10)
            obtain ⟨m', hm'⟩ : ∃ m', m = m' := ⟨_, rfl⟩
            obtain ⟨en', hen⟩ : ∃ en', en = en' := ⟨_, rfl⟩
            obtain ⟨j', hj'⟩ : ∃ j', j = j' := ⟨_, rfl⟩
            obtain ⟨k', hk'⟩ : ∃ k', k = k' := ⟨_, rfl⟩
            have HMB := Lib.hid (show m' ≤ 1048576 + (i + 1) by have := HM.out; omega)
            have HJB2 := Lib.hid (show w.heap.size ≤ j' from hj' ▸ HJB.out)
            have HKB2 := Lib.hid (show w.heap.size ≤ k' from hk' ▸ HKB.out)
            rw [hm', hen, hj'] at HJ7
            rw [hm', hen, hk'] at HK7
            rw [show decide (([] : List (List UInt8)) = []) = true from decide_eq_true rfl, hj', hk']
            clear hb10 hm' hen hj' hk' hsm HP9 HJ9 HK9
            go_wp2
            have HP8 := Lib.hid (HP7.out.mv (Below.drew (Below.refl w10.heap.size w10)))
            have HJ8 := Lib.hid (HJ7.out.below (Below.drew (Below.refl w10.heap.size w10)))
            have HK8 := Lib.hid (HK7.out.below (Below.drew (Below.refl w10.heap.size w10)))
            obtain ⟨Ar, cr, r3, r1, rC⟩ := HP8.out.right
            have r0 := HK8.out.cells.2.1
            clear HP7 HJ7 HK7
            refine start_ (n := 27) (S := fun w' => w'.cell? ⟨k', 1, none⟩ = some (.int .i64 m') ∧ w'.cell? ⟨q, 3, none⟩ = some (.bool d'.off) ∧ w'.cell? ⟨q, 1, none⟩ = some (.slice Ar d'.data.length cr) ∧ BC w' Ar d'.data) (ds := []) #[false, false, false, false, false, false, false, false, false, false, false, false, false, false, false, false, false, false, false, false, false, false, false, false, false, false, false] (by kernel_rfl) rfl rfl ⟨r0, r3, r1, rC⟩ (fun hHeld => ?_)
            clear r0 r3 r1 rC
            generalize w10.drew = w8 at HP8 HJ8 HK8 hHeld ⊢
            refine pure_ (i := 0) (N := (some 118)) (v := ?_) (a' := ?_) #[true, false, false, false, false, false, false, false, false, false, false, false, false, false, false, false, false, false, false, false, false, false, false, false, false, false, false] rfl rfl (by kernel_rfl) (fun _ _ _ h => h) (Or.inl ⟨by rfl, ?_⟩) ?_ ?_
            rotate_left
            · intro w'
              go_simp
              with_reducible rfl
            rotate_left
            · simp only [Act.put, List.setIfInBounds_toArray, List.set_cons_zero, List.set_cons_succ]
              rfl
            refine pure_ (i := 2) (N := (some 120)) (v := ?_) (a' := ?_) #[true, false, true, false, false, false, false, false, false, false, false, false, false, false, false, false, false, false, false, false, false, false, false, false, false, false, false] rfl rfl (by kernel_rfl) (fun _ _ _ h => h) (Or.inl ⟨by rfl, ?_⟩) ?_ ?_
            rotate_left
            · intro w'
              go_simp
              with_reducible rfl
            rotate_left
            · simp only [Act.put, List.setIfInBounds_toArray, List.set_cons_zero, List.set_cons_succ]
              rfl
            refine pure_ (i := 3) (N := (some 121)) (v := ?_) (a' := ?_) #[true, false, true, true, false, false, false, false, false, false, false, false, false, false, false, false, false, false, false, false, false, false, false, false, false, false, false] rfl rfl (by kernel_rfl) (fun _ _ _ h => h) (Or.inl ⟨by rfl, ?_⟩) ?_ ?_
            rotate_left
            · intro w'
              go_simp
              with_reducible rfl
            rotate_left
            · simp only [Act.put, List.setIfInBounds_toArray, List.set_cons_zero, List.set_cons_succ]
              rfl
            refine pure_ (i := 4) (N := (some 122)) (v := ?_) (a' := ?_) #[true, false, true, true, true, false, false, false, false, false, false, false, false, false, false, false, false, false, false, false, false, false, false, false, false, false, false] rfl rfl (by kernel_rfl) (fun _ _ _ h => h) (Or.inl ⟨by rfl, ?_⟩) ?_ ?_
            rotate_left
            · intro w'
              go_simp
              with_reducible rfl
            rotate_left
            · simp only [Act.put, List.setIfInBounds_toArray, List.set_cons_zero, List.set_cons_succ]
              rfl
            refine take_ (i := 5) (N := (some 123)) (v := ?_) (a' := ?_) #[true, false, true, true, true, true, false, false, false, false, false, false, false, false, false, false, false, false, false, false, false, false, false, false, false, false, false] rfl rfl (by kernel_rfl) (fun _ _ _ h => h) (Or.inl ⟨by rfl, ?_⟩) hHeld ?_ ?_
            rotate_left
            · rintro w' ⟨s0, s1, s2, s3⟩
              go_simp
              with_reducible rfl
            rotate_left
            · simp only [Act.put, List.setIfInBounds_toArray, List.set_cons_zero, List.set_cons_succ]
              rfl
            refine one_ (i := 1) (N := (some 119)) #[true, true, true, true, true, true, false, false, false, false, false, false, false, false, false, false, false, false, false, false, false, false, false, false, false, false, false] rfl rfl (by kernel_rfl) (by decide) (fun K hK => ?_)
            go_simp
            refine (len_any HJ8.out).mono ?_
            rintro e w9 ⟨rfl, rfl⟩
            refine hK.out _ _ hHeld (fun hHeld => ?_)
            clear hK K
            (try simp only [Act.put, List.setIfInBounds_toArray, List.set_cons_zero, List.set_cons_succ])
            refine pure_ (i := 6) (N := (some 124)) (v := ?_) (a' := ?_) #[true, true, true, true, true, true, true, false, false, false, false, false, false, false, false, false, false, false, false, false, false, false, false, false, false, false, false] rfl rfl (by kernel_rfl) (fun _ _ _ h => h) (Or.inl ⟨by rfl, ?_⟩) ?_ ?_
            rotate_left
            · intro w'
              go_simp
              with_reducible rfl
            rotate_left
            · simp only [Act.put, List.setIfInBounds_toArray, List.set_cons_zero, List.set_cons_succ]
              rfl
            refine pure_ (i := 7) (N := (some 125)) (v := ?_) (a' := ?_) #[true, true, true, true, true, true, true, true, false, false, false, false, false, false, false, false, false, false, false, false, false, false, false, false, false, false, false] rfl rfl (by kernel_rfl) (fun _ _ _ h => h) (Or.inl ⟨by rfl, ?_⟩) ?_ ?_
            rotate_left
            · intro w'
              go_simp
              with_reducible rfl
            rotate_left
            · simp only [Act.put, List.setIfInBounds_toArray, List.set_cons_zero, List.set_cons_succ]
              rfl
            refine pure_ (i := 8) (N := (some 126)) (v := ?_) (a' := ?_) #[true, true, true, true, true, true, true, true, true, false, false, false, false, false, false, false, false, false, false, false, false, false, false, false, false, false, false] rfl rfl (by kernel_rfl) (fun _ _ _ h => h) (Or.inl ⟨by rfl, ?_⟩) ?_ ?_
            rotate_left
            · intro w'
              go_simp
              with_reducible rfl
            rotate_left
            · simp only [Act.put, List.setIfInBounds_toArray, List.set_cons_zero, List.set_cons_succ]
              rfl
            refine pure_ (i := 11) (N := (some 129)) (v := ?_) (a' := ?_) #[true, true, true, true, true, true, true, true, true, false, false, true, false, false, false, false, false, false, false, false, false, false, false, false, false, false, false] rfl rfl (by kernel_rfl) (fun _ _ _ h => h) (Or.inl ⟨by rfl, ?_⟩) ?_ ?_
            rotate_left
            · intro w'
              go_simp
              with_reducible rfl
            rotate_left
            · simp only [Act.put, List.setIfInBounds_toArray, List.set_cons_zero, List.set_cons_succ]
              rfl
            refine pure_ (i := 12) (N := (some 130)) (v := ?_) (a' := ?_) #[true, true, true, true, true, true, true, true, true, false, false, true, true, false, false, false, false, false, false, false, false, false, false, false, false, false, false] rfl rfl (by kernel_rfl) (fun _ _ _ h => h) (Or.inl ⟨by rfl, ?_⟩) ?_ ?_
            rotate_left
            · intro w'
              go_simp
              with_reducible rfl
            rotate_left
            · simp only [Act.put, List.setIfInBounds_toArray, List.set_cons_zero, List.set_cons_succ]
              rfl
            refine pure_ (i := 13) (N := (some 131)) (v := ?_) (a' := ?_) #[true, true, true, true, true, true, true, true, true, false, false, true, true, true, false, false, false, false, false, false, false, false, false, false, false, false, false] rfl rfl (by kernel_rfl) (fun _ _ _ h => h) (Or.inl ⟨by rfl, ?_⟩) ?_ ?_
            rotate_left
            · intro w'
              go_simp
              with_reducible rfl
            rotate_left
            · simp only [Act.put, List.setIfInBounds_toArray, List.set_cons_zero, List.set_cons_succ]
              rfl
            refine take_ (i := 14) (N := (some 132)) (v := ?_) (a' := ?_) #[true, true, true, true, true, true, true, true, true, false, false, true, true, true, true, false, false, false, false, false, false, false, false, false, false, false, false] rfl rfl (by kernel_rfl) (fun _ _ _ h => h) (Or.inl ⟨by rfl, ?_⟩) hHeld ?_ ?_
            rotate_left
            · rintro w' ⟨s0, s1, s2, s3⟩
              go_simp
              with_reducible rfl
            rotate_left
            · simp only [Act.put, List.setIfInBounds_toArray, List.set_cons_zero, List.set_cons_succ]
              rfl
            refine take_ (i := 15) (N := (some 133)) (v := ?_) (a' := ?_) #[true, true, true, true, true, true, true, true, true, false, false, true, true, true, true, true, false, false, false, false, false, false, false, false, false, false, false] rfl rfl (by kernel_rfl) (fun _ _ _ h => h) (Or.inl ⟨by rfl, ?_⟩) hHeld ?_ ?_
            rotate_left
            · rintro w' ⟨s0, s1, s2, s3⟩
              have hcv := conv_b (c := cr) s3
              go_simp
              with_reducible rfl
            rotate_left
            · simp only [Act.put, List.setIfInBounds_toArray, List.set_cons_zero, List.set_cons_succ]
              rfl
            refine one_ (i := 9) (N := (some 127)) #[true, true, true, true, true, true, true, true, true, true, false, true, true, true, true, true, false, false, false, false, false, false, false, false, false, false, false] rfl rfl (by kernel_rfl) (by decide) (fun K hK => ?_)
            go_simp
            refine (p_bytes HP8.out).mono ?_
            rintro e w10 ⟨A10, rfl, hC10, hb10⟩
            have HP10 := Lib.hid (HP8.out.mv hb10)
            have HJ10 := Lib.hid (HJ8.out.below hb10)
            have HK10 := Lib.hid (HK8.out.below hb10)
            have HC10 := Lib.hid hC10
            have HQ10 := Lib.hid (held_below4 hHeld hb10)
            clear hb10 hC10
            refine hK.out _ _ HQ10.out (fun hHeld => ?_)
            clear hK K
            (try simp only [Act.put, List.setIfInBounds_toArray, List.set_cons_zero, List.set_cons_succ])
            refine one_ (i := 10) (N := (some 128)) #[true, true, true, true, true, true, true, true, true, true, true, true, true, true, true, true, false, false, false, false, false, false, false, false, false, false, false] rfl rfl (by kernel_rfl) (by decide) (fun K hK => ?_)
            have hcv := conv_b (c := d'.data.length) HC10.out
            go_simp
            clear hcv
            refine hK.out _ _ HQ10.out (fun hHeld => ?_)
            clear hK K
            (try simp only [Act.put, List.setIfInBounds_toArray, List.set_cons_zero, List.set_cons_succ])
            refine pure_ (i := 16) (N := (some 134)) (v := ?_) (a' := ?_) #[true, true, true, true, true, true, true, true, true, true, true, true, true, true, true, true, true, false, false, false, false, false, false, false, false, false, false] rfl rfl (by kernel_rfl) (fun _ _ _ h => h) (Or.inl ⟨by rfl, ?_⟩) ?_ ?_
            rotate_left
            · intro w'
              go_simp
              with_reducible rfl
            rotate_left
            · simp only [Act.put, List.setIfInBounds_toArray, List.set_cons_zero, List.set_cons_succ]
              rfl
            refine pure_ (i := 17) (N := (some 135)) (v := ?_) (a' := ?_) #[true, true, true, true, true, true, true, true, true, true, true, true, true, true, true, true, true, true, false, false, false, false, false, false, false, false, false] rfl rfl (by kernel_rfl) (fun _ _ _ h => h) (Or.inl ⟨by rfl, ?_⟩) ?_ ?_
            rotate_left
            · intro w'
              go_simp
              with_reducible rfl
            rotate_left
            · simp only [Act.put, List.setIfInBounds_toArray, List.set_cons_zero, List.set_cons_succ]
              rfl
            refine pure_ (i := 18) (N := (some 136)) (v := ?_) (a' := ?_) #[true, true, true, true, true, true, true, true, true, true, true, true, true, true, true, true, true, true, true, false, false, false, false, false, false, false, false] rfl rfl (by kernel_rfl) (fun _ _ _ h => h) (Or.inl ⟨by rfl, ?_⟩) ?_ ?_
            rotate_left
            · intro w'
              go_simp
              with_reducible rfl
            rotate_left
            · simp only [Act.put, List.setIfInBounds_toArray, List.set_cons_zero, List.set_cons_succ]
              rfl
            refine pure_ (i := 19) (N := (some 137)) (v := ?_) (a' := ?_) #[true, true, true, true, true, true, true, true, true, true, true, true, true, true, true, true, true, true, true, true, false, false, false, false, false, false, false] rfl rfl (by kernel_rfl) (fun _ _ _ h => h) (Or.inl ⟨by rfl, ?_⟩) ?_ ?_
            rotate_left
            · intro w'
              go_simp
              with_reducible rfl
            rotate_left
            · simp only [Act.put, List.setIfInBounds_toArray, List.set_cons_zero, List.set_cons_succ]
              rfl
            refine pure_ (i := 21) (N := (some 139)) (v := ?_) (a' := ?_) #[true, true, true, true, true, true, true, true, true, true, true, true, true, true, true, true, true, true, true, true, false, true, false, false, false, false, false] rfl rfl (by kernel_rfl) (fun _ _ _ h => h) (Or.inl ⟨by rfl, ?_⟩) ?_ ?_
            rotate_left
            · intro w'
              go_simp
              with_reducible rfl
            rotate_left
            · simp only [Act.put, List.setIfInBounds_toArray, List.set_cons_zero, List.set_cons_succ]
              rfl
            refine pure_ (i := 22) (N := (some 140)) (v := ?_) (a' := ?_) #[true, true, true, true, true, true, true, true, true, true, true, true, true, true, true, true, true, true, true, true, false, true, true, false, false, false, false] rfl rfl (by kernel_rfl) (fun _ _ _ h => h) (Or.inl ⟨by rfl, ?_⟩) ?_ ?_
            rotate_left
            · intro w'
              go_simp
              with_reducible rfl
            rotate_left
            · simp only [Act.put, List.setIfInBounds_toArray, List.set_cons_zero, List.set_cons_succ]
              rfl
            refine pure_ (i := 23) (N := (some 141)) (v := ?_) (a' := ?_) #[true, true, true, true, true, true, true, true, true, true, true, true, true, true, true, true, true, true, true, true, false, true, true, true, false, false, false] rfl rfl (by kernel_rfl) (fun _ _ _ h => h) (Or.inl ⟨by rfl, ?_⟩) ?_ ?_
            rotate_left
            · intro w'
              go_simp
              with_reducible rfl
            rotate_left
            · simp only [Act.put, List.setIfInBounds_toArray, List.set_cons_zero, List.set_cons_succ]
              rfl
            refine take_ (i := 24) (N := (some 142)) (v := ?_) (a' := ?_) #[true, true, true, true, true, true, true, true, true, true, true, true, true, true, true, true, true, true, true, true, false, true, true, true, true, false, false] rfl rfl (by kernel_rfl) (fun _ _ _ h => h) (Or.inl ⟨by rfl, ?_⟩) hHeld ?_ ?_
            rotate_left
            · rintro w' ⟨s0, s1, s2, s3⟩
              go_simp
              with_reducible rfl
            rotate_left
            · simp only [Act.put, List.setIfInBounds_toArray, List.set_cons_zero, List.set_cons_succ]
              rfl
            refine one_ (i := 20) (N := (some 138)) #[true, true, true, true, true, true, true, true, true, true, true, true, true, true, true, true, true, true, true, true, true, true, true, true, true, false, false] rfl rfl (by kernel_rfl) (by decide) (fun K hK => ?_)
            go_simp
            refine (p_down HP10.out).mono ?_
            rintro e w11 ⟨rfl, rfl⟩
            refine hK.out _ _ HQ10.out (fun hHeld => ?_)
            clear hK K
            (try simp only [Act.put, List.setIfInBounds_toArray, List.set_cons_zero, List.set_cons_succ])
            refine pure_ (i := 25) (N := (some 143)) (v := ?_) (a' := ?_) #[true, true, true, true, true, true, true, true, true, true, true, true, true, true, true, true, true, true, true, true, true, true, true, true, true, true, false] rfl rfl (by kernel_rfl) (fun _ _ _ h => h) (Or.inl ⟨by rfl, ?_⟩) ?_ ?_
            rotate_left
            · intro w'
              go_simp
              with_reducible rfl
            rotate_left
            · simp only [Act.put, List.setIfInBounds_toArray, List.set_cons_zero, List.set_cons_succ]
              rfl
            refine pure_ (i := 26) (N := (some 144)) (v := ?_) (a' := ?_) #[true, true, true, true, true, true, true, true, true, true, true, true, true, true, true, true, true, true, true, true, true, true, true, true, true, true, true] rfl rfl (by kernel_rfl) (fun _ _ _ h => h) (Or.inl ⟨by rfl, ?_⟩) ?_ ?_
            rotate_left
            · intro w'
              go_simp
              with_reducible rfl
            rotate_left
            · simp only [Act.put, List.setIfInBounds_toArray, List.set_cons_zero, List.set_cons_succ]
              rfl
            refine done_ (by kernel_rfl) ?_
            clear hHeld
            go_wp2
            go_roundw
            case rel => exact ⟨i + 1, d', m', en', j', k', rfl, rfl, by go_num, hlt, HP10.out, HJ10.out, HK10.out, HJB2.out, HKB2.out, HMB.out⟩
            case measure => simp [intOf]; omega
        by_cases k3 : kd = 3
        · subst k3
          as_aux_lemma =>
          go_wp2_with fail
          have HP5 := Lib.hid (HP.out.mv ((Below.refl wr.heap.size wr).alloc (Nat.le_refl _) (.cells #[.int .i64 3, .int .i64 n.val, .slice B x.length cB] 53)))
          have HJ5 := Lib.hid (HJ.out.below ((Below.refl wr.heap.size wr).alloc (Nat.le_refl _) (.cells #[.int .i64 3, .int .i64 n.val, .slice B x.length cB] 53)))
          have HK5 := Lib.hid (HK.out.below ((Below.refl wr.heap.size wr).alloc (Nat.le_refl _) (.cells #[.int .i64 3, .int .i64 n.val, .slice B x.length cB] 53)))
          have hb5 := blk_new wr (.cells #[.int .i64 3, .int .i64 n.val, .slice B x.length cB] 53)
          clear q0 q1 q2 HP HJ HK
          refine (p_fail HP5.out n.val n.2).mono ?_
          rintro e w6 ⟨rfl, hp6, hk6⟩
          have HP6 := Lib.hid hp6
          have HJ6 := Lib.hid (HJ5.out.keepO hk6 (by decide) (by decide) (by decide))
          have HK6 := Lib.hid (HK5.out.keepO hk6 (by decide) (by decide) (by decide))
          have hb6 := (hk6 _ _ _ hb5 (by decide) (by decide) (by decide)).trans hb5
          have c1 := blk_cell hb6 1
          simp only [List.getElem?_toArray, List.getElem?_cons_succ, List.getElem?_cons_zero] at c1
          clear hp6 hk6 hb5 hb6 HP5 HJ5 HK5
          go_wp2_with fail
          refine (r_fail HP6.out n.val n.2).mono ?_
          rintro e w7 ⟨rfl, hp7, hk7⟩
          obtain ⟨d1, hrd⟩ : ∃ d1, d.fail n.val = d1 := ⟨_, rfl⟩
          rw [hrd] at hp7
          have HP7 := Lib.hid hp7
          have HJ7 := Lib.hid (HJ6.out.keepO hk7 (by decide) (by decide) (by decide))
          have HK7 := Lib.hid (HK6.out.keepO hk7 (by decide) (by decide) (by decide))
          clear c1 hp7 hk7 hrd HP6 HJ6 HK6
          obtain ⟨d', hd'⟩ : ∃ d', d1 = d' := ⟨_, rfl⟩
          rw [hd'] at HP7
          clear hd'
          obtain ⟨m', hm'⟩ : ∃ m', m = m' := ⟨_, rfl⟩
          obtain ⟨en', hen⟩ : ∃ en', en = en' := ⟨_, rfl⟩
          obtain ⟨j', hj'⟩ : ∃ j', j = j' := ⟨_, rfl⟩
          obtain ⟨k', hk'⟩ : ∃ k', k = k' := ⟨_, rfl⟩
          have HMB := Lib.hid (show m' ≤ 1048576 + (i + 1) by have := HM.out; omega)
          have HJB2 := Lib.hid (show w.heap.size ≤ j' from hj' ▸ HJB.out)
          have HKB2 := Lib.hid (show w.heap.size ≤ k' from hk' ▸ HKB.out)
          rw [hm', hen, hj'] at HJ7
          rw [hm', hen, hk'] at HK7
          rw [hj', hk']
          clear hm' hen hj' hk'
          go_wp2
          have HP8 := Lib.hid (HP7.out.mv (Below.drew (Below.refl w7.heap.size w7)))
          have HJ8 := Lib.hid (HJ7.out.below (Below.drew (Below.refl w7.heap.size w7)))
          have HK8 := Lib.hid (HK7.out.below (Below.drew (Below.refl w7.heap.size w7)))
          obtain ⟨Ar, cr, r3, r1, rC⟩ := HP8.out.right
          have r0 := HK8.out.cells.2.1
          clear HP7 HJ7 HK7
          refine start_ (n := 27) (S := fun w' => w'.cell? ⟨k', 1, none⟩ = some (.int .i64 m') ∧ w'.cell? ⟨q, 3, none⟩ = some (.bool d'.off) ∧ w'.cell? ⟨q, 1, none⟩ = some (.slice Ar d'.data.length cr) ∧ BC w' Ar d'.data) (ds := []) #[false, false, false, false, false, false, false, false, false, false, false, false, false, false, false, false, false, false, false, false, false, false, false, false, false, false, false] (by kernel_rfl) rfl rfl ⟨r0, r3, r1, rC⟩ (fun hHeld => ?_)
          clear r0 r3 r1 rC
          generalize w7.drew = w8 at HP8 HJ8 HK8 hHeld ⊢
          refine pure_ (i := 0) (N := (some 118)) (v := ?_) (a' := ?_) #[true, false, false, false, false, false, false, false, false, false, false, false, false, false, false, false, false, false, false, false, false, false, false, false, false, false, false] rfl rfl (by kernel_rfl) (fun _ _ _ h => h) (Or.inl ⟨by rfl, ?_⟩) ?_ ?_
          rotate_left
          · intro w'
            go_simp
            with_reducible rfl
          rotate_left
          · simp only [Act.put, List.setIfInBounds_toArray, List.set_cons_zero, List.set_cons_succ]
            rfl
          refine pure_ (i := 2) (N := (some 120)) (v := ?_) (a' := ?_) #[true, false, true, false, false, false, false, false, false, false, false, false, false, false, false, false, false, false, false, false, false, false, false, false, false, false, false] rfl rfl (by kernel_rfl) (fun _ _ _ h => h) (Or.inl ⟨by rfl, ?_⟩) ?_ ?_
          rotate_left
          · intro w'
            go_simp
            with_reducible rfl
          rotate_left
          · simp only [Act.put, List.setIfInBounds_toArray, List.set_cons_zero, List.set_cons_succ]
            rfl
          refine pure_ (i := 3) (N := (some 121)) (v := ?_) (a' := ?_) #[true, false, true, true, false, false, false, false, false, false, false, false, false, false, false, false, false, false, false, false, false, false, false, false, false, false, false] rfl rfl (by kernel_rfl) (fun _ _ _ h => h) (Or.inl ⟨by rfl, ?_⟩) ?_ ?_
          rotate_left
          · intro w'
            go_simp
            with_reducible rfl
          rotate_left
          · simp only [Act.put, List.setIfInBounds_toArray, List.set_cons_zero, List.set_cons_succ]
            rfl
          refine pure_ (i := 4) (N := (some 122)) (v := ?_) (a' := ?_) #[true, false, true, true, true, false, false, false, false, false, false, false, false, false, false, false, false, false, false, false, false, false, false, false, false, false, false] rfl rfl (by kernel_rfl) (fun _ _ _ h => h) (Or.inl ⟨by rfl, ?_⟩) ?_ ?_
          rotate_left
          · intro w'
            go_simp
            with_reducible rfl
          rotate_left
          · simp only [Act.put, List.setIfInBounds_toArray, List.set_cons_zero, List.set_cons_succ]
            rfl
          refine take_ (i := 5) (N := (some 123)) (v := ?_) (a' := ?_) #[true, false, true, true, true, true, false, false, false, false, false, false, false, false, false, false, false, false, false, false, false, false, false, false, false, false, false] rfl rfl (by kernel_rfl) (fun _ _ _ h => h) (Or.inl ⟨by rfl, ?_⟩) hHeld ?_ ?_
          rotate_left
          · rintro w' ⟨s0, s1, s2, s3⟩
            go_simp
            with_reducible rfl
          rotate_left
          · simp only [Act.put, List.setIfInBounds_toArray, List.set_cons_zero, List.set_cons_succ]
            rfl
          refine one_ (i := 1) (N := (some 119)) #[true, true, true, true, true, true, false, false, false, false, false, false, false, false, false, false, false, false, false, false, false, false, false, false, false, false, false] rfl rfl (by kernel_rfl) (by decide) (fun K hK => ?_)
          go_simp
          refine (len_any HJ8.out).mono ?_
          rintro e w9 ⟨rfl, rfl⟩
          refine hK.out _ _ hHeld (fun hHeld => ?_)
          clear hK K
          (try simp only [Act.put, List.setIfInBounds_toArray, List.set_cons_zero, List.set_cons_succ])
          refine pure_ (i := 6) (N := (some 124)) (v := ?_) (a' := ?_) #[true, true, true, true, true, true, true, false, false, false, false, false, false, false, false, false, false, false, false, false, false, false, false, false, false, false, false] rfl rfl (by kernel_rfl) (fun _ _ _ h => h) (Or.inl ⟨by rfl, ?_⟩) ?_ ?_
          rotate_left
          · intro w'
            go_simp
            with_reducible rfl
          rotate_left
          · simp only [Act.put, List.setIfInBounds_toArray, List.set_cons_zero, List.set_cons_succ]
            rfl
          refine pure_ (i := 7) (N := (some 125)) (v := ?_) (a' := ?_) #[true, true, true, true, true, true, true, true, false, false, false, false, false, false, false, false, false, false, false, false, false, false, false, false, false, false, false] rfl rfl (by kernel_rfl) (fun _ _ _ h => h) (Or.inl ⟨by rfl, ?_⟩) ?_ ?_
          rotate_left
          · intro w'
            go_simp
            with_reducible rfl
          rotate_left
          · simp only [Act.put, List.setIfInBounds_toArray, List.set_cons_zero, List.set_cons_succ]
            rfl
          refine pure_ (i := 8) (N := (some 126)) (v := ?_) (a' := ?_) #[true, true, true, true, true, true, true, true, true, false, false, false, false, false, false, false, false, false, false, false, false, false, false, false, false, false, false] rfl rfl (by kernel_rfl) (fun _ _ _ h => h) (Or.inl ⟨by rfl, ?_⟩) ?_ ?_
          rotate_left
          · intro w'
            go_simp
            with_reducible rfl
          rotate_left
          · simp only [Act.put, List.setIfInBounds_toArray, List.set_cons_zero, List.set_cons_succ]
            rfl
          refine pure_ (i := 11) (N := (some 129)) (v := ?_) (a' := ?_) #[true, true, true, true, true, true, true, true, true, false, false, true, false, false, false, false, false, false, false, false, false, false, false, false, false, false, false] rfl rfl (by kernel_rfl) (fun _ _ _ h => h) (Or.inl ⟨by rfl, ?_⟩) ?_ ?_
          rotate_left
          · intro w'
            go_simp
            with_reducible rfl
          rotate_left
          · simp only [Act.put, List.setIfInBounds_toArray, List.set_cons_zero, List.set_cons_succ]
            rfl
          refine pure_ (i := 12) (N := (some 130)) (v := ?_) (a' := ?_) #[true, true, true, true, true, true, true, true, true, false, false, true, true, false, false, false, false, false, false, false, false, false, false, false, false, false, false] rfl rfl (by kernel_rfl) (fun _ _ _ h => h) (Or.inl ⟨by rfl, ?_⟩) ?_ ?_
          rotate_left
          · intro w'
            go_simp
            with_reducible rfl
          rotate_left
          · simp only [Act.put, List.setIfInBounds_toArray, List.set_cons_zero, List.set_cons_succ]
            rfl
          refine pure_ (i := 13) (N := (some 131)) (v := ?_) (a' := ?_) #[true, true, true, true, true, true, true, true, true, false, false, true, true, true, false, false, false, false, false, false, false, false, false, false, false, false, false] rfl rfl (by kernel_rfl) (fun _ _ _ h => h) (Or.inl ⟨by rfl, ?_⟩) ?_ ?_
          rotate_left
          · intro w'
            go_simp
            with_reducible rfl
          rotate_left
          · simp only [Act.put, List.setIfInBounds_toArray, List.set_cons_zero, List.set_cons_succ]
            rfl
          refine take_ (i := 14) (N := (some 132)) (v := ?_) (a' := ?_) #[true, true, true, true, true, true, true, true, true, false, false, true, true, true, true, false, false, false, false, false, false, false, false, false, false, false, false] rfl rfl (by kernel_rfl) (fun _ _ _ h => h) (Or.inl ⟨by rfl, ?_⟩) hHeld ?_ ?_
          rotate_left
          · rintro w' ⟨s0, s1, s2, s3⟩
            go_simp
            with_reducible rfl
          rotate_left
          · simp only [Act.put, List.setIfInBounds_toArray, List.set_cons_zero, List.set_cons_succ]
            rfl
          refine take_ (i := 15) (N := (some 133)) (v := ?_) (a' := ?_) #[true, true, true, true, true, true, true, true, true, false, false, true, true, true, true, true, false, false, false, false, false, false, false, false, false, false, false] rfl rfl (by kernel_rfl) (fun _ _ _ h => h) (Or.inl ⟨by rfl, ?_⟩) hHeld ?_ ?_
          rotate_left
          · rintro w' ⟨s0, s1, s2, s3⟩
            have hcv := conv_b (c := cr) s3
            go_simp
            with_reducible rfl
          rotate_left
          · simp only [Act.put, List.setIfInBounds_toArray, List.set_cons_zero, List.set_cons_succ]
            rfl
          refine one_ (i := 9) (N := (some 127)) #[true, true, true, true, true, true, true, true, true, true, false, true, true, true, true, true, false, false, false, false, false, false, false, false, false, false, false] rfl rfl (by kernel_rfl) (by decide) (fun K hK => ?_)
          go_simp
          refine (p_bytes HP8.out).mono ?_
          rintro e w10 ⟨A10, rfl, hC10, hb10⟩
          have HP10 := Lib.hid (HP8.out.mv hb10)
          have HJ10 := Lib.hid (HJ8.out.below hb10)
          have HK10 := Lib.hid (HK8.out.below hb10)
          have HC10 := Lib.hid hC10
          have HQ10 := Lib.hid (held_below4 hHeld hb10)
          clear hb10 hC10
          refine hK.out _ _ HQ10.out (fun hHeld => ?_)
          clear hK K
          (try simp only [Act.put, List.setIfInBounds_toArray, List.set_cons_zero, List.set_cons_succ])
          refine one_ (i := 10) (N := (some 128)) #[true, true, true, true, true, true, true, true, true, true, true, true, true, true, true, true, false, false, false, false, false, false, false, false, false, false, false] rfl rfl (by kernel_rfl) (by decide) (fun K hK => ?_)
          have hcv := conv_b (c := d'.data.length) HC10.out
          go_simp
          clear hcv
          refine hK.out _ _ HQ10.out (fun hHeld => ?_)
          clear hK K
          (try simp only [Act.put, List.setIfInBounds_toArray, List.set_cons_zero, List.set_cons_succ])
          refine pure_ (i := 16) (N := (some 134)) (v := ?_) (a' := ?_) #[true, true, true, true, true, true, true, true, true, true, true, true, true, true, true, true, true, false, false, false, false, false, false, false, false, false, false] rfl rfl (by kernel_rfl) (fun _ _ _ h => h) (Or.inl ⟨by rfl, ?_⟩) ?_ ?_
          rotate_left
          · intro w'
            go_simp
            with_reducible rfl
          rotate_left
          · simp only [Act.put, List.setIfInBounds_toArray, List.set_cons_zero, List.set_cons_succ]
            rfl
          refine pure_ (i := 17) (N := (some 135)) (v := ?_) (a' := ?_) #[true, true, true, true, true, true, true, true, true, true, true, true, true, true, true, true, true, true, false, false, false, false, false, false, false, false, false] rfl rfl (by kernel_rfl) (fun _ _ _ h => h) (Or.inl ⟨by rfl, ?_⟩) ?_ ?_
          rotate_left
          · intro w'
            go_simp
            with_reducible rfl
          rotate_left
          · simp only [Act.put, List.setIfInBounds_toArray, List.set_cons_zero, List.set_cons_succ]
            rfl
          refine pure_ (i := 18) (N := (some 136)) (v := ?_) (a' := ?_) #[true, true, true, true, true, true, true, true, true, true, true, true, true, true, true, true, true, true, true, false, false, false, false, false, false, false, false] rfl rfl (by kernel_rfl) (fun _ _ _ h => h) (Or.inl ⟨by rfl, ?_⟩) ?_ ?_
          rotate_left
          · intro w'
            go_simp
            with_reducible rfl
          rotate_left
          · simp only [Act.put, List.setIfInBounds_toArray, List.set_cons_zero, List.set_cons_succ]
            rfl
          refine pure_ (i := 19) (N := (some 137)) (v := ?_) (a' := ?_) #[true, true, true, true, true, true, true, true, true, true, true, true, true, true, true, true, true, true, true, true, false, false, false, false, false, false, false] rfl rfl (by kernel_rfl) (fun _ _ _ h => h) (Or.inl ⟨by rfl, ?_⟩) ?_ ?_
          rotate_left
          · intro w'
            go_simp
            with_reducible rfl
          rotate_left
          · simp only [Act.put, List.setIfInBounds_toArray, List.set_cons_zero, List.set_cons_succ]
            rfl
          refine pure_ (i := 21) (N := (some 139)) (v := ?_) (a' := ?_) #[true, true, true, true, true, true, true, true, true, true, true, true, true, true, true, true, true, true, true, true, false, true, false, false, false, false, false] rfl rfl (by kernel_rfl) (fun _ _ _ h => h) (Or.inl ⟨by rfl, ?_⟩) ?_ ?_
          rotate_left
          · intro w'
            go_simp
            with_reducible rfl
          rotate_left
          · simp only [Act.put, List.setIfInBounds_toArray, List.set_cons_zero, List.set_cons_succ]
            rfl
          refine pure_ (i := 22) (N := (some 140)) (v := ?_) (a' := ?_) #[true, true, true, true, true, true, true, true, true, true, true, true, true, true, true, true, true, true, true, true, false, true, true, false, false, false, false] rfl rfl (by kernel_rfl) (fun _ _ _ h => h) (Or.inl ⟨by rfl, ?_⟩) ?_ ?_
          rotate_left
          · intro w'
            go_simp
            with_reducible rfl
          rotate_left
          · simp only [Act.put, List.setIfInBounds_toArray, List.set_cons_zero, List.set_cons_succ]
            rfl
          refine pure_ (i := 23) (N := (some 141)) (v := ?_) (a' := ?_) #[true, true, true, true, true, true, true, true, true, true, true, true, true, true, true, true, true, true, true, true, false, true, true, true, false, false, false] rfl rfl (by kernel_rfl) (fun _ _ _ h => h) (Or.inl ⟨by rfl, ?_⟩) ?_ ?_
          rotate_left
          · intro w'
            go_simp
            with_reducible rfl
          rotate_left
          · simp only [Act.put, List.setIfInBounds_toArray, List.set_cons_zero, List.set_cons_succ]
            rfl
          refine take_ (i := 24) (N := (some 142)) (v := ?_) (a' := ?_) #[true, true, true, true, true, true, true, true, true, true, true, true, true, true, true, true, true, true, true, true, false, true, true, true, true, false, false] rfl rfl (by kernel_rfl) (fun _ _ _ h => h) (Or.inl ⟨by rfl, ?_⟩) hHeld ?_ ?_
          rotate_left
          · rintro w' ⟨s0, s1, s2, s3⟩
            go_simp
            with_reducible rfl
          rotate_left
          · simp only [Act.put, List.setIfInBounds_toArray, List.set_cons_zero, List.set_cons_succ]
            rfl
          refine one_ (i := 20) (N := (some 138)) #[true, true, true, true, true, true, true, true, true, true, true, true, true, true, true, true, true, true, true, true, true, true, true, true, true, false, false] rfl rfl (by kernel_rfl) (by decide) (fun K hK => ?_)
          go_simp
          refine (p_down HP10.out).mono ?_
          rintro e w11 ⟨rfl, rfl⟩
          refine hK.out _ _ HQ10.out (fun hHeld => ?_)
          clear hK K
          (try simp only [Act.put, List.setIfInBounds_toArray, List.set_cons_zero, List.set_cons_succ])
          refine pure_ (i := 25) (N := (some 143)) (v := ?_) (a' := ?_) #[true, true, true, true, true, true, true, true, true, true, true, true, true, true, true, true, true, true, true, true, true, true, true, true, true, true, false] rfl rfl (by kernel_rfl) (fun _ _ _ h => h) (Or.inl ⟨by rfl, ?_⟩) ?_ ?_
          rotate_left
          · intro w'
            go_simp
            with_reducible rfl
          rotate_left
          · simp only [Act.put, List.setIfInBounds_toArray, List.set_cons_zero, List.set_cons_succ]
            rfl
          refine pure_ (i := 26) (N := (some 144)) (v := ?_) (a' := ?_) #[true, true, true, true, true, true, true, true, true, true, true, true, true, true, true, true, true, true, true, true, true, true, true, true, true, true, true] rfl rfl (by kernel_rfl) (fun _ _ _ h => h) (Or.inl ⟨by rfl, ?_⟩) ?_ ?_
          rotate_left
          · intro w'
            go_simp
            with_reducible rfl
          rotate_left
          · simp only [Act.put, List.setIfInBounds_toArray, List.set_cons_zero, List.set_cons_succ]
            rfl
          refine done_ (by kernel_rfl) ?_
          clear hHeld
          go_wp2
          go_roundw
          case rel => exact ⟨i + 1, d', m', en', j', k', rfl, rfl, by go_num, hlt, HP10.out, HJ10.out, HK10.out, HJB2.out, HKB2.out, HMB.out⟩
          case measure => simp [intOf]; omega
        · as_aux_lemma =>
          go_wp2
          have HP5 := Lib.hid (HP.out.mv ((Below.refl wr.heap.size wr).alloc (Nat.le_refl _) (.cells #[.int .i64 kd, .int .i64 n.val, .slice B x.length cB] 53)))
          have HJ5 := Lib.hid (HJ.out.below ((Below.refl wr.heap.size wr).alloc (Nat.le_refl _) (.cells #[.int .i64 kd, .int .i64 n.val, .slice B x.length cB] 53)))
          have HK5 := Lib.hid (HK.out.below ((Below.refl wr.heap.size wr).alloc (Nat.le_refl _) (.cells #[.int .i64 kd, .int .i64 n.val, .slice B x.length cB] 53)))
          have hb5 := blk_new wr (.cells #[.int .i64 kd, .int .i64 n.val, .slice B x.length cB] 53)
          clear q0 q1 q2 HP HJ HK
          have HP6 := Lib.hid (HP5.out.mv (Below.drew (Below.refl (wr.alloc (.cells #[.int .i64 kd, .int .i64 n.val, .slice B x.length cB] 53)).heap.size (wr.alloc (.cells #[.int .i64 kd, .int .i64 n.val, .slice B x.length cB] 53)))))
          have HJ6 := Lib.hid (HJ5.out.below (Below.drew (Below.refl (wr.alloc (.cells #[.int .i64 kd, .int .i64 n.val, .slice B x.length cB] 53)).heap.size (wr.alloc (.cells #[.int .i64 kd, .int .i64 n.val, .slice B x.length cB] 53)))))
          have HK6 := Lib.hid (HK5.out.below (Below.drew (Below.refl (wr.alloc (.cells #[.int .i64 kd, .int .i64 n.val, .slice B x.length cB] 53)).heap.size (wr.alloc (.cells #[.int .i64 kd, .int .i64 n.val, .slice B x.length cB] 53)))))
          have hb6 : (wr.alloc (.cells #[.int .i64 kd, .int .i64 n.val, .slice B x.length cB] 53)).drew.heap[wr.heap.size]? = some (.cells #[.int .i64 kd, .int .i64 n.val, .slice B x.length cB] 53) := hb5
          have c1 := blk_cell hb6 2
          simp only [List.getElem?_toArray, List.getElem?_cons_succ, List.getElem?_cons_zero] at c1
          clear hb5 HP5 HJ5 HK5
          refine start_ (n := 9) (S := fun w' => w'.cell? ⟨wr.heap.size, 2, none⟩ = some (.slice B x.length cB)) (ds := []) #[false, false, false, false, false, false, false, false, false] (by kernel_rfl) rfl rfl c1 (fun hHeld => ?_)
          clear c1
          generalize (wr.alloc (.cells #[.int .i64 kd, .int .i64 n.val, .slice B x.length cB] 53)).drew = w5 at HP6 HJ6 HK6 hb6 hHeld ⊢
          have hb5 := hb6
          clear hb6
          refine pure_ (i := 0) (N := (some 63)) (v := ?_) (a' := ?_) #[true, false, false, false, false, false, false, false, false] rfl rfl (by kernel_rfl) (fun _ _ _ h => h) (Or.inl ⟨by rfl, ?_⟩) ?_ ?_
          rotate_left
          · intro w'
            go_simp
            with_reducible rfl
          rotate_left
          · simp only [Act.put, List.setIfInBounds_toArray, List.set_cons_zero, List.set_cons_succ]
            rfl
          refine pure_ (i := 1) (N := (some 64)) (v := ?_) (a' := ?_) #[true, true, false, false, false, false, false, false, false] rfl rfl (by kernel_rfl) (fun _ _ _ h => h) (Or.inl ⟨by rfl, ?_⟩) ?_ ?_
          rotate_left
          · intro w'
            go_simp
            with_reducible rfl
          rotate_left
          · simp only [Act.put, List.setIfInBounds_toArray, List.set_cons_zero, List.set_cons_succ]
            rfl
          refine take_ (i := 2) (N := (some 65)) (v := ?_) (a' := ?_) #[true, true, true, false, false, false, false, false, false] rfl rfl (by kernel_rfl) (fun _ _ _ h => h) (Or.inl ⟨by rfl, ?_⟩) hHeld ?_ ?_
          rotate_left
          · rintro w' s0
            go_simp
            with_reducible rfl
          rotate_left
          · simp only [Act.put, List.setIfInBounds_toArray, List.set_cons_zero, List.set_cons_succ]
            rfl
          refine pure_ (i := 4) (N := (some 67)) (v := ?_) (a' := ?_) #[true, true, true, false, true, false, false, false, false] rfl rfl (by kernel_rfl) (fun _ _ _ h => h) (Or.inl ⟨by rfl, ?_⟩) ?_ ?_
          rotate_left
          · intro w'
            go_simp
            with_reducible rfl
          rotate_left
          · simp only [Act.put, List.setIfInBounds_toArray, List.set_cons_zero, List.set_cons_succ]
            rfl
          refine pure_ (i := 5) (N := (some 68)) (v := ?_) (a' := ?_) #[true, true, true, false, true, true, false, false, false] rfl rfl (by kernel_rfl) (fun _ _ _ h => h) (Or.inl ⟨by rfl, ?_⟩) ?_ ?_
          rotate_left
          · intro w'
            go_simp
            with_reducible rfl
          rotate_left
          · simp only [Act.put, List.setIfInBounds_toArray, List.set_cons_zero, List.set_cons_succ]
            rfl
          refine take_ (i := 6) (N := (some 69)) (v := ?_) (a' := ?_) #[true, true, true, false, true, true, true, false, false] rfl rfl (by kernel_rfl) (fun _ _ _ h => h) (Or.inl ⟨by rfl, ?_⟩) hHeld ?_ ?_
          rotate_left
          · rintro w' s0
            go_simp
            with_reducible rfl
          rotate_left
          · simp only [Act.put, List.setIfInBounds_toArray, List.set_cons_zero, List.set_cons_succ]
            rfl
          refine one_ (i := 3) (N := (some 66)) #[true, true, true, true, true, true, true, false, false] rfl rfl (by kernel_rfl) (by decide) (fun K hK => ?_)
          go_simp
          refine (app_left HP6.out HJ6.out HJB.out HC.out hl HX.out HM2.out).mono ?_
          rintro e w6 ⟨rfl, hp6, hj6, hk6⟩
          have HPa := Lib.hid hp6
          have HJa := Lib.hid hj6
          have HKa := Lib.hid (HK6.out.keepT hk6 (by decide) (by decide) (by decide))
          have hb6 := (hk6 _ _ _ hb5 (by decide) (by decide) (by decide)).trans hb5
          have HB6 := Lib.hid hb6
          clear hp6 hj6 hk6 hb5 hb6
          refine hK.out _ _ (blk_cell HB6.out 2) (fun hHeld => ?_)
          clear hK K
          (try simp only [Act.put, List.setIfInBounds_toArray, List.set_cons_zero, List.set_cons_succ])
          refine one_ (i := 7) (N := (some 70)) #[true, true, true, true, true, true, true, true, false] rfl rfl (by kernel_rfl) (by decide) (fun K hK => ?_)
          go_simp
          refine (app_right HPa.out HKa.out HKB.out HC.out hl HX.out HM2.out).mono ?_
          rintro e w7 ⟨rfl, hp7, hk7, hkk7⟩
          have HP7 := Lib.hid hp7
          have HK7 := Lib.hid hk7
          have HJ7 := Lib.hid (HJa.out.keepT hkk7 (by decide) (by decide) (by decide))
          have hb7 := (hkk7 _ _ _ HB6.out (by decide) (by decide) (by decide)).trans HB6.out
          have HB7 := Lib.hid hb7
          clear hp7 hk7 hkk7 hb7
          refine hK.out _ _ (blk_cell HB7.out 2) (fun hHeld => ?_)
          clear hK K
          (try simp only [Act.put, List.setIfInBounds_toArray, List.set_cons_zero, List.set_cons_succ])
          refine pure_ (i := 8) (N := (some 71)) (v := ?_) (a' := ?_) #[true, true, true, true, true, true, true, true, true] rfl rfl (by kernel_rfl) (fun _ _ _ h => h) (Or.inl ⟨by rfl, ?_⟩) ?_ ?_
          rotate_left
          · intro w'
            go_simp
            with_reducible rfl
          rotate_left
          · simp only [Act.put, List.setIfInBounds_toArray, List.set_cons_zero, List.set_cons_succ]
            rfl
          refine done_ (by kernel_rfl) ?_
          clear hHeld HB6 HB7 HPa HP6 HJa HKa HJ6 HK6
          obtain ⟨⟨r, d'⟩, hrd⟩ : ∃ y, d.app en x = y := ⟨_, rfl⟩
          rw [hrd] at HP7 HJ7 HK7 ⊢
          clear hrd
          obtain ⟨m', hm'⟩ : ∃ m', (if r = 0 then m + 1 else m) = m' := ⟨_, rfl⟩
          obtain ⟨en', hen⟩ : ∃ en', (en || (r == 13)) = en' := ⟨_, rfl⟩
          obtain ⟨j', hj'⟩ : ∃ j', j = j' := ⟨_, rfl⟩
          obtain ⟨k', hk'⟩ : ∃ k', k = k' := ⟨_, rfl⟩
          have HMB := Lib.hid (show m' ≤ 1048576 + (i + 1) by have := HM.out; rw [← hm']; split <;> omega)
          have HJB2 := Lib.hid (show w.heap.size ≤ j' from hj' ▸ HJB.out)
          have HKB2 := Lib.hid (show w.heap.size ≤ k' from hk' ▸ HKB.out)
          replace HJ7 := Lib.hid (show JAt 68 w7 j' g m' en' by have := HJ7.out; simp only at this; rw [hm', hen, hj'] at this; exact this)
          replace HK7 := Lib.hid (show JAt 55 w7 k' q m' en' by have := HK7.out; simp only at this; rw [hm', hen, hk'] at this; exact this)
          rw [hj', hk']
          clear hm' hen hj' hk'
          go_wp2
          have HP8 := Lib.hid (HP7.out.mv (Below.drew (Below.refl w7.heap.size w7)))
          have HJ8 := Lib.hid (HJ7.out.below (Below.drew (Below.refl w7.heap.size w7)))
          have HK8 := Lib.hid (HK7.out.below (Below.drew (Below.refl w7.heap.size w7)))
          obtain ⟨Ar, cr, r3, r1, rC⟩ := HP8.out.right
          have r0 := HK8.out.cells.2.1
          clear HP7 HJ7 HK7
          refine start_ (n := 27) (S := fun w' => w'.cell? ⟨k', 1, none⟩ = some (.int .i64 m') ∧ w'.cell? ⟨q, 3, none⟩ = some (.bool d'.off) ∧ w'.cell? ⟨q, 1, none⟩ = some (.slice Ar d'.data.length cr) ∧ BC w' Ar d'.data) (ds := []) #[false, false, false, false, false, false, false, false, false, false, false, false, false, false, false, false, false, false, false, false, false, false, false, false, false, false, false] (by kernel_rfl) rfl rfl ⟨r0, r3, r1, rC⟩ (fun hHeld => ?_)
          clear r0 r3 r1 rC
          generalize w7.drew = w8 at HP8 HJ8 HK8 hHeld ⊢
          refine pure_ (i := 0) (N := (some 118)) (v := ?_) (a' := ?_) #[true, false, false, false, false, false, false, false, false, false, false, false, false, false, false, false, false, false, false, false, false, false, false, false, false, false, false] rfl rfl (by kernel_rfl) (fun _ _ _ h => h) (Or.inl ⟨by rfl, ?_⟩) ?_ ?_
          rotate_left
          · intro w'
            go_simp
            with_reducible rfl
          rotate_left
          · simp only [Act.put, List.setIfInBounds_toArray, List.set_cons_zero, List.set_cons_succ]
            rfl
          refine pure_ (i := 2) (N := (some 120)) (v := ?_) (a' := ?_) #[true, false, true, false, false, false, false, false, false, false, false, false, false, false, false, false, false, false, false, false, false, false, false, false, false, false, false] rfl rfl (by kernel_rfl) (fun _ _ _ h => h) (Or.inl ⟨by rfl, ?_⟩) ?_ ?_
          rotate_left
          · intro w'
            go_simp
            with_reducible rfl
          rotate_left
          · simp only [Act.put, List.setIfInBounds_toArray, List.set_cons_zero, List.set_cons_succ]
            rfl
          refine pure_ (i := 3) (N := (some 121)) (v := ?_) (a' := ?_) #[true, false, true, true, false, false, false, false, false, false, false, false, false, false, false, false, false, false, false, false, false, false, false, false, false, false, false] rfl rfl (by kernel_rfl) (fun _ _ _ h => h) (Or.inl ⟨by rfl, ?_⟩) ?_ ?_
          rotate_left
          · intro w'
            go_simp
            with_reducible rfl
          rotate_left
          · simp only [Act.put, List.setIfInBounds_toArray, List.set_cons_zero, List.set_cons_succ]
            rfl
          refine pure_ (i := 4) (N := (some 122)) (v := ?_) (a' := ?_) #[true, false, true, true, true, false, false, false, false, false, false, false, false, false, false, false, false, false, false, false, false, false, false, false, false, false, false] rfl rfl (by kernel_rfl) (fun _ _ _ h => h) (Or.inl ⟨by rfl, ?_⟩) ?_ ?_
          rotate_left
          · intro w'
            go_simp
            with_reducible rfl
          rotate_left
          · simp only [Act.put, List.setIfInBounds_toArray, List.set_cons_zero, List.set_cons_succ]
            rfl
          refine take_ (i := 5) (N := (some 123)) (v := ?_) (a' := ?_) #[true, false, true, true, true, true, false, false, false, false, false, false, false, false, false, false, false, false, false, false, false, false, false, false, false, false, false] rfl rfl (by kernel_rfl) (fun _ _ _ h => h) (Or.inl ⟨by rfl, ?_⟩) hHeld ?_ ?_
          rotate_left
          · rintro w' ⟨s0, s1, s2, s3⟩
            go_simp
            with_reducible rfl
          rotate_left
          · simp only [Act.put, List.setIfInBounds_toArray, List.set_cons_zero, List.set_cons_succ]
            rfl
          refine one_ (i := 1) (N := (some 119)) #[true, true, true, true, true, true, false, false, false, false, false, false, false, false, false, false, false, false, false, false, false, false, false, false, false, false, false] rfl rfl (by kernel_rfl) (by decide) (fun K hK => ?_)
          go_simp
          refine (len_any HJ8.out).mono ?_
          rintro e w9 ⟨rfl, rfl⟩
          refine hK.out _ _ hHeld (fun hHeld => ?_)
          clear hK K
          (try simp only [Act.put, List.setIfInBounds_toArray, List.set_cons_zero, List.set_cons_succ])
          refine pure_ (i := 6) (N := (some 124)) (v := ?_) (a' := ?_) #[true, true, true, true, true, true, true, false, false, false, false, false, false, false, false, false, false, false, false, false, false, false, false, false, false, false, false] rfl rfl (by kernel_rfl) (fun _ _ _ h => h) (Or.inl ⟨by rfl, ?_⟩) ?_ ?_
          rotate_left
          · intro w'
            go_simp
            with_reducible rfl
          rotate_left
          · simp only [Act.put, List.setIfInBounds_toArray, List.set_cons_zero, List.set_cons_succ]
            rfl
          refine pure_ (i := 7) (N := (some 125)) (v := ?_) (a' := ?_) #[true, true, true, true, true, true, true, true, false, false, false, false, false, false, false, false, false, false, false, false, false, false, false, false, false, false, false] rfl rfl (by kernel_rfl) (fun _ _ _ h => h) (Or.inl ⟨by rfl, ?_⟩) ?_ ?_
          rotate_left
          · intro w'
            go_simp
            with_reducible rfl
          rotate_left
          · simp only [Act.put, List.setIfInBounds_toArray, List.set_cons_zero, List.set_cons_succ]
            rfl
          refine pure_ (i := 8) (N := (some 126)) (v := ?_) (a' := ?_) #[true, true, true, true, true, true, true, true, true, false, false, false, false, false, false, false, false, false, false, false, false, false, false, false, false, false, false] rfl rfl (by kernel_rfl) (fun _ _ _ h => h) (Or.inl ⟨by rfl, ?_⟩) ?_ ?_
          rotate_left
          · intro w'
            go_simp
            with_reducible rfl
          rotate_left
          · simp only [Act.put, List.setIfInBounds_toArray, List.set_cons_zero, List.set_cons_succ]
            rfl
          refine pure_ (i := 11) (N := (some 129)) (v := ?_) (a' := ?_) #[true, true, true, true, true, true, true, true, true, false, false, true, false, false, false, false, false, false, false, false, false, false, false, false, false, false, false] rfl rfl (by kernel_rfl) (fun _ _ _ h => h) (Or.inl ⟨by rfl, ?_⟩) ?_ ?_
          rotate_left
          · intro w'
            go_simp
            with_reducible rfl
          rotate_left
          · simp only [Act.put, List.setIfInBounds_toArray, List.set_cons_zero, List.set_cons_succ]
            rfl
          refine pure_ (i := 12) (N := (some 130)) (v := ?_) (a' := ?_) #[true, true, true, true, true, true, true, true, true, false, false, true, true, false, false, false, false, false, false, false, false, false, false, false, false, false, false] rfl rfl (by kernel_rfl) (fun _ _ _ h => h) (Or.inl ⟨by rfl, ?_⟩) ?_ ?_
          rotate_left
          · intro w'
            go_simp
            with_reducible rfl
          rotate_left
          · simp only [Act.put, List.setIfInBounds_toArray, List.set_cons_zero, List.set_cons_succ]
            rfl
          refine pure_ (i := 13) (N := (some 131)) (v := ?_) (a' := ?_) #[true, true, true, true, true, true, true, true, true, false, false, true, true, true, false, false, false, false, false, false, false, false, false, false, false, false, false] rfl rfl (by kernel_rfl) (fun _ _ _ h => h) (Or.inl ⟨by rfl, ?_⟩) ?_ ?_
          rotate_left
          · intro w'
            go_simp
            with_reducible rfl
          rotate_left
          · simp only [Act.put, List.setIfInBounds_toArray, List.set_cons_zero, List.set_cons_succ]
            rfl
          refine take_ (i := 14) (N := (some 132)) (v := ?_) (a' := ?_) #[true, true, true, true, true, true, true, true, true, false, false, true, true, true, true, false, false, false, false, false, false, false, false, false, false, false, false] rfl rfl (by kernel_rfl) (fun _ _ _ h => h) (Or.inl ⟨by rfl, ?_⟩) hHeld ?_ ?_
          rotate_left
          · rintro w' ⟨s0, s1, s2, s3⟩
            go_simp
            with_reducible rfl
          rotate_left
          · simp only [Act.put, List.setIfInBounds_toArray, List.set_cons_zero, List.set_cons_succ]
            rfl
          refine take_ (i := 15) (N := (some 133)) (v := ?_) (a' := ?_) #[true, true, true, true, true, true, true, true, true, false, false, true, true, true, true, true, false, false, false, false, false, false, false, false, false, false, false] rfl rfl (by kernel_rfl) (fun _ _ _ h => h) (Or.inl ⟨by rfl, ?_⟩) hHeld ?_ ?_
          rotate_left
          · rintro w' ⟨s0, s1, s2, s3⟩
            have hcv := conv_b (c := cr) s3
            go_simp
            with_reducible rfl
          rotate_left
          · simp only [Act.put, List.setIfInBounds_toArray, List.set_cons_zero, List.set_cons_succ]
            rfl
          refine one_ (i := 9) (N := (some 127)) #[true, true, true, true, true, true, true, true, true, true, false, true, true, true, true, true, false, false, false, false, false, false, false, false, false, false, false] rfl rfl (by kernel_rfl) (by decide) (fun K hK => ?_)
          go_simp
          refine (p_bytes HP8.out).mono ?_
          rintro e w10 ⟨A10, rfl, hC10, hb10⟩
          have HP10 := Lib.hid (HP8.out.mv hb10)
          have HJ10 := Lib.hid (HJ8.out.below hb10)
          have HK10 := Lib.hid (HK8.out.below hb10)
          have HC10 := Lib.hid hC10
          have HQ10 := Lib.hid (held_below4 hHeld hb10)
          clear hb10 hC10
          refine hK.out _ _ HQ10.out (fun hHeld => ?_)
          clear hK K
          (try simp only [Act.put, List.setIfInBounds_toArray, List.set_cons_zero, List.set_cons_succ])
          refine one_ (i := 10) (N := (some 128)) #[true, true, true, true, true, true, true, true, true, true, true, true, true, true, true, true, false, false, false, false, false, false, false, false, false, false, false] rfl rfl (by kernel_rfl) (by decide) (fun K hK => ?_)
          have hcv := conv_b (c := d'.data.length) HC10.out
          go_simp
          clear hcv
          refine hK.out _ _ HQ10.out (fun hHeld => ?_)
          clear hK K
          (try simp only [Act.put, List.setIfInBounds_toArray, List.set_cons_zero, List.set_cons_succ])
          refine pure_ (i := 16) (N := (some 134)) (v := ?_) (a' := ?_) #[true, true, true, true, true, true, true, true, true, true, true, true, true, true, true, true, true, false, false, false, false, false, false, false, false, false, false] rfl rfl (by kernel_rfl) (fun _ _ _ h => h) (Or.inl ⟨by rfl, ?_⟩) ?_ ?_
          rotate_left
          · intro w'
            go_simp
            with_reducible rfl
          rotate_left
          · simp only [Act.put, List.setIfInBounds_toArray, List.set_cons_zero, List.set_cons_succ]
            rfl
          refine pure_ (i := 17) (N := (some 135)) (v := ?_) (a' := ?_) #[true, true, true, true, true, true, true, true, true, true, true, true, true, true, true, true, true, true, false, false, false, false, false, false, false, false, false] rfl rfl (by kernel_rfl) (fun _ _ _ h => h) (Or.inl ⟨by rfl, ?_⟩) ?_ ?_
          rotate_left
          · intro w'
            go_simp
            with_reducible rfl
          rotate_left
          · simp only [Act.put, List.setIfInBounds_toArray, List.set_cons_zero, List.set_cons_succ]
            rfl
          refine pure_ (i := 18) (N := (some 136)) (v := ?_) (a' := ?_) #[true, true, true, true, true, true, true, true, true, true, true, true, true, true, true, true, true, true, true, false, false, false, false, false, false, false, false] rfl rfl (by kernel_rfl) (fun _ _ _ h => h) (Or.inl ⟨by rfl, ?_⟩) ?_ ?_
          rotate_left
          · intro w'
            go_simp
            with_reducible rfl
          rotate_left
          · simp only [Act.put, List.setIfInBounds_toArray, List.set_cons_zero, List.set_cons_succ]
            rfl
          refine pure_ (i := 19) (N := (some 137)) (v := ?_) (a' := ?_) #[true, true, true, true, true, true, true, true, true, true, true, true, true, true, true, true, true, true, true, true, false, false, false, false, false, false, false] rfl rfl (by kernel_rfl) (fun _ _ _ h => h) (Or.inl ⟨by rfl, ?_⟩) ?_ ?_
          rotate_left
          · intro w'
            go_simp
            with_reducible rfl
          rotate_left
          · simp only [Act.put, List.setIfInBounds_toArray, List.set_cons_zero, List.set_cons_succ]
            rfl
          refine pure_ (i := 21) (N := (some 139)) (v := ?_) (a' := ?_) #[true, true, true, true, true, true, true, true, true, true, true, true, true, true, true, true, true, true, true, true, false, true, false, false, false, false, false] rfl rfl (by kernel_rfl) (fun _ _ _ h => h) (Or.inl ⟨by rfl, ?_⟩) ?_ ?_
          rotate_left
          · intro w'
            go_simp
            with_reducible rfl
          rotate_left
          · simp only [Act.put, List.setIfInBounds_toArray, List.set_cons_zero, List.set_cons_succ]
            rfl
          refine pure_ (i := 22) (N := (some 140)) (v := ?_) (a' := ?_) #[true, true, true, true, true, true, true, true, true, true, true, true, true, true, true, true, true, true, true, true, false, true, true, false, false, false, false] rfl rfl (by kernel_rfl) (fun _ _ _ h => h) (Or.inl ⟨by rfl, ?_⟩) ?_ ?_
          rotate_left
          · intro w'
            go_simp
            with_reducible rfl
          rotate_left
          · simp only [Act.put, List.setIfInBounds_toArray, List.set_cons_zero, List.set_cons_succ]
            rfl
          refine pure_ (i := 23) (N := (some 141)) (v := ?_) (a' := ?_) #[true, true, true, true, true, true, true, true, true, true, true, true, true, true, true, true, true, true, true, true, false, true, true, true, false, false, false] rfl rfl (by kernel_rfl) (fun _ _ _ h => h) (Or.inl ⟨by rfl, ?_⟩) ?_ ?_
          rotate_left
          · intro w'
            go_simp
            with_reducible rfl
          rotate_left
          · simp only [Act.put, List.setIfInBounds_toArray, List.set_cons_zero, List.set_cons_succ]
            rfl
          refine take_ (i := 24) (N := (some 142)) (v := ?_) (a' := ?_) #[true, true, true, true, true, true, true, true, true, true, true, true, true, true, true, true, true, true, true, true, false, true, true, true, true, false, false] rfl rfl (by kernel_rfl) (fun _ _ _ h => h) (Or.inl ⟨by rfl, ?_⟩) hHeld ?_ ?_
          rotate_left
          · rintro w' ⟨s0, s1, s2, s3⟩
            go_simp
            with_reducible rfl
          rotate_left
          · simp only [Act.put, List.setIfInBounds_toArray, List.set_cons_zero, List.set_cons_succ]
            rfl
          refine one_ (i := 20) (N := (some 138)) #[true, true, true, true, true, true, true, true, true, true, true, true, true, true, true, true, true, true, true, true, true, true, true, true, true, false, false] rfl rfl (by kernel_rfl) (by decide) (fun K hK => ?_)
          go_simp
          refine (p_down HP10.out).mono ?_
          rintro e w11 ⟨rfl, rfl⟩
          refine hK.out _ _ HQ10.out (fun hHeld => ?_)
          clear hK K
          (try simp only [Act.put, List.setIfInBounds_toArray, List.set_cons_zero, List.set_cons_succ])
          refine pure_ (i := 25) (N := (some 143)) (v := ?_) (a' := ?_) #[true, true, true, true, true, true, true, true, true, true, true, true, true, true, true, true, true, true, true, true, true, true, true, true, true, true, false] rfl rfl (by kernel_rfl) (fun _ _ _ h => h) (Or.inl ⟨by rfl, ?_⟩) ?_ ?_
          rotate_left
          · intro w'
            go_simp
            with_reducible rfl
          rotate_left
          · simp only [Act.put, List.setIfInBounds_toArray, List.set_cons_zero, List.set_cons_succ]
            rfl
          refine pure_ (i := 26) (N := (some 144)) (v := ?_) (a' := ?_) #[true, true, true, true, true, true, true, true, true, true, true, true, true, true, true, true, true, true, true, true, true, true, true, true, true, true, true] rfl rfl (by kernel_rfl) (fun _ _ _ h => h) (Or.inl ⟨by rfl, ?_⟩) ?_ ?_
          rotate_left
          · intro w'
            go_simp
            with_reducible rfl
          rotate_left
          · simp only [Act.put, List.setIfInBounds_toArray, List.set_cons_zero, List.set_cons_succ]
            rfl
          refine done_ (by kernel_rfl) ?_
          clear hHeld
          go_wp2
          go_roundw
          case rel => exact ⟨i + 1, d', m', en', j', k', rfl, rfl, by go_num, hlt, HP10.out, HJ10.out, HK10.out, HJB2.out, HKB2.out, HMB.out⟩
          case measure => simp [intOf]; omega
      · have g18 : decide ((i : Int) < (l.length : Int)) = false := decide_eq_false (by omega)
        go_wp2
        go_ret
        exact ⟨rfl, HP.out.bel⟩
end Go.Proofs.Ytiacjbandhedhaa.Jn
