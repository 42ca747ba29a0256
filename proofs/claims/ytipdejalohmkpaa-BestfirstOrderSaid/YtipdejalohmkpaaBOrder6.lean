/- BestfirstOrder: whatever the input, the call returns true, and the input reads as it did. No conditions. -/
import Derived.Test.YtipdejalohmkpaaBOrder5
import Derived.Test.YtipdejalohmkpaaRows
import Derived.WalkKit
import Derived.ProofKit
import Derived.OpenShut
import Derived.ShutString
import Derived.ChangeOld
import Derived.Below
import Derived.SizedLaws
/- States are expanded in the order of their distances, each exactly once, and all that can be reached: the statement's function answers true. -/
namespace Go.Proofs.Ytipdejalohmkpaa.Gr
open Go.RowKit Go.Proofs.YtipdejalohmkpaaW.PrintWords Go.Proofs.YtipdejalohmkpaaW.PrintLast Go.Proofs.YtipdejalohmkpaaW.PrintMore PBestfirstDistances
variable {g : Gph} {w : World} {A0 A1 A2 : Option Addr} {c0 c1 c2 : Nat}
theorem keep {w w' : World} {a : Addr} {v : Value} (hb : Below w.heap.size w w') (h : w.cell? a = some v) : w'.cell? a = some v := (hb.cell (World.block_lt_of_cell? w _ h)).trans h
set_option maxRecDepth 1000000 in
set_option maxHeartbeats 4000000 in
theorem olaw_out (h : GAt g w A0 c0 A1 c1 A2 c2) (s : Int) (hg : g.large = true ∨ g.has s = false ∨ g.plain = false) :
    Calls Try.prog 9 #[.agg #[.slice A0 g.E.length c0, .slice A1 g.K.length c1, .slice A2 g.Gs.length c2], .int .i64 s] w fun e w' => e = .returned (.bool true) ∧ Below w.heap.size w w' := by
  have HA := Lib.hid (show Below w.heap.size w (w.alloc (.cells #[.slice A0 g.E.length c0, .slice A1 g.K.length c1, .slice A2 g.Gs.length c2] 26)) from (Below.refl _ _).alloc (Nat.le_refl _) _)
  have HGB := Lib.hid (GB.make h)
  clear h
  go_enter Try.func9, Try.ntmps9
  go_wp2_with fail
  refine (awake_any _).mono ?_
  rintro e w1 ⟨rfl, hb1⟩
  have HGB1 := Lib.hid (HGB.out.below hb1)
  have HA1 := Lib.hid (below_then HA.out HA.out.size hb1)
  obtain ⟨q0, q1, q2⟩ := HGB1.out.cells
  clear hb1 HGB
  go_wp2_with fail
  cases hl : g.large with
  | true =>
    refine (glarge_is HGB1.out.at_ true hl).mono ?_
    rintro e w2 ⟨rfl, hb2⟩
    have HA2 := Lib.hid (below_then HA1.out HA1.out.size hb2)
    clear hb2 q0 q1 q2 hg hl
    go_wp2
    go_ret
    exact ⟨rfl, HA2.out⟩
  | false =>
    refine (glarge_is HGB1.out.at_ false hl).mono ?_
    rintro e w2 ⟨rfl, hb2⟩
    have HGB2 := Lib.hid (HGB1.out.below hb2)
    have HA2 := Lib.hid (below_then HA1.out HA1.out.size hb2)
    clear hb2 q0 q1 q2
    obtain ⟨q0, q1, q2⟩ := HGB2.out.cells
    go_wp2_with fail
    cases hs : g.has s with
    | false =>
      refine (ghas_is HGB2.out.at_ s false hs).mono ?_
      rintro e w3 ⟨rfl, hb3⟩
      have HA3 := Lib.hid (below_then HA2.out HA2.out.size hb3)
      clear hb3 q0 q1 q2 hg hl hs
      go_wp2
      go_ret
      exact ⟨rfl, HA3.out⟩
    | true =>
      refine (ghas_is HGB2.out.at_ s true hs).mono ?_
      rintro e w3 ⟨rfl, hb3⟩
      have HGB3 := Lib.hid (HGB2.out.below hb3)
      have HA3 := Lib.hid (below_then HA2.out HA2.out.size hb3)
      clear hb3 q0 q1 q2
      obtain ⟨q0, q1, q2⟩ := HGB3.out.cells
      have hpl : g.plain = false := by rw [hl, hs] at hg; simpa using hg
      clear hg hl hs
      go_wp2_with fail
      refine (gplain_is HGB3.out.at_ false hpl).mono ?_
      rintro e w5 ⟨rfl, hb5⟩
      have HA5 := Lib.hid (below_then HA3.out HA3.out.size hb5)
      clear hb5 q0 q1 q2 hpl
      go_wp2
      go_ret
      exact ⟨rfl, HA5.out⟩

/-- What the list says at place i. -/
def Ord (g : Gph) (D o : List Int) : Prop := ∀ i : Nat, i < o.length → g.has (rd o i) = true ∧ rd o i ∉ o.take i ∧ rd D (rd o i) < 1099511627777 ∧ (0 < i → g.has (rd o ((i : Int) - 1)) = true ∧ rd D (rd o ((i : Int) - 1)) ≤ rd D (rd o i)) ∧ o.take (i + 1) = o.take i ++ [rd o i]
theorem rd_nat (o : List Int) (i : Nat) (h : i < o.length) : rd o (i : Int) = o[i] := by simp [rd, h]
theorem ord_of {D o : List Int} (h1 : o.Nodup) (h2 : ∀ s ∈ o, g.has s = true) (h3 : ∀ t, g.has t = true → (rd D t < 1099511627777 ↔ t ∈ o)) (h4 : o.Pairwise fun a b => rd D a ≤ rd D b) : Ord g D o := by
  intro i hi
  rw [rd_nat o i hi]
  have hm : o[i] ∈ o := List.getElem_mem hi
  refine ⟨h2 _ hm, fun hin => ?_, (h3 _ (h2 _ hm)).2 hm, fun h0 => ?_, List.take_succ_eq_append_getElem hi⟩
  · obtain ⟨j, hj, hje⟩ := List.getElem_of_mem hin
    rw [List.length_take] at hj
    rw [List.getElem_take] at hje
    exact List.pairwise_iff_getElem.1 h1 j i (by omega) hi (by omega) hje
  · have e : ((i : Int) - 1) = ((i - 1 : Nat) : Int) := by omega
    rw [e, rd_nat o (i - 1) (by omega)]
    exact ⟨h2 _ (List.getElem_mem _), List.pairwise_iff_getElem.1 h4 (i - 1) i (by omega) hi (by omega)⟩
def OkRel (g : Gph) (o : List Int) (W9 : World) (n go co i : Nat) (wr : World) : Prop :=
  ∃ sl : List Bool, (∀ t : Int, g.has t = true → rdOf false sl t = decide (t ∈ o.take i)) ∧ Kd.bool.R 4 wr W9.heap.size (fun _ => True) (.slice (some ⟨go, 0, none⟩) n co) sl ∧ Below W9.heap.size W9 wr
theorem rdOf_set {sl : List Bool} {x t : Int} (h0 : 0 ≤ x) (h1 : x < (sl.length : Int)) (t0 : 0 ≤ t) : rdOf false (sl.set x.toNat true) t = if t = x then true else rdOf false sl t := by
  unfold rdOf
  rw [List.getD_eq_getElem?_getD, List.getD_eq_getElem?_getD]
  by_cases e : t = x
  · subst e
    rw [if_pos rfl, List.getElem?_set_self (by omega)]
    rfl
  · rw [if_neg e, List.getElem?_set_ne (by omega)]
theorem mark {sl : List Bool} {o : List Int} {i : Nat} {x : Int} (hlen : sl.length = g.E.length) (hx : g.has x = true) (hm : ∀ t : Int, g.has t = true → rdOf false sl t = decide (t ∈ o.take i)) (ht : o.take (i + 1) = o.take i ++ [x]) :
    ∀ t : Int, g.has t = true → rdOf false (sl.set x.toNat true) t = decide (t ∈ o.take (i + 1)) := by
  intro t h
  have hi := has_iff.1 hx
  rw [rdOf_set hi.1 (by rw [hlen]; exact hi.2) (has_iff.1 h).1, ht]
  split
  · rename_i e; subst e; simp
  · rename_i e
    rw [hm t h]
    simp [e]

theorem init_marks (g : Gph) (D o : List Int) : ∀ t : Int, g.has t = true → rdOf false (List.replicate D.length false) t = decide (t ∈ o.take 0) := by
  intro t _
  unfold rdOf
  rw [List.getD_eq_getElem?_getD, List.getElem?_replicate]
  split <;> simp

set_option maxRecDepth 1000000 in
set_option maxHeartbeats 8000000 in
theorem olaw_in (h : GAt g w A0 c0 A1 c1 A2 c2) (s : Int) (hl : g.large = false) (hs : g.has s = true) (hp : g.plain = true) :
    Calls Try.prog 9 #[.agg #[.slice A0 g.E.length c0, .slice A1 g.K.length c1, .slice A2 g.Gs.length c2], .int .i64 s] w fun e w' => e = .returned (.bool true) ∧ Below w.heap.size w w' := by
  have HA := Lib.hid (show Below w.heap.size w (w.alloc (.cells #[.slice A0 g.E.length c0, .slice A1 g.K.length c1, .slice A2 g.Gs.length c2] 26)) from (Below.refl _ _).alloc (Nat.le_refl _) _)
  have HGB := Lib.hid (GB.make h)
  clear h
  obtain ⟨o, hr, o1, o2, o3, o4⟩ := order_pure hl hp hs
  have HORD := Lib.hid (ord_of o1 o2 o3 o4)
  have HALL := Lib.hid o3
  have HOL := Lib.hid (show o.length ≤ 12 by
    have := List.Nodup.length_le_of_subset o1 (fun s h => mem_dom.2 (o2 s h))
    have := dom_len g hl
    omega)
  clear o1 o2 o3 o4
  have HR := Lib.hid hr
  have HL := Lib.hid hl
  have HS := Lib.hid hs
  have HP := Lib.hid hp
  have HLE := Lib.hid (dists_spec hs).1.len
  have HN := Lib.hid (has_iff.1 hs)
  have HN12 := Lib.hid (len12 hl)
  clear hr hl hs hp
  go_enter Try.func9, Try.ntmps9
  go_wp2_with fail
  refine (awake_any _).mono ?_
  rintro en w1 ⟨rfl, hb1⟩
  have HGB1 := Lib.hid (HGB.out.below hb1)
  have HA1 := Lib.hid (below_then HA.out HA.out.size hb1)
  obtain ⟨q0, q1, q2⟩ := HGB1.out.cells
  clear hb1 HGB
  go_wp2_with fail
  refine (glarge_is HGB1.out.at_ false HL.out).mono ?_
  rintro en w2 ⟨rfl, hb2⟩
  have HGB2 := Lib.hid (HGB1.out.below hb2)
  have HA2 := Lib.hid (below_then HA1.out HA1.out.size hb2)
  clear hb2 q0 q1 q2
  obtain ⟨q0, q1, q2⟩ := HGB2.out.cells
  go_wp2_with fail
  refine (ghas_is HGB2.out.at_ s true HS.out).mono ?_
  rintro en w3 ⟨rfl, hb3⟩
  have HGB3 := Lib.hid (HGB2.out.below hb3)
  have HA3 := Lib.hid (below_then HA2.out HA2.out.size hb3)
  clear hb3 q0 q1 q2
  obtain ⟨q0, q1, q2⟩ := HGB3.out.cells
  go_wp2_with fail
  refine (gplain_is HGB3.out.at_ true HP.out).mono ?_
  rintro en w4 ⟨rfl, hb4⟩
  have HGB4 := Lib.hid (HGB3.out.below hb4)
  have HA4 := Lib.hid (below_then HA3.out HA3.out.size hb4)
  clear hb4 q0 q1 q2
  obtain ⟨q0, q1, q2⟩ := HGB4.out.cells
  go_wp2_with fail
  refine (lreach_is HGB4.out.at_ HL.out s HS.out 100 o 0 HR.out).mono ?_
  rintro en w5 ⟨v1, rfl, hv1, hb5⟩
  obtain ⟨B1, d1, rfl, m1, g1⟩ := Kd.R_reads hv1
  have HGB5 := Lib.hid (HGB4.out.below hb5)
  have HA5 := Lib.hid (below_then HA4.out HA4.out.size hb5)
  have HV1 := Lib.hid g1
  clear hb5 q0 q1 q2 hv1 g1
  obtain ⟨q0, q1, q2⟩ := HGB5.out.cells
  go_wp2_with fail
  refine (ldists_is HGB5.out.at_ HL.out s HS.out).mono ?_
  rintro en w6 ⟨B2, d2, rfl, m2, g2, hb6⟩
  have HGB6 := Lib.hid (HGB5.out.below hb6)
  have HA6 := Lib.hid (below_then HA5.out HA5.out.size hb6)
  have HV2 := Lib.hid g2
  have HV1b := Lib.hid (Kd.C_below HV1.out hb6)
  clear hb6 q0 q1 q2 g2 HV1
  generalize hD : dists g s = D at *
  clear hD
  have hn0 : 0 ≤ (D.length : Int) := by omega
  have hn1 : (D.length : Int).toNat ≤ 35184372088832 := by have := HLE.out; have := HN12.out; omega
  go_wp2_with (first | ((with_reducible refine gate_dst (N := 40) rfl ?_); refine Kd.R_make Kd.bool _ 4 rfl (N := 40) rfl 55 _ _ rfl (D.length : Int) rfl rfl Try.underlying55 (.bool false) 1 (by kernel_rfl) rfl (by decide) (by omega) false (ok := fun _ => True) (okp := fun _ => True) rfl (fun _ hk => hk) trivial hn0 (Nat.le_trans (Nat.mul_le_mul_right _ hn1) (by omega)) (Below.refl _ _) (Nat.le_refl _) ?_; intro v7 w7 ho7 hb7 hg7 hnew7; clear hg7 hnew7; obtain ⟨go, co, rfl, hgo, hgl, hgc⟩ := Kd.R_form ho7 (by have := HLE.out; have := HN.out; simp; omega); simp only [List.length_replicate, Int.toNat_natCast] at ho7 ⊢; have HO7 := Lib.hid ho7; have HB7 := Lib.hid hb7; have HGO := Lib.hid hgo; clear hgl hgc ho7 hb7 hgo))
  have hinit : OkRel g o w6 D.length go co 0 w7 := ⟨_, init_marks g D o, HO7.out, HB7.out⟩
  have HI := Lib.hid hinit
  clear hinit
  go_loopw [43] (fun v43 wr => ∃ i : Nat, i ≤ o.length ∧ v43 = .int .i64 i ∧ OkRel g o w6 D.length go co i wr) (fun v43 _ => o.length - (intOf v43).toNat)
  case atStart => exact ⟨0, Nat.zero_le _, rfl, HI.out⟩
  case round =>
    obtain ⟨i, hi, rfl, sl, hsl, hR, hB⟩ := hrel
    have HR2 := Lib.hid hR
    have HBr := Lib.hid hB
    have HSL := Lib.hid hsl
    clear hR hB hsl HI HO7 HB7
    have HSLN := Lib.hid ((Kd.R_reads' HR2.out).1.symm.trans HLE.out)
    by_cases hlt : i < o.length
    · obtain ⟨hx, hnin, hfar, hprev, htk⟩ := HORD.out i hlt
      have hm1 := HV1b.out.2.1
      have hii0 : 0 ≤ (i : Int) := by omega
      have hii1 : (i : Int) < (o.length : Int) := by omega
      obtain ⟨ad1, rfl, hc1⟩ := Kd.at_int HV1b.out (i : Int) hii0 hii1
      replace hc1 := keep HBr.out hc1
      rw [Int.toNat_natCast] at hc1
      obtain ⟨x, ex⟩ : ∃ x, rd o (i : Int) = x := ⟨_, rfl⟩
      rw [ex] at hx hnin hfar hprev htk hc1
      clear ex
      have hxi := has_iff.1 hx
      have hx0' : 0 ≤ x := hxi.1
      have hxd' : x < (D.length : Int) := by rw [HLE.out]; exact hxi.2
      obtain ⟨ad2, rfl, hc2⟩ := Kd.at_int HV2.out x hx0' hxd'
      replace hc2 := keep HBr.out hc2
      obtain ⟨q, eq⟩ : ∃ q, rd D x = q := ⟨_, rfl⟩
      rw [eq] at hfar hprev hc2
      clear eq
      obtain ⟨hs1, hs2⟩ := Kd.R_celln false HR2.out x hx0' hxd'
      rw [HSL.out x hx, decide_eq_false hnin] at hs1
      have hqf : (q == 1099511627777) = false := by rw [beq_eq_false_iff_ne]; omega
      have hx0 := eq_true hx0'
      have hxd := eq_true hxd'
      replace hii0 := eq_true hii0
      replace hii1 := eq_true hii1
      have HX := Lib.hid hx
      have HTK := Lib.hid htk
      have HGBw := Lib.hid (HGB6.out.below HBr.out)
      obtain ⟨q0, q1, q2⟩ := HGBw.out.cells
      have HPR := Lib.hid hprev
      clear hx hnin hfar htk hxi hprev
      by_cases hz : i = 0
      · have hgt : decide (0 < (i : Int)) = false := decide_eq_false (by omega)
        have hgt' : decide (0 < i) = false := decide_eq_false (by omega)
        clear hz HPR
        go_wp2
        refine start_ (n := 36) (S := fun w' => w'.cell? ⟨w.heap.size, 0, none⟩ = some (.slice A0 g.E.length c0) ∧ w'.cell? ⟨w.heap.size, 1, none⟩ = some (.slice A1 g.K.length c1) ∧ w'.cell? ⟨w.heap.size, 2, none⟩ = some (.slice A2 g.Gs.length c2) ∧ w'.cell? ⟨go, x.toNat, none⟩ = some (.bool false) ∧ w'.cell? (ad2.add x.toNat) = some (.int .i64 q)) (ds := []) #[false, false, false, false, false, false, false, false, false, false, false, false, false, false, false, false, false, false, false, false, false, false, false, false, false, false, false, false, false, false, false, false, false, false, false, false] (by kernel_rfl) rfl rfl ⟨q0, q1, q2, hs1, hc2⟩ (fun hHeld => ?_)
        have HGBr := Lib.hid (HGBw.out.below (Below.drew (Below.refl _ _)))
        have HBd := Lib.hid (Below.drew HBr.out)
        have HRd := Lib.hid (Kd.R_drew HR2.out)
        clear q0 q1 q2 hs1 hs2 hc2 HGBw
        generalize wr.drew = w10 at HGBr HBd HRd hHeld ⊢
        refine take_ (i := 0) (N := (some 48)) (v := ?_) (a' := ?_) #[true, false, false, false, false, false, false, false, false, false, false, false, false, false, false, false, false, false, false, false, false, false, false, false, false, false, false, false, false, false, false, false, false, false, false, false] rfl rfl (by kernel_rfl) (fun _ _ _ h => h) (Or.inl ⟨by rfl, ?_⟩) hHeld ?_ ?_
        rotate_left
        · rintro w' ⟨s0, s1, s2, s3, s4⟩
          go_simp
          with_reducible rfl
        rotate_left
        · simp only [Act.put, List.setIfInBounds_toArray, List.set_cons_zero, List.set_cons_succ]
          rfl
        refine pure_ (i := 1) (N := (some 49)) (v := ?_) (a' := ?_) #[true, true, false, false, false, false, false, false, false, false, false, false, false, false, false, false, false, false, false, false, false, false, false, false, false, false, false, false, false, false, false, false, false, false, false, false] rfl rfl (by kernel_rfl) (fun _ _ _ h => h) (Or.inl ⟨by rfl, ?_⟩) ?_ ?_
        rotate_left
        · intro w'
          go_simp
          with_reducible rfl
        rotate_left
        · simp only [Act.put, List.setIfInBounds_toArray, List.set_cons_zero, List.set_cons_succ]
          rfl
        refine one_ (i := 2) (N := (some 50)) #[true, true, true, false, false, false, false, false, false, false, false, false, false, false, false, false, false, false, false, false, false, false, false, false, false, false, false, false, false, false, false, false, false, false, false, false] rfl rfl (by kernel_rfl) (by decide) (fun K hK => ?_)
        go_simp
        refine (ghas_is HGBr.out.at_ x true HX.out).mono ?_
        rintro en w11 ⟨rfl, hb11⟩
        have HB11 := Lib.hid hb11
        have HBs := Lib.hid (below_then HBd.out HBd.out.size hb11)
        clear hb11
        refine hK.out _ _ ⟨keep HB11.out hHeld.1, keep HB11.out hHeld.2.1, keep HB11.out hHeld.2.2.1, keep HB11.out hHeld.2.2.2.1, keep HB11.out hHeld.2.2.2.2⟩ (fun hHeld => ?_)
        clear hK K
        refine pure_ (i := 3) (N := (some 51)) (v := ?_) (a' := ?_) #[true, true, true, true, false, false, false, false, false, false, false, false, false, false, false, false, false, false, false, false, false, false, false, false, false, false, false, false, false, false, false, false, false, false, false, false] rfl rfl (by kernel_rfl) (fun _ _ _ h => h) (Or.inl ⟨by rfl, ?_⟩) ?_ ?_
        rotate_left
        · intro w'
          go_simp
          with_reducible rfl
        rotate_left
        · simp only [Act.put, List.setIfInBounds_toArray, List.set_cons_zero, List.set_cons_succ]
          rfl
        refine pure_ (i := 4) (N := (some 52)) (v := ?_) (a' := ?_) #[true, true, true, true, true, false, false, false, false, false, false, false, false, false, false, false, false, false, false, false, false, false, false, false, false, false, false, false, false, false, false, false, false, false, false, false] rfl rfl (by kernel_rfl) (fun _ _ _ h => h) (Or.inl ⟨by rfl, ?_⟩) ?_ ?_
        rotate_left
        · intro w'
          go_simp
          with_reducible rfl
        rotate_left
        · simp only [Act.put, List.setIfInBounds_toArray, List.set_cons_zero, List.set_cons_succ]
          rfl
        refine pure_ (i := 5) (N := (some 53)) (v := ?_) (a' := ?_) #[true, true, true, true, true, true, false, false, false, false, false, false, false, false, false, false, false, false, false, false, false, false, false, false, false, false, false, false, false, false, false, false, false, false, false, false] rfl rfl (by kernel_rfl) (fun _ _ _ h => h) (Or.inl ⟨by rfl, ?_⟩) ?_ ?_
        rotate_left
        · intro w'
          go_simp
          with_reducible rfl
        rotate_left
        · simp only [Act.put, List.setIfInBounds_toArray, List.set_cons_zero, List.set_cons_succ]
          rfl
        refine pure_ (i := 6) (N := (some 54)) (v := ?_) (a' := ?_) #[true, true, true, true, true, true, true, false, false, false, false, false, false, false, false, false, false, false, false, false, false, false, false, false, false, false, false, false, false, false, false, false, false, false, false, false] rfl rfl (by kernel_rfl) (fun _ _ _ h => h) (Or.inl ⟨by rfl, ?_⟩) ?_ ?_
        rotate_left
        · intro w'
          go_simp
          with_reducible rfl
        rotate_left
        · simp only [Act.put, List.setIfInBounds_toArray, List.set_cons_zero, List.set_cons_succ]
          rfl
        refine pure_ (i := 7) (N := (some 55)) (v := ?_) (a' := ?_) #[true, true, true, true, true, true, true, true, false, false, false, false, false, false, false, false, false, false, false, false, false, false, false, false, false, false, false, false, false, false, false, false, false, false, false, false] rfl rfl (by kernel_rfl) (fun _ _ _ h => h) (Or.inl ⟨by rfl, ?_⟩) ?_ ?_
        rotate_left
        · intro w'
          go_simp
          with_reducible rfl
        rotate_left
        · simp only [Act.put, List.setIfInBounds_toArray, List.set_cons_zero, List.set_cons_succ]
          rfl
        refine take_ (i := 8) (N := (some 56)) (v := ?_) (a' := ?_) #[true, true, true, true, true, true, true, true, true, false, false, false, false, false, false, false, false, false, false, false, false, false, false, false, false, false, false, false, false, false, false, false, false, false, false, false] rfl rfl (by kernel_rfl) (fun _ _ _ h => h) (Or.inl ⟨by rfl, ?_⟩) hHeld ?_ ?_
        rotate_left
        · rintro w' ⟨s0, s1, s2, s3, s4⟩
          go_simp
          with_reducible rfl
        rotate_left
        · simp only [Act.put, List.setIfInBounds_toArray, List.set_cons_zero, List.set_cons_succ]
          rfl
        refine pure_ (i := 9) (N := (some 57)) (v := ?_) (a' := ?_) #[true, true, true, true, true, true, true, true, true, true, false, false, false, false, false, false, false, false, false, false, false, false, false, false, false, false, false, false, false, false, false, false, false, false, false, false] rfl rfl (by kernel_rfl) (fun _ _ _ h => h) (Or.inl ⟨by rfl, ?_⟩) ?_ ?_
        rotate_left
        · intro w'
          go_simp
          with_reducible rfl
        rotate_left
        · simp only [Act.put, List.setIfInBounds_toArray, List.set_cons_zero, List.set_cons_succ]
          rfl
        refine pure_ (i := 10) (N := (some 58)) (v := ?_) (a' := ?_) #[true, true, true, true, true, true, true, true, true, true, true, false, false, false, false, false, false, false, false, false, false, false, false, false, false, false, false, false, false, false, false, false, false, false, false, false] rfl rfl (by kernel_rfl) (fun _ _ _ h => h) (Or.inl ⟨by rfl, ?_⟩) ?_ ?_
        rotate_left
        · intro w'
          go_simp
          with_reducible rfl
        rotate_left
        · simp only [Act.put, List.setIfInBounds_toArray, List.set_cons_zero, List.set_cons_succ]
          rfl
        refine pure_ (i := 11) (N := (some 59)) (v := ?_) (a' := ?_) #[true, true, true, true, true, true, true, true, true, true, true, true, false, false, false, false, false, false, false, false, false, false, false, false, false, false, false, false, false, false, false, false, false, false, false, false] rfl rfl (by kernel_rfl) (fun _ _ _ h => h) (Or.inl ⟨by rfl, ?_⟩) ?_ ?_
        rotate_left
        · intro w'
          go_simp
          with_reducible rfl
        rotate_left
        · simp only [Act.put, List.setIfInBounds_toArray, List.set_cons_zero, List.set_cons_succ]
          rfl
        refine pure_ (i := 12) (N := (some 60)) (v := ?_) (a' := ?_) #[true, true, true, true, true, true, true, true, true, true, true, true, true, false, false, false, false, false, false, false, false, false, false, false, false, false, false, false, false, false, false, false, false, false, false, false] rfl rfl (by kernel_rfl) (fun _ _ _ h => h) (Or.inl ⟨by rfl, ?_⟩) ?_ ?_
        rotate_left
        · intro w'
          go_simp
          with_reducible rfl
        rotate_left
        · simp only [Act.put, List.setIfInBounds_toArray, List.set_cons_zero, List.set_cons_succ]
          rfl
        refine pure_ (i := 13) (N := (some 61)) (v := ?_) (a' := ?_) #[true, true, true, true, true, true, true, true, true, true, true, true, true, true, false, false, false, false, false, false, false, false, false, false, false, false, false, false, false, false, false, false, false, false, false, false] rfl rfl (by kernel_rfl) (fun _ _ _ h => h) (Or.inl ⟨by rfl, ?_⟩) ?_ ?_
        rotate_left
        · intro w'
          go_simp
          with_reducible rfl
        rotate_left
        · simp only [Act.put, List.setIfInBounds_toArray, List.set_cons_zero, List.set_cons_succ]
          rfl
        refine take_ (i := 14) (N := (some 62)) (v := ?_) (a' := ?_) #[true, true, true, true, true, true, true, true, true, true, true, true, true, true, true, false, false, false, false, false, false, false, false, false, false, false, false, false, false, false, false, false, false, false, false, false] rfl rfl (by kernel_rfl) (fun _ _ _ h => h) (Or.inl ⟨by rfl, ?_⟩) hHeld ?_ ?_
        rotate_left
        · rintro w' ⟨s0, s1, s2, s3, s4⟩
          go_simp
          with_reducible rfl
        rotate_left
        · simp only [Act.put, List.setIfInBounds_toArray, List.set_cons_zero, List.set_cons_succ]
          rfl
        refine pure_ (i := 15) (N := (some 63)) (v := ?_) (a' := ?_) #[true, true, true, true, true, true, true, true, true, true, true, true, true, true, true, true, false, false, false, false, false, false, false, false, false, false, false, false, false, false, false, false, false, false, false, false] rfl rfl (by kernel_rfl) (fun _ _ _ h => h) (Or.inl ⟨by rfl, ?_⟩) ?_ ?_
        rotate_left
        · intro w'
          go_simp
          with_reducible rfl
        rotate_left
        · simp only [Act.put, List.setIfInBounds_toArray, List.set_cons_zero, List.set_cons_succ]
          rfl
        refine pure_ (i := 16) (N := (some 64)) (v := ?_) (a' := ?_) #[true, true, true, true, true, true, true, true, true, true, true, true, true, true, true, true, true, false, false, false, false, false, false, false, false, false, false, false, false, false, false, false, false, false, false, false] rfl rfl (by kernel_rfl) (fun _ _ _ h => h) (Or.inl ⟨by rfl, ?_⟩) ?_ ?_
        rotate_left
        · intro w'
          go_simp
          with_reducible rfl
        rotate_left
        · simp only [Act.put, List.setIfInBounds_toArray, List.set_cons_zero, List.set_cons_succ]
          rfl
        refine pure_ (i := 17) (N := (some 65)) (v := ?_) (a' := ?_) #[true, true, true, true, true, true, true, true, true, true, true, true, true, true, true, true, true, true, false, false, false, false, false, false, false, false, false, false, false, false, false, false, false, false, false, false] rfl rfl (by kernel_rfl) (fun _ _ _ h => h) (Or.inl ⟨by rfl, ?_⟩) ?_ ?_
        rotate_left
        · intro w'
          go_simp
          with_reducible rfl
        rotate_left
        · simp only [Act.put, List.setIfInBounds_toArray, List.set_cons_zero, List.set_cons_succ]
          rfl
        refine pure_ (i := 18) (N := (some 66)) (v := ?_) (a' := ?_) #[true, true, true, true, true, true, true, true, true, true, true, true, true, true, true, true, true, true, true, false, false, false, false, false, false, false, false, false, false, false, false, false, false, false, false, false] rfl rfl (by kernel_rfl) (fun _ _ _ h => h) (Or.inl ⟨by rfl, ?_⟩) ?_ ?_
        rotate_left
        · intro w'
          go_simp
          with_reducible rfl
        rotate_left
        · simp only [Act.put, List.setIfInBounds_toArray, List.set_cons_zero, List.set_cons_succ]
          rfl
        refine pure_ (i := 19) (N := (some 67)) (v := ?_) (a' := ?_) #[true, true, true, true, true, true, true, true, true, true, true, true, true, true, true, true, true, true, true, true, false, false, false, false, false, false, false, false, false, false, false, false, false, false, false, false] rfl rfl (by kernel_rfl) (fun _ _ _ h => h) (Or.inl ⟨by rfl, ?_⟩) ?_ ?_
        rotate_left
        · intro w'
          go_simp
          with_reducible rfl
        rotate_left
        · simp only [Act.put, List.setIfInBounds_toArray, List.set_cons_zero, List.set_cons_succ]
          rfl
        refine pure_ (i := 20) (N := (some 68)) (v := ?_) (a' := ?_) #[true, true, true, true, true, true, true, true, true, true, true, true, true, true, true, true, true, true, true, true, true, false, false, false, false, false, false, false, false, false, false, false, false, false, false, false] rfl rfl (by kernel_rfl) (fun _ _ _ h => h) (Or.inl ⟨by rfl, ?_⟩) ?_ ?_
        rotate_left
        · intro w'
          go_simp
          with_reducible rfl
        rotate_left
        · simp only [Act.put, List.setIfInBounds_toArray, List.set_cons_zero, List.set_cons_succ]
          rfl
        refine pure_ (i := 21) (N := (some 69)) (v := undef) (a' := ?_) #[true, true, true, true, true, true, true, true, true, true, true, true, true, true, true, true, true, true, true, true, true, true, false, false, false, false, false, false, false, false, false, false, false, false, false, false] rfl rfl (by kernel_rfl) (fun _ _ _ h => h) (Or.inr ⟨by rfl, rfl⟩) ?_ ?_
        rotate_left
        · simp only [Act.put, List.setIfInBounds_toArray, List.set_cons_zero, List.set_cons_succ]
          rfl
        refine pure_ (i := 22) (N := (some 70)) (v := undef) (a' := ?_) #[true, true, true, true, true, true, true, true, true, true, true, true, true, true, true, true, true, true, true, true, true, true, true, false, false, false, false, false, false, false, false, false, false, false, false, false] rfl rfl (by kernel_rfl) (fun _ _ _ h => h) (Or.inr ⟨by rfl, rfl⟩) ?_ ?_
        rotate_left
        · simp only [Act.put, List.setIfInBounds_toArray, List.set_cons_zero, List.set_cons_succ]
          rfl
        refine pure_ (i := 23) (N := (some 71)) (v := undef) (a' := ?_) #[true, true, true, true, true, true, true, true, true, true, true, true, true, true, true, true, true, true, true, true, true, true, true, true, false, false, false, false, false, false, false, false, false, false, false, false] rfl rfl (by kernel_rfl) (fun _ _ _ h => h) (Or.inr ⟨by rfl, rfl⟩) ?_ ?_
        rotate_left
        · simp only [Act.put, List.setIfInBounds_toArray, List.set_cons_zero, List.set_cons_succ]
          rfl
        refine pure_ (i := 24) (N := (some 72)) (v := undef) (a' := ?_) #[true, true, true, true, true, true, true, true, true, true, true, true, true, true, true, true, true, true, true, true, true, true, true, true, true, false, false, false, false, false, false, false, false, false, false, false] rfl rfl (by kernel_rfl) (fun _ _ _ h => h) (Or.inr ⟨by rfl, rfl⟩) ?_ ?_
        rotate_left
        · simp only [Act.put, List.setIfInBounds_toArray, List.set_cons_zero, List.set_cons_succ]
          rfl
        refine pure_ (i := 25) (N := (some 73)) (v := undef) (a' := ?_) #[true, true, true, true, true, true, true, true, true, true, true, true, true, true, true, true, true, true, true, true, true, true, true, true, true, true, false, false, false, false, false, false, false, false, false, false] rfl rfl (by kernel_rfl) (fun _ _ _ h => h) (Or.inr ⟨by rfl, rfl⟩) ?_ ?_
        rotate_left
        · simp only [Act.put, List.setIfInBounds_toArray, List.set_cons_zero, List.set_cons_succ]
          rfl
        refine pure_ (i := 26) (N := (some 74)) (v := undef) (a' := ?_) #[true, true, true, true, true, true, true, true, true, true, true, true, true, true, true, true, true, true, true, true, true, true, true, true, true, true, true, false, false, false, false, false, false, false, false, false] rfl rfl (by kernel_rfl) (fun _ _ _ h => h) (Or.inr ⟨by rfl, rfl⟩) ?_ ?_
        rotate_left
        · simp only [Act.put, List.setIfInBounds_toArray, List.set_cons_zero, List.set_cons_succ]
          rfl
        refine pure_ (i := 27) (N := (some 75)) (v := undef) (a' := ?_) #[true, true, true, true, true, true, true, true, true, true, true, true, true, true, true, true, true, true, true, true, true, true, true, true, true, true, true, true, false, false, false, false, false, false, false, false] rfl rfl (by kernel_rfl) (fun _ _ _ h => h) (Or.inr ⟨by rfl, rfl⟩) ?_ ?_
        rotate_left
        · simp only [Act.put, List.setIfInBounds_toArray, List.set_cons_zero, List.set_cons_succ]
          rfl
        refine pure_ (i := 28) (N := (some 76)) (v := undef) (a' := ?_) #[true, true, true, true, true, true, true, true, true, true, true, true, true, true, true, true, true, true, true, true, true, true, true, true, true, true, true, true, true, false, false, false, false, false, false, false] rfl rfl (by kernel_rfl) (fun _ _ _ h => h) (Or.inr ⟨by rfl, rfl⟩) ?_ ?_
        rotate_left
        · simp only [Act.put, List.setIfInBounds_toArray, List.set_cons_zero, List.set_cons_succ]
          rfl
        refine pure_ (i := 29) (N := (some 77)) (v := undef) (a' := ?_) #[true, true, true, true, true, true, true, true, true, true, true, true, true, true, true, true, true, true, true, true, true, true, true, true, true, true, true, true, true, true, false, false, false, false, false, false] rfl rfl (by kernel_rfl) (fun _ _ _ h => h) (Or.inr ⟨by rfl, rfl⟩) ?_ ?_
        rotate_left
        · simp only [Act.put, List.setIfInBounds_toArray, List.set_cons_zero, List.set_cons_succ]
          rfl
        refine pure_ (i := 30) (N := (some 78)) (v := undef) (a' := ?_) #[true, true, true, true, true, true, true, true, true, true, true, true, true, true, true, true, true, true, true, true, true, true, true, true, true, true, true, true, true, true, true, false, false, false, false, false] rfl rfl (by kernel_rfl) (fun _ _ _ h => h) (Or.inr ⟨by rfl, rfl⟩) ?_ ?_
        rotate_left
        · simp only [Act.put, List.setIfInBounds_toArray, List.set_cons_zero, List.set_cons_succ]
          rfl
        refine pure_ (i := 31) (N := (some 79)) (v := undef) (a' := ?_) #[true, true, true, true, true, true, true, true, true, true, true, true, true, true, true, true, true, true, true, true, true, true, true, true, true, true, true, true, true, true, true, true, false, false, false, false] rfl rfl (by kernel_rfl) (fun _ _ _ h => h) (Or.inr ⟨by rfl, rfl⟩) ?_ ?_
        rotate_left
        · simp only [Act.put, List.setIfInBounds_toArray, List.set_cons_zero, List.set_cons_succ]
          rfl
        refine pure_ (i := 32) (N := (some 80)) (v := undef) (a' := ?_) #[true, true, true, true, true, true, true, true, true, true, true, true, true, true, true, true, true, true, true, true, true, true, true, true, true, true, true, true, true, true, true, true, true, false, false, false] rfl rfl (by kernel_rfl) (fun _ _ _ h => h) (Or.inr ⟨by rfl, rfl⟩) ?_ ?_
        rotate_left
        · simp only [Act.put, List.setIfInBounds_toArray, List.set_cons_zero, List.set_cons_succ]
          rfl
        refine pure_ (i := 33) (N := (some 81)) (v := undef) (a' := ?_) #[true, true, true, true, true, true, true, true, true, true, true, true, true, true, true, true, true, true, true, true, true, true, true, true, true, true, true, true, true, true, true, true, true, true, false, false] rfl rfl (by kernel_rfl) (fun _ _ _ h => h) (Or.inr ⟨by rfl, rfl⟩) ?_ ?_
        rotate_left
        · simp only [Act.put, List.setIfInBounds_toArray, List.set_cons_zero, List.set_cons_succ]
          rfl
        refine pure_ (i := 34) (N := (some 82)) (v := ?_) (a' := ?_) #[true, true, true, true, true, true, true, true, true, true, true, true, true, true, true, true, true, true, true, true, true, true, true, true, true, true, true, true, true, true, true, true, true, true, true, false] rfl rfl (by kernel_rfl) (fun _ _ _ h => h) (Or.inl ⟨by rfl, ?_⟩) ?_ ?_
        rotate_left
        · intro w'
          go_simp
          with_reducible rfl
        rotate_left
        · simp only [Act.put, List.setIfInBounds_toArray, List.set_cons_zero, List.set_cons_succ]
          rfl
        refine pure_ (i := 35) (N := (some 83)) (v := ?_) (a' := ?_) #[true, true, true, true, true, true, true, true, true, true, true, true, true, true, true, true, true, true, true, true, true, true, true, true, true, true, true, true, true, true, true, true, true, true, true, true] rfl rfl (by kernel_rfl) (fun _ _ _ h => h) (Or.inl ⟨by rfl, ?_⟩) ?_ ?_
        rotate_left
        · intro w'
          go_simp
          with_reducible rfl
        rotate_left
        · simp only [Act.put, List.setIfInBounds_toArray, List.set_cons_zero, List.set_cons_succ]
          rfl
        refine done_ (by kernel_rfl) ?_
        have HR11 := Lib.hid (Kd.R_below HRd.out HB11.out)
        obtain ⟨hs1, hs2⟩ := Kd.R_celln false HR11.out x hx0' hxd'
        go_wp2_with (first | ((with_reducible refine gate_store (t := 4) (p := 86) rfl ?_); refine store_event (t := 4) (p := 86) (v := ?vo) (w1 := (w11.setCell ⟨go, x.toNat, none⟩ (.bool true))) ?hg ?ho ?hn ?hr ?_; (case ho => rfl); (case hg => rfl); (case hn => rfl); (case hr => first | (go_simp; done) | (go_simp; rfl)); intro w12 hw12; have HW12 := Lib.hid hw12; clear hw12))
        go_roundw
        case rel => exact ⟨i + 1, by omega, by go_num, sl.set x.toNat true, mark HSLN.out HX.out HSL.out HTK.out, by rw [HW12.out]; exact (Kd.R_putg HR11.out x true).1, by rw [HW12.out]; exact below_set HBs.out HGO.out⟩
        case measure => simp [intOf]; omega
      · have hgt : decide (0 < (i : Int)) = true := decide_eq_true (by omega)
        have hgt' : decide (0 < i) = true := decide_eq_true (by omega)
        obtain ⟨hy, hle⟩ := HPR.out (by omega)
        have HZ := Lib.hid hz
        clear hz
        have hwj : IntKind.i64.wrap ((i : Int) - 1) = (i : Int) - 1 := by rw [i64_w]; exact w64 (by have := HZ.out; omega) (by have := HOL.out; omega)
        have hj0 : 0 ≤ IntKind.i64.wrap ((i : Int) - 1) := by rw [hwj]; have := HZ.out; omega
        have hj1 : IntKind.i64.wrap ((i : Int) - 1) < (o.length : Int) := by rw [hwj]; have := HZ.out; omega
        obtain ⟨ad1', e1, hc3⟩ := Kd.at_int HV1b.out (IntKind.i64.wrap ((i : Int) - 1)) hj0 hj1
        injection e1 with e1
        subst e1
        rw [show rd o (IntKind.i64.wrap ((i : Int) - 1)) = rd o ((i : Int) - 1) by rw [hwj]] at hc3
        clear hwj
        obtain ⟨y, ey⟩ : ∃ y, rd o ((i : Int) - 1) = y := ⟨_, rfl⟩
        rw [ey] at hy hle hc3
        clear ey
        have hyi := has_iff.1 hy
        have hy0 : 0 ≤ y := hyi.1
        have hy1 : y < (D.length : Int) := by rw [HLE.out]; exact hyi.2
        obtain ⟨ad2', e2, hc4⟩ := Kd.at_int HV2.out y hy0 hy1
        injection e2 with e2
        subst e2
        replace hc3 := keep HBr.out hc3
        replace hc4 := keep HBr.out hc4
        obtain ⟨q', eq'⟩ : ∃ q', rd D y = q' := ⟨_, rfl⟩
        rw [eq'] at hle hc4
        clear eq'
        have hcmp : decide (q < q') = false := decide_eq_false (by omega)
        clear hy hyi hle
        replace hy0 := eq_true hy0
        replace hy1 := eq_true hy1
        replace hj0 := eq_true hj0
        replace hj1 := eq_true hj1
        go_wp2
        refine start_ (n := 36) (S := fun w' => w'.cell? ⟨w.heap.size, 0, none⟩ = some (.slice A0 g.E.length c0) ∧ w'.cell? ⟨w.heap.size, 1, none⟩ = some (.slice A1 g.K.length c1) ∧ w'.cell? ⟨w.heap.size, 2, none⟩ = some (.slice A2 g.Gs.length c2) ∧ w'.cell? ⟨go, x.toNat, none⟩ = some (.bool false) ∧ w'.cell? (ad2.add x.toNat) = some (.int .i64 q) ∧ w'.cell? (ad1.add (IntKind.i64.wrap ((i : Int) - 1)).toNat) = some (.int .i64 y) ∧ w'.cell? (ad2.add y.toNat) = some (.int .i64 q')) (ds := []) #[false, false, false, false, false, false, false, false, false, false, false, false, false, false, false, false, false, false, false, false, false, false, false, false, false, false, false, false, false, false, false, false, false, false, false, false] (by kernel_rfl) rfl rfl ⟨q0, q1, q2, hs1, hc2, hc3, hc4⟩ (fun hHeld => ?_)
        have HGBr := Lib.hid (HGBw.out.below (Below.drew (Below.refl _ _)))
        have HBd := Lib.hid (Below.drew HBr.out)
        have HRd := Lib.hid (Kd.R_drew HR2.out)
        clear q0 q1 q2 hs1 hs2 hc2 hc3 hc4 HGBw
        generalize wr.drew = w10 at HGBr HBd HRd hHeld ⊢
        refine take_ (i := 0) (N := (some 48)) (v := ?_) (a' := ?_) #[true, false, false, false, false, false, false, false, false, false, false, false, false, false, false, false, false, false, false, false, false, false, false, false, false, false, false, false, false, false, false, false, false, false, false, false] rfl rfl (by kernel_rfl) (fun _ _ _ h => h) (Or.inl ⟨by rfl, ?_⟩) hHeld ?_ ?_
        rotate_left
        · rintro w' ⟨s0, s1, s2, s3, s4, s5, s6⟩
          go_simp
          with_reducible rfl
        rotate_left
        · simp only [Act.put, List.setIfInBounds_toArray, List.set_cons_zero, List.set_cons_succ]
          rfl
        refine pure_ (i := 1) (N := (some 49)) (v := ?_) (a' := ?_) #[true, true, false, false, false, false, false, false, false, false, false, false, false, false, false, false, false, false, false, false, false, false, false, false, false, false, false, false, false, false, false, false, false, false, false, false] rfl rfl (by kernel_rfl) (fun _ _ _ h => h) (Or.inl ⟨by rfl, ?_⟩) ?_ ?_
        rotate_left
        · intro w'
          go_simp
          with_reducible rfl
        rotate_left
        · simp only [Act.put, List.setIfInBounds_toArray, List.set_cons_zero, List.set_cons_succ]
          rfl
        refine one_ (i := 2) (N := (some 50)) #[true, true, true, false, false, false, false, false, false, false, false, false, false, false, false, false, false, false, false, false, false, false, false, false, false, false, false, false, false, false, false, false, false, false, false, false] rfl rfl (by kernel_rfl) (by decide) (fun K hK => ?_)
        go_simp
        refine (ghas_is HGBr.out.at_ x true HX.out).mono ?_
        rintro en w11 ⟨rfl, hb11⟩
        have HB11 := Lib.hid hb11
        have HBs := Lib.hid (below_then HBd.out HBd.out.size hb11)
        clear hb11
        refine hK.out _ _ ⟨keep HB11.out hHeld.1, keep HB11.out hHeld.2.1, keep HB11.out hHeld.2.2.1, keep HB11.out hHeld.2.2.2.1, keep HB11.out hHeld.2.2.2.2.1, keep HB11.out hHeld.2.2.2.2.2.1, keep HB11.out hHeld.2.2.2.2.2.2⟩ (fun hHeld => ?_)
        clear hK K
        refine pure_ (i := 3) (N := (some 51)) (v := ?_) (a' := ?_) #[true, true, true, true, false, false, false, false, false, false, false, false, false, false, false, false, false, false, false, false, false, false, false, false, false, false, false, false, false, false, false, false, false, false, false, false] rfl rfl (by kernel_rfl) (fun _ _ _ h => h) (Or.inl ⟨by rfl, ?_⟩) ?_ ?_
        rotate_left
        · intro w'
          go_simp
          with_reducible rfl
        rotate_left
        · simp only [Act.put, List.setIfInBounds_toArray, List.set_cons_zero, List.set_cons_succ]
          rfl
        refine pure_ (i := 4) (N := (some 52)) (v := ?_) (a' := ?_) #[true, true, true, true, true, false, false, false, false, false, false, false, false, false, false, false, false, false, false, false, false, false, false, false, false, false, false, false, false, false, false, false, false, false, false, false] rfl rfl (by kernel_rfl) (fun _ _ _ h => h) (Or.inl ⟨by rfl, ?_⟩) ?_ ?_
        rotate_left
        · intro w'
          go_simp
          with_reducible rfl
        rotate_left
        · simp only [Act.put, List.setIfInBounds_toArray, List.set_cons_zero, List.set_cons_succ]
          rfl
        refine pure_ (i := 5) (N := (some 53)) (v := ?_) (a' := ?_) #[true, true, true, true, true, true, false, false, false, false, false, false, false, false, false, false, false, false, false, false, false, false, false, false, false, false, false, false, false, false, false, false, false, false, false, false] rfl rfl (by kernel_rfl) (fun _ _ _ h => h) (Or.inl ⟨by rfl, ?_⟩) ?_ ?_
        rotate_left
        · intro w'
          go_simp
          with_reducible rfl
        rotate_left
        · simp only [Act.put, List.setIfInBounds_toArray, List.set_cons_zero, List.set_cons_succ]
          rfl
        refine pure_ (i := 6) (N := (some 54)) (v := ?_) (a' := ?_) #[true, true, true, true, true, true, true, false, false, false, false, false, false, false, false, false, false, false, false, false, false, false, false, false, false, false, false, false, false, false, false, false, false, false, false, false] rfl rfl (by kernel_rfl) (fun _ _ _ h => h) (Or.inl ⟨by rfl, ?_⟩) ?_ ?_
        rotate_left
        · intro w'
          go_simp
          with_reducible rfl
        rotate_left
        · simp only [Act.put, List.setIfInBounds_toArray, List.set_cons_zero, List.set_cons_succ]
          rfl
        refine pure_ (i := 7) (N := (some 55)) (v := ?_) (a' := ?_) #[true, true, true, true, true, true, true, true, false, false, false, false, false, false, false, false, false, false, false, false, false, false, false, false, false, false, false, false, false, false, false, false, false, false, false, false] rfl rfl (by kernel_rfl) (fun _ _ _ h => h) (Or.inl ⟨by rfl, ?_⟩) ?_ ?_
        rotate_left
        · intro w'
          go_simp
          with_reducible rfl
        rotate_left
        · simp only [Act.put, List.setIfInBounds_toArray, List.set_cons_zero, List.set_cons_succ]
          rfl
        refine take_ (i := 8) (N := (some 56)) (v := ?_) (a' := ?_) #[true, true, true, true, true, true, true, true, true, false, false, false, false, false, false, false, false, false, false, false, false, false, false, false, false, false, false, false, false, false, false, false, false, false, false, false] rfl rfl (by kernel_rfl) (fun _ _ _ h => h) (Or.inl ⟨by rfl, ?_⟩) hHeld ?_ ?_
        rotate_left
        · rintro w' ⟨s0, s1, s2, s3, s4, s5, s6⟩
          go_simp
          with_reducible rfl
        rotate_left
        · simp only [Act.put, List.setIfInBounds_toArray, List.set_cons_zero, List.set_cons_succ]
          rfl
        refine pure_ (i := 9) (N := (some 57)) (v := ?_) (a' := ?_) #[true, true, true, true, true, true, true, true, true, true, false, false, false, false, false, false, false, false, false, false, false, false, false, false, false, false, false, false, false, false, false, false, false, false, false, false] rfl rfl (by kernel_rfl) (fun _ _ _ h => h) (Or.inl ⟨by rfl, ?_⟩) ?_ ?_
        rotate_left
        · intro w'
          go_simp
          with_reducible rfl
        rotate_left
        · simp only [Act.put, List.setIfInBounds_toArray, List.set_cons_zero, List.set_cons_succ]
          rfl
        refine pure_ (i := 10) (N := (some 58)) (v := ?_) (a' := ?_) #[true, true, true, true, true, true, true, true, true, true, true, false, false, false, false, false, false, false, false, false, false, false, false, false, false, false, false, false, false, false, false, false, false, false, false, false] rfl rfl (by kernel_rfl) (fun _ _ _ h => h) (Or.inl ⟨by rfl, ?_⟩) ?_ ?_
        rotate_left
        · intro w'
          go_simp
          with_reducible rfl
        rotate_left
        · simp only [Act.put, List.setIfInBounds_toArray, List.set_cons_zero, List.set_cons_succ]
          rfl
        refine pure_ (i := 11) (N := (some 59)) (v := ?_) (a' := ?_) #[true, true, true, true, true, true, true, true, true, true, true, true, false, false, false, false, false, false, false, false, false, false, false, false, false, false, false, false, false, false, false, false, false, false, false, false] rfl rfl (by kernel_rfl) (fun _ _ _ h => h) (Or.inl ⟨by rfl, ?_⟩) ?_ ?_
        rotate_left
        · intro w'
          go_simp
          with_reducible rfl
        rotate_left
        · simp only [Act.put, List.setIfInBounds_toArray, List.set_cons_zero, List.set_cons_succ]
          rfl
        refine pure_ (i := 12) (N := (some 60)) (v := ?_) (a' := ?_) #[true, true, true, true, true, true, true, true, true, true, true, true, true, false, false, false, false, false, false, false, false, false, false, false, false, false, false, false, false, false, false, false, false, false, false, false] rfl rfl (by kernel_rfl) (fun _ _ _ h => h) (Or.inl ⟨by rfl, ?_⟩) ?_ ?_
        rotate_left
        · intro w'
          go_simp
          with_reducible rfl
        rotate_left
        · simp only [Act.put, List.setIfInBounds_toArray, List.set_cons_zero, List.set_cons_succ]
          rfl
        refine pure_ (i := 13) (N := (some 61)) (v := ?_) (a' := ?_) #[true, true, true, true, true, true, true, true, true, true, true, true, true, true, false, false, false, false, false, false, false, false, false, false, false, false, false, false, false, false, false, false, false, false, false, false] rfl rfl (by kernel_rfl) (fun _ _ _ h => h) (Or.inl ⟨by rfl, ?_⟩) ?_ ?_
        rotate_left
        · intro w'
          go_simp
          with_reducible rfl
        rotate_left
        · simp only [Act.put, List.setIfInBounds_toArray, List.set_cons_zero, List.set_cons_succ]
          rfl
        refine take_ (i := 14) (N := (some 62)) (v := ?_) (a' := ?_) #[true, true, true, true, true, true, true, true, true, true, true, true, true, true, true, false, false, false, false, false, false, false, false, false, false, false, false, false, false, false, false, false, false, false, false, false] rfl rfl (by kernel_rfl) (fun _ _ _ h => h) (Or.inl ⟨by rfl, ?_⟩) hHeld ?_ ?_
        rotate_left
        · rintro w' ⟨s0, s1, s2, s3, s4, s5, s6⟩
          go_simp
          with_reducible rfl
        rotate_left
        · simp only [Act.put, List.setIfInBounds_toArray, List.set_cons_zero, List.set_cons_succ]
          rfl
        refine pure_ (i := 15) (N := (some 63)) (v := ?_) (a' := ?_) #[true, true, true, true, true, true, true, true, true, true, true, true, true, true, true, true, false, false, false, false, false, false, false, false, false, false, false, false, false, false, false, false, false, false, false, false] rfl rfl (by kernel_rfl) (fun _ _ _ h => h) (Or.inl ⟨by rfl, ?_⟩) ?_ ?_
        rotate_left
        · intro w'
          go_simp
          with_reducible rfl
        rotate_left
        · simp only [Act.put, List.setIfInBounds_toArray, List.set_cons_zero, List.set_cons_succ]
          rfl
        refine pure_ (i := 16) (N := (some 64)) (v := ?_) (a' := ?_) #[true, true, true, true, true, true, true, true, true, true, true, true, true, true, true, true, true, false, false, false, false, false, false, false, false, false, false, false, false, false, false, false, false, false, false, false] rfl rfl (by kernel_rfl) (fun _ _ _ h => h) (Or.inl ⟨by rfl, ?_⟩) ?_ ?_
        rotate_left
        · intro w'
          go_simp
          with_reducible rfl
        rotate_left
        · simp only [Act.put, List.setIfInBounds_toArray, List.set_cons_zero, List.set_cons_succ]
          rfl
        refine pure_ (i := 17) (N := (some 65)) (v := ?_) (a' := ?_) #[true, true, true, true, true, true, true, true, true, true, true, true, true, true, true, true, true, true, false, false, false, false, false, false, false, false, false, false, false, false, false, false, false, false, false, false] rfl rfl (by kernel_rfl) (fun _ _ _ h => h) (Or.inl ⟨by rfl, ?_⟩) ?_ ?_
        rotate_left
        · intro w'
          go_simp
          with_reducible rfl
        rotate_left
        · simp only [Act.put, List.setIfInBounds_toArray, List.set_cons_zero, List.set_cons_succ]
          rfl
        refine pure_ (i := 18) (N := (some 66)) (v := ?_) (a' := ?_) #[true, true, true, true, true, true, true, true, true, true, true, true, true, true, true, true, true, true, true, false, false, false, false, false, false, false, false, false, false, false, false, false, false, false, false, false] rfl rfl (by kernel_rfl) (fun _ _ _ h => h) (Or.inl ⟨by rfl, ?_⟩) ?_ ?_
        rotate_left
        · intro w'
          go_simp
          with_reducible rfl
        rotate_left
        · simp only [Act.put, List.setIfInBounds_toArray, List.set_cons_zero, List.set_cons_succ]
          rfl
        refine pure_ (i := 19) (N := (some 67)) (v := ?_) (a' := ?_) #[true, true, true, true, true, true, true, true, true, true, true, true, true, true, true, true, true, true, true, true, false, false, false, false, false, false, false, false, false, false, false, false, false, false, false, false] rfl rfl (by kernel_rfl) (fun _ _ _ h => h) (Or.inl ⟨by rfl, ?_⟩) ?_ ?_
        rotate_left
        · intro w'
          go_simp
          with_reducible rfl
        rotate_left
        · simp only [Act.put, List.setIfInBounds_toArray, List.set_cons_zero, List.set_cons_succ]
          rfl
        refine pure_ (i := 20) (N := (some 68)) (v := ?_) (a' := ?_) #[true, true, true, true, true, true, true, true, true, true, true, true, true, true, true, true, true, true, true, true, true, false, false, false, false, false, false, false, false, false, false, false, false, false, false, false] rfl rfl (by kernel_rfl) (fun _ _ _ h => h) (Or.inl ⟨by rfl, ?_⟩) ?_ ?_
        rotate_left
        · intro w'
          go_simp
          with_reducible rfl
        rotate_left
        · simp only [Act.put, List.setIfInBounds_toArray, List.set_cons_zero, List.set_cons_succ]
          rfl
        refine pure_ (i := 21) (N := (some 69)) (v := ?_) (a' := ?_) #[true, true, true, true, true, true, true, true, true, true, true, true, true, true, true, true, true, true, true, true, true, true, false, false, false, false, false, false, false, false, false, false, false, false, false, false] rfl rfl (by kernel_rfl) (fun _ _ _ h => h) (Or.inl ⟨by rfl, ?_⟩) ?_ ?_
        rotate_left
        · intro w'
          go_simp
          with_reducible rfl
        rotate_left
        · simp only [Act.put, List.setIfInBounds_toArray, List.set_cons_zero, List.set_cons_succ]
          rfl
        refine pure_ (i := 22) (N := (some 70)) (v := ?_) (a' := ?_) #[true, true, true, true, true, true, true, true, true, true, true, true, true, true, true, true, true, true, true, true, true, true, true, false, false, false, false, false, false, false, false, false, false, false, false, false] rfl rfl (by kernel_rfl) (fun _ _ _ h => h) (Or.inl ⟨by rfl, ?_⟩) ?_ ?_
        rotate_left
        · intro w'
          go_simp
          with_reducible rfl
        rotate_left
        · simp only [Act.put, List.setIfInBounds_toArray, List.set_cons_zero, List.set_cons_succ]
          rfl
        refine pure_ (i := 23) (N := (some 71)) (v := ?_) (a' := ?_) #[true, true, true, true, true, true, true, true, true, true, true, true, true, true, true, true, true, true, true, true, true, true, true, true, false, false, false, false, false, false, false, false, false, false, false, false] rfl rfl (by kernel_rfl) (fun _ _ _ h => h) (Or.inl ⟨by rfl, ?_⟩) ?_ ?_
        rotate_left
        · intro w'
          go_simp
          with_reducible rfl
        rotate_left
        · simp only [Act.put, List.setIfInBounds_toArray, List.set_cons_zero, List.set_cons_succ]
          rfl
        refine pure_ (i := 24) (N := (some 72)) (v := ?_) (a' := ?_) #[true, true, true, true, true, true, true, true, true, true, true, true, true, true, true, true, true, true, true, true, true, true, true, true, true, false, false, false, false, false, false, false, false, false, false, false] rfl rfl (by kernel_rfl) (fun _ _ _ h => h) (Or.inl ⟨by rfl, ?_⟩) ?_ ?_
        rotate_left
        · intro w'
          go_simp
          with_reducible rfl
        rotate_left
        · simp only [Act.put, List.setIfInBounds_toArray, List.set_cons_zero, List.set_cons_succ]
          rfl
        refine pure_ (i := 25) (N := (some 73)) (v := ?_) (a' := ?_) #[true, true, true, true, true, true, true, true, true, true, true, true, true, true, true, true, true, true, true, true, true, true, true, true, true, true, false, false, false, false, false, false, false, false, false, false] rfl rfl (by kernel_rfl) (fun _ _ _ h => h) (Or.inl ⟨by rfl, ?_⟩) ?_ ?_
        rotate_left
        · intro w'
          go_simp
          with_reducible rfl
        rotate_left
        · simp only [Act.put, List.setIfInBounds_toArray, List.set_cons_zero, List.set_cons_succ]
          rfl
        refine take_ (i := 26) (N := (some 74)) (v := ?_) (a' := ?_) #[true, true, true, true, true, true, true, true, true, true, true, true, true, true, true, true, true, true, true, true, true, true, true, true, true, true, true, false, false, false, false, false, false, false, false, false] rfl rfl (by kernel_rfl) (fun _ _ _ h => h) (Or.inl ⟨by rfl, ?_⟩) hHeld ?_ ?_
        rotate_left
        · rintro w' ⟨s0, s1, s2, s3, s4, s5, s6⟩
          go_simp
          with_reducible rfl
        rotate_left
        · simp only [Act.put, List.setIfInBounds_toArray, List.set_cons_zero, List.set_cons_succ]
          rfl
        refine pure_ (i := 27) (N := (some 75)) (v := ?_) (a' := ?_) #[true, true, true, true, true, true, true, true, true, true, true, true, true, true, true, true, true, true, true, true, true, true, true, true, true, true, true, true, false, false, false, false, false, false, false, false] rfl rfl (by kernel_rfl) (fun _ _ _ h => h) (Or.inl ⟨by rfl, ?_⟩) ?_ ?_
        rotate_left
        · intro w'
          go_simp
          with_reducible rfl
        rotate_left
        · simp only [Act.put, List.setIfInBounds_toArray, List.set_cons_zero, List.set_cons_succ]
          rfl
        refine take_ (i := 28) (N := (some 76)) (v := ?_) (a' := ?_) #[true, true, true, true, true, true, true, true, true, true, true, true, true, true, true, true, true, true, true, true, true, true, true, true, true, true, true, true, true, false, false, false, false, false, false, false] rfl rfl (by kernel_rfl) (fun _ _ _ h => h) (Or.inl ⟨by rfl, ?_⟩) hHeld ?_ ?_
        rotate_left
        · rintro w' ⟨s0, s1, s2, s3, s4, s5, s6⟩
          go_simp
          with_reducible rfl
        rotate_left
        · simp only [Act.put, List.setIfInBounds_toArray, List.set_cons_zero, List.set_cons_succ]
          rfl
        refine pure_ (i := 29) (N := (some 77)) (v := ?_) (a' := ?_) #[true, true, true, true, true, true, true, true, true, true, true, true, true, true, true, true, true, true, true, true, true, true, true, true, true, true, true, true, true, true, false, false, false, false, false, false] rfl rfl (by kernel_rfl) (fun _ _ _ h => h) (Or.inl ⟨by rfl, ?_⟩) ?_ ?_
        rotate_left
        · intro w'
          go_simp
          with_reducible rfl
        rotate_left
        · simp only [Act.put, List.setIfInBounds_toArray, List.set_cons_zero, List.set_cons_succ]
          rfl
        refine pure_ (i := 30) (N := (some 78)) (v := ?_) (a' := ?_) #[true, true, true, true, true, true, true, true, true, true, true, true, true, true, true, true, true, true, true, true, true, true, true, true, true, true, true, true, true, true, true, false, false, false, false, false] rfl rfl (by kernel_rfl) (fun _ _ _ h => h) (Or.inl ⟨by rfl, ?_⟩) ?_ ?_
        rotate_left
        · intro w'
          go_simp
          with_reducible rfl
        rotate_left
        · simp only [Act.put, List.setIfInBounds_toArray, List.set_cons_zero, List.set_cons_succ]
          rfl
        refine pure_ (i := 31) (N := (some 79)) (v := ?_) (a' := ?_) #[true, true, true, true, true, true, true, true, true, true, true, true, true, true, true, true, true, true, true, true, true, true, true, true, true, true, true, true, true, true, true, true, false, false, false, false] rfl rfl (by kernel_rfl) (fun _ _ _ h => h) (Or.inl ⟨by rfl, ?_⟩) ?_ ?_
        rotate_left
        · intro w'
          go_simp
          with_reducible rfl
        rotate_left
        · simp only [Act.put, List.setIfInBounds_toArray, List.set_cons_zero, List.set_cons_succ]
          rfl
        refine take_ (i := 32) (N := (some 80)) (v := ?_) (a' := ?_) #[true, true, true, true, true, true, true, true, true, true, true, true, true, true, true, true, true, true, true, true, true, true, true, true, true, true, true, true, true, true, true, true, true, false, false, false] rfl rfl (by kernel_rfl) (fun _ _ _ h => h) (Or.inl ⟨by rfl, ?_⟩) hHeld ?_ ?_
        rotate_left
        · rintro w' ⟨s0, s1, s2, s3, s4, s5, s6⟩
          go_simp
          with_reducible rfl
        rotate_left
        · simp only [Act.put, List.setIfInBounds_toArray, List.set_cons_zero, List.set_cons_succ]
          rfl
        refine pure_ (i := 33) (N := (some 81)) (v := ?_) (a' := ?_) #[true, true, true, true, true, true, true, true, true, true, true, true, true, true, true, true, true, true, true, true, true, true, true, true, true, true, true, true, true, true, true, true, true, true, false, false] rfl rfl (by kernel_rfl) (fun _ _ _ h => h) (Or.inl ⟨by rfl, ?_⟩) ?_ ?_
        rotate_left
        · intro w'
          go_simp
          with_reducible rfl
        rotate_left
        · simp only [Act.put, List.setIfInBounds_toArray, List.set_cons_zero, List.set_cons_succ]
          rfl
        refine pure_ (i := 34) (N := (some 82)) (v := ?_) (a' := ?_) #[true, true, true, true, true, true, true, true, true, true, true, true, true, true, true, true, true, true, true, true, true, true, true, true, true, true, true, true, true, true, true, true, true, true, true, false] rfl rfl (by kernel_rfl) (fun _ _ _ h => h) (Or.inl ⟨by rfl, ?_⟩) ?_ ?_
        rotate_left
        · intro w'
          go_simp
          with_reducible rfl
        rotate_left
        · simp only [Act.put, List.setIfInBounds_toArray, List.set_cons_zero, List.set_cons_succ]
          rfl
        refine pure_ (i := 35) (N := (some 83)) (v := ?_) (a' := ?_) #[true, true, true, true, true, true, true, true, true, true, true, true, true, true, true, true, true, true, true, true, true, true, true, true, true, true, true, true, true, true, true, true, true, true, true, true] rfl rfl (by kernel_rfl) (fun _ _ _ h => h) (Or.inl ⟨by rfl, ?_⟩) ?_ ?_
        rotate_left
        · intro w'
          go_simp
          with_reducible rfl
        rotate_left
        · simp only [Act.put, List.setIfInBounds_toArray, List.set_cons_zero, List.set_cons_succ]
          rfl
        refine done_ (by kernel_rfl) ?_
        have HR11 := Lib.hid (Kd.R_below HRd.out HB11.out)
        obtain ⟨hs1, hs2⟩ := Kd.R_celln false HR11.out x hx0' hxd'
        go_wp2_with (first | ((with_reducible refine gate_store (t := 4) (p := 86) rfl ?_); refine store_event (t := 4) (p := 86) (v := ?vo) (w1 := (w11.setCell ⟨go, x.toNat, none⟩ (.bool true))) ?hg ?ho ?hn ?hr ?_; (case ho => rfl); (case hg => rfl); (case hn => rfl); (case hr => first | (go_simp; done) | (go_simp; rfl)); intro w12 hw12; have HW12 := Lib.hid hw12; clear hw12))
        go_roundw
        case rel => exact ⟨i + 1, by omega, by go_num, sl.set x.toNat true, mark HSLN.out HX.out HSL.out HTK.out, by rw [HW12.out]; exact (Kd.R_putg HR11.out x true).1, by rw [HW12.out]; exact below_set HBs.out HGO.out⟩
        case measure => simp [intOf]; omega
    · obtain rfl : i = o.length := by omega
      rw [List.take_length] at HSL
      have HI2 := Lib.hid (show OkRel g o w6 D.length go co o.length wr from ⟨sl, by rw [List.take_length]; exact HSL.out, HR2.out, HBr.out⟩)
      clear HSL HR2 HBr HSLN
      go_wp2
      go_loopw [90] (fun v90 w' => ∃ t : Nat, t ≤ D.length ∧ v90 = .int .i64 t ∧ OkRel g o w6 D.length go co o.length w') (fun v90 _ => D.length - (intOf v90).toNat)
      case atStart => exact ⟨0, Nat.zero_le _, rfl, HI2.out⟩
      case round =>
        obtain ⟨t, ht, rfl, sl, hsl, hR, hB⟩ := hrel
        have HR2 := Lib.hid hR
        have HBr := Lib.hid hB
        have HSL := Lib.hid hsl
        clear hR hB hsl HI2
        by_cases hlt : t < D.length
        · have ht0' : 0 ≤ (t : Int) := by omega
          have ht1' : (t : Int) < (D.length : Int) := by omega
          have hhas : g.has (t : Int) = true := has_iff.2 ⟨by omega, by rw [← HLE.out]; exact ht1'⟩
          obtain ⟨ad2, rfl, hc2⟩ := Kd.at_int HV2.out (t : Int) ht0' ht1'
          replace hc2 := keep HBr.out hc2
          obtain ⟨hs1, hs2⟩ := Kd.R_celln false HR2.out (t : Int) ht0' ht1'
          have hall := HALL.out (t : Int) hhas
          have hsv := HSL.out (t : Int) hhas
          rw [List.take_length] at hsv
          rw [hsv] at hs1
          rw [Int.toNat_natCast] at hc2 hs1 hs2
          obtain ⟨q, eq⟩ : ∃ q, rd D (t : Int) = q := ⟨_, rfl⟩
          rw [eq] at hall hc2
          clear eq hsv hhas
          replace ht0' := eq_true ht0'
          replace ht1' := eq_true ht1'
          by_cases hm : (t : Int) ∈ o
          · have hq : decide (q < 1099511627777) = true := decide_eq_true (hall.2 hm)
            rw [decide_eq_true hm] at hs1
            clear hall hm
            go_wp2
            go_quiet (fail)
            go_wp2
            go_roundw
            case rel => exact ⟨t + 1, by omega, by go_num, sl, HSL.out, Kd.R_drewN HR2.out _, pw_below_drewN HBr.out _⟩
            case measure => simp [intOf]; omega
          · have hq : decide (q < 1099511627777) = false := decide_eq_false (fun h => hm (hall.1 h))
            rw [decide_eq_false hm] at hs1
            clear hall hm
            go_wp2
            go_quiet (fail)
            go_wp2
            go_roundw
            case rel => exact ⟨t + 1, by omega, by go_num, sl, HSL.out, Kd.R_drewN HR2.out _, pw_below_drewN HBr.out _⟩
            case measure => simp [intOf]; omega
        · obtain rfl : t = D.length := by omega
          go_wp2
          go_ret
          exact ⟨rfl, HA6.out.trans (HBr.out.mono HA6.out.size)⟩
theorem order_law (h : GAt g w A0 c0 A1 c1 A2 c2) (s : Int) :
    Calls Try.prog 9 #[.agg #[.slice A0 g.E.length c0, .slice A1 g.K.length c1, .slice A2 g.Gs.length c2], .int .i64 s] w fun e w' => e = .returned (.bool true) ∧ Below w.heap.size w w' := by
  by_cases hg : g.large = true ∨ g.has s = false ∨ g.plain = false
  · exact olaw_out h s hg
  · simp only [not_or, Bool.not_eq_true, Bool.not_eq_false] at hg
    exact olaw_in h s hg.1 hg.2.1 hg.2.2
end Go.Proofs.Ytipdejalohmkpaa.Gr

namespace Go.Proofs.Ytipdejalohmkpaa.bestfirstOrder
open Go.ChangeShapes Go.WideShapes Go.ChangeAt Go.RowKit
open Go.ChangeMaps (open_string shut_string)
set_option linter.unusedVariables false
theorem own : ownKnob Try.prog.godebug = none := by kernel_rfl
theorem laidOut : laidOutB Try.prog = true := by kernel_rfl
set_option maxRecDepth 100000 in
theorem lifted (os : Os) (started : os.Started) (H : Type) (enc : TypeId × Value → H) :
    ReturnsInHanded {} Try.checked os 9 .any (Rows.bestfirstOrderSpec.pre6 enc Try.prog Try.f9 Rows.bestfirstOrderRow.domain false) (Rows.bestfirstOrderSpec.post enc Try.prog Try.f9 false true false false) := by
  refine returnsInHanded_of_change_sized (C := Try.checked) own started (by kernel_rfl) Try.func9
    (ChangeSpec.witness6 (enc := enc) (C := Try.checked) false ⟨#[], #[.agg #[.slice none 0 0, .slice none 0 0, .slice none 0 0], .int .i64 0], []⟩ 8 (by kernel_rfl) (by kernel_rfl) (by kernel_rfl) (by kernel_rfl)) ?_
  intro W base args ds gs before hval0 hW hcnd hsz0 _
  have hsz : (DataW.weightsEach Try.prog (Try.f9.params.toList ++ Rows.bestfirstOrderSpec.plain.varTypes Try.prog) (ds ++ gs)).all (· ≤ reachBytes) = true := hsz0
  have hval : ∀ (j : Nat) t v, Try.f9.params[j]? = some t → args[j]? = some v → Value.okWide Try.prog W .any base t v := hval0
  have hW' := hW
  obtain ⟨p, q, hA0, hV, rfl, hfz, hnd⟩ := hW
  have hA : DataW.TrodAll enc Try.prog W 0 (fun _ => true) true Try.f9.params.toList args.toList ds p := hA0
  rw [Try.params9] at hA hval hsz
  obtain ⟨v0, vs0, d0, ds0, p0, q0, hargs, rfl, rfl, h0, r0⟩ := trodAll_cons hA
  obtain ⟨v1, vs1, d1, ds1, p1, q1, rfl, rfl, rfl, h1, r1⟩ := trodAll_cons r0
  obtain ⟨rfl, rfl, rfl⟩ := trodAll_nil r1
  obtain rfl : args = #[v0, v1] := by cases args; simp_all
  obtain ⟨rfl, rfl⟩ := trodVars_none hV
  obtain ⟨g0, A0, B0, C0, D0, E0, F0, rfl, w0⟩ := Gr.open_graph (hval 0 26 v0 rfl rfl) h0
  have k0 := h0
  have lt0 : ∀ x ∈ p0, x.block < W.heap.size := by obtain ⟨m, hm⟩ := k0; exact DataW.trod_lt m _ _ _ hm
  obtain ⟨a1, rfl, rfl, rfl, w1⟩ := open_int Try.underlying3 (hval 1 3 v1 rfl rfl) h1
  clear hA0 hval0 hsz0 hsz
  refine (Gr.order_law w0 a1).mono fun e W' ⟨he, bel⟩ => ?_
  subst he
  exact ⟨_, rfl, _, _, _, [], _, [], hW', trodAll_mk1 (shut_bool Try.underlying4 _), (trodAll_cons_mk (Below.trod laidOut (by kernel_rfl) (of_decide_eq_true (by kernel_rfl)) k0 bel lt0) (trodAll_cons_mk (shut_int Try.underlying3 w1) trodAll_mk0)), rfl, bel.frame _, fun h => by cases h⟩
theorem over : Rows.bestfirstOrderRow.holds Try.pinned (OpenSpec.ofChange Rows.bestfirstOrderSpec) :=
  OpenClaim.holds_of_wide 9 Try.f9 rfl rfl rfl rfl rfl rfl rfl ⟨rfl, rfl, rfl, rfl, rfl⟩ rfl rfl rfl rfl rfl (by kernel_rfl) Try.func9 (by kernel_rfl)
    (of_decide_eq_true (by kernel_rfl)) (by unfold Func.isWrapper; first | (rw [if_pos (by decide +kernel)]; kernel_rfl) | (rw [if_neg (by decide +kernel)]; exact ⟨rfl, rfl⟩))
    (fun os started H enc _ => lifted os started H enc)
end Go.Proofs.Ytipdejalohmkpaa.bestfirstOrder
namespace Go.Proofs.Ytipdejalohmkpaa
/-- The row, under a short name, for the claim. -/
theorem bestfirstOrder_holds : Rows.BestfirstOrderSaid := bestfirstOrder.over
#print axioms bestfirstOrder_holds
end Go.Proofs.Ytipdejalohmkpaa
