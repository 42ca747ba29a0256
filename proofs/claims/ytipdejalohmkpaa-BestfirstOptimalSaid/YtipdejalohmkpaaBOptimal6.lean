/- BestfirstOptimal: whatever the input, the call returns true, and the input reads as it did. No conditions. -/
import Derived.Test.YtipdejalohmkpaaBOptimal5
import Derived.Test.YtipdejalohmkpaaRows
import Derived.WalkKit
import Derived.ProofKit
import Derived.OpenShut
import Derived.ShutString
import Derived.ChangeOld
import Derived.Below
import Derived.SizedLaws
/- The path is a cheapest one: the statement's function answers true. -/
namespace Go.Proofs.Ytipdejalohmkpaa.Gr
open Go.RowKit Go.Proofs.YtipdejalohmkpaaW.PrintWords Go.Proofs.YtipdejalohmkpaaW.PrintLast Go.Proofs.YtipdejalohmkpaaW.PrintMore PBestfirstDistances
variable {g : Gph} {w : World} {A0 A1 A2 : Option Addr} {c0 c1 c2 : Nat}
theorem keep {w w' : World} {a : Addr} {v : Value} (hb : Below w.heap.size w w') (h : w.cell? a = some v) : w'.cell? a = some v := (hb.cell (World.block_lt_of_cell? w _ h)).trans h
set_option maxRecDepth 1000000 in
set_option maxHeartbeats 4000000 in
theorem plaw_out (h : GAt g w A0 c0 A1 c1 A2 c2) (s : Int) (hg : g.large = true ∨ g.has s = false ∨ g.plain = false) :
    Calls Try.prog 6 #[.agg #[.slice A0 g.E.length c0, .slice A1 g.K.length c1, .slice A2 g.Gs.length c2], .int .i64 s] w fun e w' => e = .returned (.bool true) ∧ Below w.heap.size w w' := by
  have HA := Lib.hid (show Below w.heap.size w (w.alloc (.cells #[.slice A0 g.E.length c0, .slice A1 g.K.length c1, .slice A2 g.Gs.length c2] 26)) from (Below.refl _ _).alloc (Nat.le_refl _) _)
  have HGB := Lib.hid (GB.make h)
  clear h
  go_enter Try.func6, Try.ntmps6
  go_wp2_with fail
  refine (awake_any _).mono ?_
  rintro e w1 ⟨rfl, hb1⟩
  have HGB1 := Lib.hid (HGB.out.below hb1)
  have HA1 := Lib.hid (below_then HA.out HA.out.size hb1)
  obtain ⟨q0, q1, q2⟩ := HGB1.out.cells
  clear hb1 HGB
  go_wp2_with fail
  cases hl : g.large with
  | true =>
    refine (glarge_is HGB1.out.at_ true hl).mono ?_
    rintro e w2 ⟨rfl, hb2⟩
    have HA2 := Lib.hid (below_then HA1.out HA1.out.size hb2)
    clear hb2 q0 q1 q2 hg hl
    go_wp2
    go_ret
    exact ⟨rfl, HA2.out⟩
  | false =>
    refine (glarge_is HGB1.out.at_ false hl).mono ?_
    rintro e w2 ⟨rfl, hb2⟩
    have HGB2 := Lib.hid (HGB1.out.below hb2)
    have HA2 := Lib.hid (below_then HA1.out HA1.out.size hb2)
    clear hb2 q0 q1 q2
    obtain ⟨q0, q1, q2⟩ := HGB2.out.cells
    go_wp2_with fail
    cases hs : g.has s with
    | false =>
      refine (ghas_is HGB2.out.at_ s false hs).mono ?_
      rintro e w3 ⟨rfl, hb3⟩
      have HA3 := Lib.hid (below_then HA2.out HA2.out.size hb3)
      clear hb3 q0 q1 q2 hg hl hs
      go_wp2
      go_ret
      exact ⟨rfl, HA3.out⟩
    | true =>
      refine (ghas_is HGB2.out.at_ s true hs).mono ?_
      rintro e w3 ⟨rfl, hb3⟩
      have HGB3 := Lib.hid (HGB2.out.below hb3)
      have HA3 := Lib.hid (below_then HA2.out HA2.out.size hb3)
      clear hb3 q0 q1 q2
      obtain ⟨q0, q1, q2⟩ := HGB3.out.cells
      have hpl : g.plain = false := by rw [hl, hs] at hg; simpa using hg
      clear hg hl hs
      go_wp2_with fail
      refine (gplain_is HGB3.out.at_ false hpl).mono ?_
      rintro e w5 ⟨rfl, hb5⟩
      have HA5 := Lib.hid (below_then HA3.out HA3.out.size hb5)
      clear hb5 q0 q1 q2 hpl
      go_wp2
      go_ret
      exact ⟨rfl, HA5.out⟩

def P3 (xs : List S51) (T C : Int) (W : World) (v13 v104 : Value) (wr : World) : Prop :=
  ∃ (j : Nat) (b : Int), j ≤ xs.length ∧ v104 = .int .i64 j ∧ v13 = .int .i64 b ∧ cheapFrom T (xs.drop j) b = C ∧ Below W.heap.size W wr
theorem fsum_mono (g : Gph) (p : List Int) (i j : Nat) (h : i ≤ j) : fsum g p i ≤ fsum g p j := by
  induction h with
  | refl => exact Int.le_refl _
  | @step m _ ih =>
    have := cheap_ran g (rd p (m : Nat)) (rd p ((m + 1 : Nat) : Int))
    show _ ≤ fsum g p m + cheap g (rd p (m : Nat)) (rd p ((m + 1 : Nat) : Int))
    omega
def P2 (g : Gph) (p : List Int) (W : World) (v11 v12 : Value) (wr : World) : Prop :=
  ∃ (k : Nat) (z y : Int), k + 1 ≤ p.length ∧ v12 = .int .i64 z ∧ v11 = .int .i64 y ∧ z = (k : Int) + 1 ∧ y = fsum g p k ∧ Below W.heap.size W wr
def P1 (g : Gph) (D : List Int) (W : World) (v9 v43 : Value) (wr : World) : Prop :=
  ∃ (i : Nat) (b : Int), i ≤ D.length ∧ v43 = .int .i64 i ∧ v9 = .int .i64 b ∧ bestFrom g D (D.length - i) i b = best g D ∧ Below W.heap.size W wr
set_option maxRecDepth 1000000 in
set_option maxHeartbeats 8000000 in
theorem plaw_in (h : GAt g w A0 c0 A1 c1 A2 c2) (s : Int) (hl : g.large = false) (hs : g.has s = true) (hp : g.plain = true) :
    Calls Try.prog 6 #[.agg #[.slice A0 g.E.length c0, .slice A1 g.K.length c1, .slice A2 g.Gs.length c2], .int .i64 s] w fun e w' => e = .returned (.bool true) ∧ Below w.heap.size w w' := by
  have HA := Lib.hid (show Below w.heap.size w (w.alloc (.cells #[.slice A0 g.E.length c0, .slice A1 g.K.length c1, .slice A2 g.Gs.length c2] 26)) from (Below.refl _ _).alloc (Nat.le_refl _) _)
  have HGB := Lib.hid (GB.make h)
  clear h
  obtain ⟨p, c, e, hr⟩ : ∃ p c e, sres g s 100 = (p, c, e) := ⟨_, _, _, rfl⟩
  have HPU := Lib.hid (opt_pure hl hp hs hr)
  have HPL := Lib.hid (show p.length < 1000000000 by have := sres_len2 g hl s 100 hs; rw [hr] at this; exact this)
  have HR := Lib.hid hr
  have HL := Lib.hid hl
  have HS := Lib.hid hs
  have HP := Lib.hid hp
  have HLE := Lib.hid (dists_spec hs).1.len
  have HN := Lib.hid (has_iff.1 hs)
  have HN12 := Lib.hid (len12 hl)
  clear hr hl hs hp
  go_enter Try.func6, Try.ntmps6
  go_wp2_with fail
  refine (awake_any _).mono ?_
  rintro en w1 ⟨rfl, hb1⟩
  have HGB1 := Lib.hid (HGB.out.below hb1)
  have HA1 := Lib.hid (below_then HA.out HA.out.size hb1)
  obtain ⟨q0, q1, q2⟩ := HGB1.out.cells
  clear hb1 HGB
  go_wp2_with fail
  refine (glarge_is HGB1.out.at_ false HL.out).mono ?_
  rintro en w2 ⟨rfl, hb2⟩
  have HGB2 := Lib.hid (HGB1.out.below hb2)
  have HA2 := Lib.hid (below_then HA1.out HA1.out.size hb2)
  clear hb2 q0 q1 q2
  obtain ⟨q0, q1, q2⟩ := HGB2.out.cells
  go_wp2_with fail
  refine (ghas_is HGB2.out.at_ s true HS.out).mono ?_
  rintro en w3 ⟨rfl, hb3⟩
  have HGB3 := Lib.hid (HGB2.out.below hb3)
  have HA3 := Lib.hid (below_then HA2.out HA2.out.size hb3)
  clear hb3 q0 q1 q2
  obtain ⟨q0, q1, q2⟩ := HGB3.out.cells
  go_wp2_with fail
  refine (gplain_is HGB3.out.at_ true HP.out).mono ?_
  rintro en w4 ⟨rfl, hb4⟩
  have HGB4 := Lib.hid (HGB3.out.below hb4)
  have HA4 := Lib.hid (below_then HA3.out HA3.out.size hb4)
  clear hb4 q0 q1 q2
  obtain ⟨q0, q1, q2⟩ := HGB4.out.cells
  go_wp2_with fail
  refine (lsearch_is HGB4.out.at_ HL.out s HS.out 100 p c e HR.out).mono ?_
  rintro en w5 ⟨v1, rfl, hv1, hb5⟩
  obtain ⟨B1, d1, rfl, m1, g1⟩ := Kd.R_reads hv1
  have HGB5 := Lib.hid (HGB4.out.below hb5)
  have HA5 := Lib.hid (below_then HA4.out HA4.out.size hb5)
  have HV1 := Lib.hid g1
  clear hb5 q0 q1 q2 hv1 g1
  obtain ⟨q0, q1, q2⟩ := HGB5.out.cells
  go_wp2_with fail
  refine (ldists_is HGB5.out.at_ HL.out s HS.out).mono ?_
  rintro en w6 ⟨B2, d2, rfl, m2, g2, hb6⟩
  have HGB6 := Lib.hid (HGB5.out.below hb6)
  have HA6 := Lib.hid (below_then HA5.out HA5.out.size hb6)
  have HV2 := Lib.hid g2
  have HV1b := Lib.hid (Kd.C_below HV1.out hb6)
  clear hb6 q0 q1 q2 g2 HV1
  generalize hD : dists g s = D at *
  have HPU2 : Hid (OptOk g s p c e) := HPU
  have HDD := Lib.hid hD
  clear hD
  have hI : P1 g D w6 (.int .i64 1099511627777) (.int .i64 0) w6 := ⟨0, _, Nat.zero_le _, rfl, rfl, by rw [Nat.sub_zero, HLE.out]; rfl, Below.refl _ _⟩
  have HI := Lib.hid hI
  clear hI
  go_wp2
  go_loopw [9, 43] (fun v9 v43 wr => P1 g D w6 v9 v43 wr) (fun _ v43 _ => D.length - (intOf v43).toNat)
  case atStart => exact HI.out
  case round =>
    obtain ⟨i, b, hi, rfl, rfl, hbf, hB⟩ := hrel
    have HBr := Lib.hid hB
    have HBF := Lib.hid hbf
    clear hB hbf HI
    have hDb : D.length ≤ 12 := by rw [HLE.out]; exact HN12.out
    by_cases hlt : i < D.length
    · have hi0' : 0 ≤ (i : Int) := by omega
      have hi1' : (i : Int) < (D.length : Int) := by omega
      obtain ⟨ad2, rfl, hc2⟩ := Kd.at_int HV2.out (i : Int) hi0' hi1'
      replace hc2 := keep HBr.out hc2
      rw [Int.toNat_natCast] at hc2
      have HC2 := Lib.hid hc2
      have HGBw := Lib.hid (HGB6.out.below HBr.out)
      obtain ⟨q0, q1, q2⟩ := HGBw.out.cells
      have hsub : D.length - i = (D.length - (i + 1)) + 1 := by omega
      have HBF2 : Hid (bestFrom g D (D.length - (i + 1)) (i + 1) (if g.goal (i : Nat) then mn b (rd D (i : Nat)) else b) = best g D) := by
        have h := HBF.out
        rw [hsub] at h
        exact Lib.hid h
      replace hi0' := eq_true hi0'
      replace hi1' := eq_true hi1'
      clear hsub HBF hc2
      go_wp2_with fail
      refine (ggoal_any HGBw.out.at_ (i : Int)).mono ?_
      rintro en w8 ⟨rfl, hb8⟩
      have HB8 := Lib.hid (below_then HBr.out HBr.out.size hb8)
      have hc2 := keep hb8 HC2.out
      clear hb8 q0 q1 q2 HGBw
      cases hgg : g.goal (i : Int) with
      | false =>
        rw [hgg] at HBF2
        clear hgg
        go_wp2
        go_roundw
        case rel => exact ⟨i + 1, b, by omega, by go_num, rfl, by have h := HBF2.out; simpa using h, HB8.out⟩
        case measure => simp [intOf]; omega
      | true =>
        rw [hgg] at HBF2
        clear hgg
        obtain ⟨q, eq⟩ : ∃ q, rd D (i : Nat) = q := ⟨_, rfl⟩
        rw [eq] at hc2 HBF2
        clear eq HC2
        go_wp2
        go_roundw
        case rel => exact ⟨i + 1, mn b q, by omega, by go_num, rfl, by have h := HBF2.out; simpa using h, HB8.out⟩
        case measure => simp [intOf]; omega
    · obtain rfl : i = D.length := by omega
      have hbb : b = best g D := by
        have h := HBF.out
        rw [Nat.sub_self] at h
        exact h
      clear HBF
      subst hbb
      clear hi hlt
      have hbr := HPU2.out
      unfold OptOk at hbr
      rw [HDD.out] at hbr
      rcases hbr with ⟨rfl, hfar⟩ | ⟨rfl, hcb, hp0, hst, hgl, hgood, hfs, hhas⟩
      · have hff : (best g D == 1099511627777) = true := by rw [hfar]; rfl
        clear hfar
        go_wp2
        go_ret
        exact ⟨rfl, HA6.out.trans (HBr.out.mono HA6.out.size)⟩
      · have hne : (c != best g D) = false := by rw [hcb]; simp
        have hpz : ((p.length : Int) == 0) = false := by rw [beq_eq_false_iff_ne]; omega
        have hpz' : (p.length == 0) = false := by rw [beq_eq_false_iff_ne]; omega
        have HFS := Lib.hid hfs
        have HGOOD := Lib.hid hgood
        have HHAS := Lib.hid hhas
        have HCB := Lib.hid hcb
        have HP0 := Lib.hid hp0
        have HGL := Lib.hid hgl
        have hl0 : (0 : Int) < (p.length : Int) := by omega
        obtain ⟨ad1, rfl, hc1⟩ := Kd.at_int HV1b.out 0 (Int.le_refl _) hl0
        rw [hst] at hc1
        replace hc1 := keep HBr.out hc1
        clear hcb hfs hgood hhas hp0 hgl hst
        replace hl0 := eq_true hl0
        have HGBw := Lib.hid (HGB6.out.below HBr.out)
        obtain ⟨q0, q1, q2⟩ := HGBw.out.cells
        rw [show ad1.add (Int.toNat 0) = ad1 by first | rfl | (simp; done) | (cases ad1; simp [Addr.add])] at hc1
        have hp0n : (0 < p.length) = True := eq_true HP0.out
        obtain ⟨tl, etl⟩ : ∃ tl, rd p ((p.length - 1 : Nat) : Int) = tl := ⟨_, rfl⟩
        have hwj : IntKind.i64.wrap ((p.length : Int) - 1) = ((p.length - 1 : Nat) : Int) := by
          rw [i64_w]
          have h1 := HP0.out
          have h2 := HPL.out
          rw [w64 (by omega) (by omega)]
          omega
        have hj0 : 0 ≤ IntKind.i64.wrap ((p.length : Int) - 1) := by rw [hwj]; omega
        have hj1 : IntKind.i64.wrap ((p.length : Int) - 1) < (p.length : Int) := by rw [hwj]; have := HP0.out; omega
        obtain ⟨ad1', e1, hc3⟩ := Kd.at_int HV1b.out (IntKind.i64.wrap ((p.length : Int) - 1)) hj0 hj1
        injection e1 with e1
        subst e1
        rw [show rd p (IntKind.i64.wrap ((p.length : Int) - 1)) = tl by rw [hwj]; exact etl] at hc3
        rw [etl] at HGL
        clear hwj etl
        replace hc3 := keep HBr.out hc3
        replace hj0 := eq_true hj0
        replace hj1 := eq_true hj1
        go_wp2
        refine start_ (n := 26) (S := fun w' => w'.cell? ⟨w.heap.size, 0, none⟩ = some (.slice A0 g.E.length c0) ∧ w'.cell? ⟨w.heap.size, 1, none⟩ = some (.slice A1 g.K.length c1) ∧ w'.cell? ⟨w.heap.size, 2, none⟩ = some (.slice A2 g.Gs.length c2) ∧ w'.cell? ad1 = some (.int .i64 s) ∧ w'.cell? (ad1.add (IntKind.i64.wrap ((p.length : Int) - 1)).toNat) = some (.int .i64 tl)) (ds := []) #[false, false, false, false, false, false, false, false, false, false, false, false, false, false, false, false, false, false, false, false, false, false, false, false, false, false] (by kernel_rfl) rfl rfl ⟨q0, q1, q2, hc1, hc3⟩ (fun hHeld => ?_)
        have HGBd := Lib.hid (HGBw.out.below (Below.drew (Below.refl _ _)))
        have HBd := Lib.hid (Below.drew HBr.out)
        clear q0 q1 q2 hc1 hc3 HGBw
        generalize wr.drew = w10 at HGBd HBd hHeld ⊢
        refine pure_ (i := 0) (N := (some 64)) (v := ?_) (a' := ?_) #[true, false, false, false, false, false, false, false, false, false, false, false, false, false, false, false, false, false, false, false, false, false, false, false, false, false] rfl rfl (by kernel_rfl) (fun _ _ _ h => h) (Or.inl ⟨by rfl, ?_⟩) ?_ ?_
        rotate_left
        · intro w'
          go_simp
          with_reducible rfl
        rotate_left
        · simp only [Act.put, List.setIfInBounds_toArray, List.set_cons_zero, List.set_cons_succ]
          rfl
        refine pure_ (i := 1) (N := (some 65)) (v := ?_) (a' := ?_) #[true, true, false, false, false, false, false, false, false, false, false, false, false, false, false, false, false, false, false, false, false, false, false, false, false, false] rfl rfl (by kernel_rfl) (fun _ _ _ h => h) (Or.inl ⟨by rfl, ?_⟩) ?_ ?_
        rotate_left
        · intro w'
          go_simp
          with_reducible rfl
        rotate_left
        · simp only [Act.put, List.setIfInBounds_toArray, List.set_cons_zero, List.set_cons_succ]
          rfl
        refine pure_ (i := 2) (N := (some 66)) (v := ?_) (a' := ?_) #[true, true, true, false, false, false, false, false, false, false, false, false, false, false, false, false, false, false, false, false, false, false, false, false, false, false] rfl rfl (by kernel_rfl) (fun _ _ _ h => h) (Or.inl ⟨by rfl, ?_⟩) ?_ ?_
        rotate_left
        · intro w'
          go_simp
          with_reducible rfl
        rotate_left
        · simp only [Act.put, List.setIfInBounds_toArray, List.set_cons_zero, List.set_cons_succ]
          rfl
        refine pure_ (i := 3) (N := (some 67)) (v := ?_) (a' := ?_) #[true, true, true, true, false, false, false, false, false, false, false, false, false, false, false, false, false, false, false, false, false, false, false, false, false, false] rfl rfl (by kernel_rfl) (fun _ _ _ h => h) (Or.inl ⟨by rfl, ?_⟩) ?_ ?_
        rotate_left
        · intro w'
          go_simp
          with_reducible rfl
        rotate_left
        · simp only [Act.put, List.setIfInBounds_toArray, List.set_cons_zero, List.set_cons_succ]
          rfl
        refine pure_ (i := 4) (N := (some 68)) (v := ?_) (a' := ?_) #[true, true, true, true, true, false, false, false, false, false, false, false, false, false, false, false, false, false, false, false, false, false, false, false, false, false] rfl rfl (by kernel_rfl) (fun _ _ _ h => h) (Or.inl ⟨by rfl, ?_⟩) ?_ ?_
        rotate_left
        · intro w'
          go_simp
          with_reducible rfl
        rotate_left
        · simp only [Act.put, List.setIfInBounds_toArray, List.set_cons_zero, List.set_cons_succ]
          rfl
        refine pure_ (i := 5) (N := (some 69)) (v := ?_) (a' := ?_) #[true, true, true, true, true, true, false, false, false, false, false, false, false, false, false, false, false, false, false, false, false, false, false, false, false, false] rfl rfl (by kernel_rfl) (fun _ _ _ h => h) (Or.inl ⟨by rfl, ?_⟩) ?_ ?_
        rotate_left
        · intro w'
          go_simp
          with_reducible rfl
        rotate_left
        · simp only [Act.put, List.setIfInBounds_toArray, List.set_cons_zero, List.set_cons_succ]
          rfl
        refine pure_ (i := 6) (N := (some 70)) (v := ?_) (a' := ?_) #[true, true, true, true, true, true, true, false, false, false, false, false, false, false, false, false, false, false, false, false, false, false, false, false, false, false] rfl rfl (by kernel_rfl) (fun _ _ _ h => h) (Or.inl ⟨by rfl, ?_⟩) ?_ ?_
        rotate_left
        · intro w'
          go_simp
          with_reducible rfl
        rotate_left
        · simp only [Act.put, List.setIfInBounds_toArray, List.set_cons_zero, List.set_cons_succ]
          rfl
        refine pure_ (i := 7) (N := (some 71)) (v := ?_) (a' := ?_) #[true, true, true, true, true, true, true, true, false, false, false, false, false, false, false, false, false, false, false, false, false, false, false, false, false, false] rfl rfl (by kernel_rfl) (fun _ _ _ h => h) (Or.inl ⟨by rfl, ?_⟩) ?_ ?_
        rotate_left
        · intro w'
          go_simp
          with_reducible rfl
        rotate_left
        · simp only [Act.put, List.setIfInBounds_toArray, List.set_cons_zero, List.set_cons_succ]
          rfl
        refine pure_ (i := 8) (N := (some 72)) (v := ?_) (a' := ?_) #[true, true, true, true, true, true, true, true, true, false, false, false, false, false, false, false, false, false, false, false, false, false, false, false, false, false] rfl rfl (by kernel_rfl) (fun _ _ _ h => h) (Or.inl ⟨by rfl, ?_⟩) ?_ ?_
        rotate_left
        · intro w'
          go_simp
          with_reducible rfl
        rotate_left
        · simp only [Act.put, List.setIfInBounds_toArray, List.set_cons_zero, List.set_cons_succ]
          rfl
        refine pure_ (i := 9) (N := (some 73)) (v := ?_) (a' := ?_) #[true, true, true, true, true, true, true, true, true, true, false, false, false, false, false, false, false, false, false, false, false, false, false, false, false, false] rfl rfl (by kernel_rfl) (fun _ _ _ h => h) (Or.inl ⟨by rfl, ?_⟩) ?_ ?_
        rotate_left
        · intro w'
          go_simp
          with_reducible rfl
        rotate_left
        · simp only [Act.put, List.setIfInBounds_toArray, List.set_cons_zero, List.set_cons_succ]
          rfl
        refine pure_ (i := 10) (N := (some 74)) (v := ?_) (a' := ?_) #[true, true, true, true, true, true, true, true, true, true, true, false, false, false, false, false, false, false, false, false, false, false, false, false, false, false] rfl rfl (by kernel_rfl) (fun _ _ _ h => h) (Or.inl ⟨by rfl, ?_⟩) ?_ ?_
        rotate_left
        · intro w'
          go_simp
          with_reducible rfl
        rotate_left
        · simp only [Act.put, List.setIfInBounds_toArray, List.set_cons_zero, List.set_cons_succ]
          rfl
        refine take_ (i := 11) (N := (some 75)) (v := ?_) (a' := ?_) #[true, true, true, true, true, true, true, true, true, true, true, true, false, false, false, false, false, false, false, false, false, false, false, false, false, false] rfl rfl (by kernel_rfl) (fun _ _ _ h => h) (Or.inl ⟨by rfl, ?_⟩) hHeld ?_ ?_
        rotate_left
        · rintro w' ⟨s0, s1, s2, s3, s4⟩
          go_simp
          with_reducible rfl
        rotate_left
        · simp only [Act.put, List.setIfInBounds_toArray, List.set_cons_zero, List.set_cons_succ]
          rfl
        refine pure_ (i := 12) (N := (some 76)) (v := ?_) (a' := ?_) #[true, true, true, true, true, true, true, true, true, true, true, true, true, false, false, false, false, false, false, false, false, false, false, false, false, false] rfl rfl (by kernel_rfl) (fun _ _ _ h => h) (Or.inl ⟨by rfl, ?_⟩) ?_ ?_
        rotate_left
        · intro w'
          go_simp
          with_reducible rfl
        rotate_left
        · simp only [Act.put, List.setIfInBounds_toArray, List.set_cons_zero, List.set_cons_succ]
          rfl
        refine pure_ (i := 13) (N := (some 77)) (v := ?_) (a' := ?_) #[true, true, true, true, true, true, true, true, true, true, true, true, true, true, false, false, false, false, false, false, false, false, false, false, false, false] rfl rfl (by kernel_rfl) (fun _ _ _ h => h) (Or.inl ⟨by rfl, ?_⟩) ?_ ?_
        rotate_left
        · intro w'
          go_simp
          with_reducible rfl
        rotate_left
        · simp only [Act.put, List.setIfInBounds_toArray, List.set_cons_zero, List.set_cons_succ]
          rfl
        refine pure_ (i := 14) (N := (some 78)) (v := ?_) (a' := ?_) #[true, true, true, true, true, true, true, true, true, true, true, true, true, true, true, false, false, false, false, false, false, false, false, false, false, false] rfl rfl (by kernel_rfl) (fun _ _ _ h => h) (Or.inl ⟨by rfl, ?_⟩) ?_ ?_
        rotate_left
        · intro w'
          go_simp
          with_reducible rfl
        rotate_left
        · simp only [Act.put, List.setIfInBounds_toArray, List.set_cons_zero, List.set_cons_succ]
          rfl
        refine pure_ (i := 15) (N := (some 79)) (v := ?_) (a' := ?_) #[true, true, true, true, true, true, true, true, true, true, true, true, true, true, true, true, false, false, false, false, false, false, false, false, false, false] rfl rfl (by kernel_rfl) (fun _ _ _ h => h) (Or.inl ⟨by rfl, ?_⟩) ?_ ?_
        rotate_left
        · intro w'
          go_simp
          with_reducible rfl
        rotate_left
        · simp only [Act.put, List.setIfInBounds_toArray, List.set_cons_zero, List.set_cons_succ]
          rfl
        refine take_ (i := 16) (N := (some 80)) (v := ?_) (a' := ?_) #[true, true, true, true, true, true, true, true, true, true, true, true, true, true, true, true, true, false, false, false, false, false, false, false, false, false] rfl rfl (by kernel_rfl) (fun _ _ _ h => h) (Or.inl ⟨by rfl, ?_⟩) hHeld ?_ ?_
        rotate_left
        · rintro w' ⟨s0, s1, s2, s3, s4⟩
          go_simp
          with_reducible rfl
        rotate_left
        · simp only [Act.put, List.setIfInBounds_toArray, List.set_cons_zero, List.set_cons_succ]
          rfl
        refine pure_ (i := 17) (N := (some 81)) (v := ?_) (a' := ?_) #[true, true, true, true, true, true, true, true, true, true, true, true, true, true, true, true, true, true, false, false, false, false, false, false, false, false] rfl rfl (by kernel_rfl) (fun _ _ _ h => h) (Or.inl ⟨by rfl, ?_⟩) ?_ ?_
        rotate_left
        · intro w'
          go_simp
          with_reducible rfl
        rotate_left
        · simp only [Act.put, List.setIfInBounds_toArray, List.set_cons_zero, List.set_cons_succ]
          rfl
        refine pure_ (i := 18) (N := (some 82)) (v := ?_) (a' := ?_) #[true, true, true, true, true, true, true, true, true, true, true, true, true, true, true, true, true, true, true, false, false, false, false, false, false, false] rfl rfl (by kernel_rfl) (fun _ _ _ h => h) (Or.inl ⟨by rfl, ?_⟩) ?_ ?_
        rotate_left
        · intro w'
          go_simp
          with_reducible rfl
        rotate_left
        · simp only [Act.put, List.setIfInBounds_toArray, List.set_cons_zero, List.set_cons_succ]
          rfl
        refine pure_ (i := 19) (N := (some 83)) (v := ?_) (a' := ?_) #[true, true, true, true, true, true, true, true, true, true, true, true, true, true, true, true, true, true, true, true, false, false, false, false, false, false] rfl rfl (by kernel_rfl) (fun _ _ _ h => h) (Or.inl ⟨by rfl, ?_⟩) ?_ ?_
        rotate_left
        · intro w'
          go_simp
          with_reducible rfl
        rotate_left
        · simp only [Act.put, List.setIfInBounds_toArray, List.set_cons_zero, List.set_cons_succ]
          rfl
        refine pure_ (i := 20) (N := (some 84)) (v := ?_) (a' := ?_) #[true, true, true, true, true, true, true, true, true, true, true, true, true, true, true, true, true, true, true, true, true, false, false, false, false, false] rfl rfl (by kernel_rfl) (fun _ _ _ h => h) (Or.inl ⟨by rfl, ?_⟩) ?_ ?_
        rotate_left
        · intro w'
          go_simp
          with_reducible rfl
        rotate_left
        · simp only [Act.put, List.setIfInBounds_toArray, List.set_cons_zero, List.set_cons_succ]
          rfl
        refine pure_ (i := 21) (N := (some 85)) (v := ?_) (a' := ?_) #[true, true, true, true, true, true, true, true, true, true, true, true, true, true, true, true, true, true, true, true, true, true, false, false, false, false] rfl rfl (by kernel_rfl) (fun _ _ _ h => h) (Or.inl ⟨by rfl, ?_⟩) ?_ ?_
        rotate_left
        · intro w'
          go_simp
          with_reducible rfl
        rotate_left
        · simp only [Act.put, List.setIfInBounds_toArray, List.set_cons_zero, List.set_cons_succ]
          rfl
        refine take_ (i := 22) (N := (some 86)) (v := ?_) (a' := ?_) #[true, true, true, true, true, true, true, true, true, true, true, true, true, true, true, true, true, true, true, true, true, true, true, false, false, false] rfl rfl (by kernel_rfl) (fun _ _ _ h => h) (Or.inl ⟨by rfl, ?_⟩) hHeld ?_ ?_
        rotate_left
        · rintro w' ⟨s0, s1, s2, s3, s4⟩
          go_simp
          with_reducible rfl
        rotate_left
        · simp only [Act.put, List.setIfInBounds_toArray, List.set_cons_zero, List.set_cons_succ]
          rfl
        refine one_ (i := 23) (N := (some 87)) #[true, true, true, true, true, true, true, true, true, true, true, true, true, true, true, true, true, true, true, true, true, true, true, true, false, false] rfl rfl (by kernel_rfl) (by decide) (fun K hK => ?_)
        go_simp
        refine (ggoal_any HGBd.out.at_ tl).mono ?_
        rintro en w11 ⟨rfl, hb11⟩
        rw [HGL.out]
        have HB11 := Lib.hid hb11
        have HBs := Lib.hid (below_then HBd.out HBd.out.size hb11)
        clear hb11
        refine hK.out _ _ ⟨keep HB11.out hHeld.1, keep HB11.out hHeld.2.1, keep HB11.out hHeld.2.2.1, keep HB11.out hHeld.2.2.2.1, keep HB11.out hHeld.2.2.2.2⟩ (fun hHeld => ?_)
        clear hK K
        refine pure_ (i := 24) (N := (some 88)) (v := ?_) (a' := ?_) #[true, true, true, true, true, true, true, true, true, true, true, true, true, true, true, true, true, true, true, true, true, true, true, true, true, false] rfl rfl (by kernel_rfl) (fun _ _ _ h => h) (Or.inl ⟨by rfl, ?_⟩) ?_ ?_
        rotate_left
        · intro w'
          go_simp
          with_reducible rfl
        rotate_left
        · simp only [Act.put, List.setIfInBounds_toArray, List.set_cons_zero, List.set_cons_succ]
          rfl
        refine pure_ (i := 25) (N := (some 89)) (v := ?_) (a' := ?_) #[true, true, true, true, true, true, true, true, true, true, true, true, true, true, true, true, true, true, true, true, true, true, true, true, true, true] rfl rfl (by kernel_rfl) (fun _ _ _ h => h) (Or.inl ⟨by rfl, ?_⟩) ?_ ?_
        rotate_left
        · intro w'
          go_simp
          with_reducible rfl
        rotate_left
        · simp only [Act.put, List.setIfInBounds_toArray, List.set_cons_zero, List.set_cons_succ]
          rfl
        refine done_ (by kernel_rfl) ?_
        go_wp2
        have hI : P2 g p w6 (.int .i64 0) (.int .i64 1) w11 := ⟨0, 1, 0, HP0.out, rfl, rfl, rfl, rfl, HBs.out⟩
        have HI := Lib.hid hI
        clear hI hj0 hj1 hl0 hp0n hpz hpz' hne HBr HBd HGBd HB11
        go_loopw [11, 12] (fun v11 v12 wr => P2 g p w6 v11 v12 wr) (fun _ v12 _ => p.length - (intOf v12).toNat)
        case atStart => exact HI.out
        case round =>
          obtain ⟨k, z, y, hk, rfl, rfl, hz, hy, hB⟩ := hrel
          have HB2 := Lib.hid hB
          have HZ := Lib.hid hz
          have HY := Lib.hid hy
          have HK := Lib.hid hk
          clear hB HI hz hy hk
          by_cases hlt : z < (p.length : Int)
          · have HKL := Lib.hid (show k + 1 < p.length by have := HZ.out; omega)
            have hwz : IntKind.i64.wrap (z - 1) = (k : Int) := by
              rw [i64_w]
              have h1 := HZ.out
              have h2 := HPL.out
              have h3 := HKL.out
              rw [w64 (by omega) (by omega)]
              omega
            have hz0 : 0 ≤ IntKind.i64.wrap (z - 1) := by rw [hwz]; omega
            have hz1 : IntKind.i64.wrap (z - 1) < (p.length : Int) := by rw [hwz]; have := HKL.out; omega
            have hz2 : 0 ≤ z := by have := HZ.out; omega
            obtain ⟨ad1', e1, hcs⟩ := Kd.at_int HV1b.out (IntKind.i64.wrap (z - 1)) hz0 hz1
            injection e1 with e1
            subst e1
            obtain ⟨ad1', e1, hct⟩ := Kd.at_int HV1b.out z hz2 hlt
            injection e1 with e1
            subst e1
            obtain ⟨S, eS⟩ : ∃ S, rd p (k : Nat) = S := ⟨_, rfl⟩
            obtain ⟨T, eT⟩ : ∃ T, rd p ((k + 1 : Nat) : Int) = T := ⟨_, rfl⟩
            rw [show rd p (IntKind.i64.wrap (z - 1)) = S by rw [hwz]; exact eS] at hcs
            rw [show rd p z = T by rw [HZ.out]; exact eT] at hct
            have HCH := Lib.hid (show cheap g S T ≠ 1099511627777 by rw [← eS, ← eT]; exact HGOOD.out k HKL.out)
            have HYS := Lib.hid (show fsum g p (k + 1) = y + cheap g S T by rw [HY.out, ← eS, ← eT]; rfl)
            clear eS eT hwz
            replace hcs := keep HB2.out hcs
            have HCT := Lib.hid (keep HB2.out hct)
            have hlt' := eq_true hlt
            have hltd := decide_eq_true hlt
            clear hlt hct
            replace hz0 := eq_true hz0
            replace hz1 := eq_true hz1
            replace hz2 := eq_true hz2
            have HGBw := Lib.hid (HGB6.out.below HB2.out)
            obtain ⟨q0, q1, q2⟩ := HGBw.out.cells
            go_wp2
            refine start_ (n := 9) (S := fun w' => w'.cell? ⟨w.heap.size, 0, none⟩ = some (.slice A0 g.E.length c0) ∧ w'.cell? ⟨w.heap.size, 1, none⟩ = some (.slice A1 g.K.length c1) ∧ w'.cell? ⟨w.heap.size, 2, none⟩ = some (.slice A2 g.Gs.length c2) ∧ w'.cell? (ad1.add (IntKind.i64.wrap (z - 1)).toNat) = some (.int .i64 S)) (ds := []) #[false, false, false, false, false, false, false, false, false] (by kernel_rfl) rfl rfl ⟨q0, q1, q2, hcs⟩ (fun hHeld => ?_)
            have HGBe := Lib.hid (HGBw.out.below (Below.drew (Below.refl _ _)))
            have HBe := Lib.hid (Below.drew HB2.out)
            have HCTd : Hid (wr.drew.cell? (ad1.add z.toNat) = some (.int .i64 T)) := HCT
            clear q0 q1 q2 hcs HGBw HCT
            generalize wr.drew = w12 at HGBe HBe HCTd hHeld ⊢
            refine take_ (i := 0) (N := (some 96)) (v := ?_) (a' := ?_) #[true, false, false, false, false, false, false, false, false] rfl rfl (by kernel_rfl) (fun _ _ _ h => h) (Or.inl ⟨by rfl, ?_⟩) hHeld ?_ ?_
            rotate_left
            · rintro w' ⟨s0, s1, s2, s3⟩
              go_simp
              with_reducible rfl
            rotate_left
            · simp only [Act.put, List.setIfInBounds_toArray, List.set_cons_zero, List.set_cons_succ]
              rfl
            refine pure_ (i := 1) (N := (some 97)) (v := ?_) (a' := ?_) #[true, true, false, false, false, false, false, false, false] rfl rfl (by kernel_rfl) (fun _ _ _ h => h) (Or.inl ⟨by rfl, ?_⟩) ?_ ?_
            rotate_left
            · intro w'
              go_simp
              with_reducible rfl
            rotate_left
            · simp only [Act.put, List.setIfInBounds_toArray, List.set_cons_zero, List.set_cons_succ]
              rfl
            refine pure_ (i := 2) (N := (some 98)) (v := ?_) (a' := ?_) #[true, true, true, false, false, false, false, false, false] rfl rfl (by kernel_rfl) (fun _ _ _ h => h) (Or.inl ⟨by rfl, ?_⟩) ?_ ?_
            rotate_left
            · intro w'
              go_simp
              with_reducible rfl
            rotate_left
            · simp only [Act.put, List.setIfInBounds_toArray, List.set_cons_zero, List.set_cons_succ]
              rfl
            refine pure_ (i := 3) (N := (some 99)) (v := ?_) (a' := ?_) #[true, true, true, true, false, false, false, false, false] rfl rfl (by kernel_rfl) (fun _ _ _ h => h) (Or.inl ⟨by rfl, ?_⟩) ?_ ?_
            rotate_left
            · intro w'
              go_simp
              with_reducible rfl
            rotate_left
            · simp only [Act.put, List.setIfInBounds_toArray, List.set_cons_zero, List.set_cons_succ]
              rfl
            refine pure_ (i := 4) (N := (some 100)) (v := ?_) (a' := ?_) #[true, true, true, true, true, false, false, false, false] rfl rfl (by kernel_rfl) (fun _ _ _ h => h) (Or.inl ⟨by rfl, ?_⟩) ?_ ?_
            rotate_left
            · intro w'
              go_simp
              with_reducible rfl
            rotate_left
            · simp only [Act.put, List.setIfInBounds_toArray, List.set_cons_zero, List.set_cons_succ]
              rfl
            refine take_ (i := 5) (N := (some 101)) (v := ?_) (a' := ?_) #[true, true, true, true, true, true, false, false, false] rfl rfl (by kernel_rfl) (fun _ _ _ h => h) (Or.inl ⟨by rfl, ?_⟩) hHeld ?_ ?_
            rotate_left
            · rintro w' ⟨s0, s1, s2, s3⟩
              go_simp
              with_reducible rfl
            rotate_left
            · simp only [Act.put, List.setIfInBounds_toArray, List.set_cons_zero, List.set_cons_succ]
              rfl
            refine pure_ (i := 8) (N := (some 104)) (v := ?_) (a' := ?_) #[true, true, true, true, true, true, false, false, true] rfl rfl (by kernel_rfl) (fun _ _ _ h => h) (Or.inl ⟨by rfl, ?_⟩) ?_ ?_
            rotate_left
            · intro w'
              go_simp
              with_reducible rfl
            rotate_left
            · simp only [Act.put, List.setIfInBounds_toArray, List.set_cons_zero, List.set_cons_succ]
              rfl
            refine one_ (i := 6) (N := (some 102)) #[true, true, true, true, true, true, true, false, true] rfl rfl (by kernel_rfl) (by decide) (fun K hK => ?_)
            go_simp
            refine (gnext_any HGBe.out.at_ HL.out S).mono ?_
            rintro en w13 ⟨v, rfl, hv, hb13⟩
            obtain ⟨A3, d3, rfl, m3, g3⟩ := Kd.R_reads hv
            have HX3 := Lib.hid g3
            have HB13 := Lib.hid hb13
            have HBt := Lib.hid (below_then HBe.out HBe.out.size hb13)
            clear hb13 hv g3
            refine hK.out _ _ ⟨keep HB13.out hHeld.1, keep HB13.out hHeld.2.1, keep HB13.out hHeld.2.2.1, keep HB13.out hHeld.2.2.2⟩ (fun hHeld => ?_)
            clear hK K
            refine pure_ (i := 7) (N := (some 103)) (v := ?_) (a' := ?_) #[true, true, true, true, true, true, true, true, true] rfl rfl (by kernel_rfl) (fun _ _ _ h => h) (Or.inl ⟨by rfl, ?_⟩) ?_ ?_
            rotate_left
            · intro w'
              go_simp
              with_reducible rfl
            rotate_left
            · simp only [Act.put, List.setIfInBounds_toArray, List.set_cons_zero, List.set_cons_succ]
              rfl
            refine done_ (by kernel_rfl) ?_
            go_wp2
            have HCT2 := Lib.hid (keep HB13.out HCTd.out)
            clear HCTd HB13 HGBe HBe hHeld hz0 hz1
            have HXL := Lib.hid (nxt_len HL.out S)
            have HCE : Hid (cheap g S T = cheapFrom T (g.next S) 1099511627777) := Lib.hid rfl
            generalize g.next S = xs at HX3 HXL HCE ⊢
            have hI : P3 xs T (cheap g S T) w13 (.int .i64 1099511627777) (.int .i64 0) w13 := ⟨0, _, Nat.zero_le _, rfl, rfl, by rw [List.drop_zero]; exact HCE.out.symm, Below.refl _ _⟩
            have HI := Lib.hid hI
            clear hI
            go_loopw [13, 104] (fun v13 v104 wr2 => P3 xs T (cheap g S T) w13 v13 v104 wr2) (fun _ v104 _ => xs.length - (intOf v104).toNat)
            case atStart => exact HI.out
            case round =>
              obtain ⟨j, b, hj, rfl, rfl, hcf, hB⟩ := hrel
              have HB4 := Lib.hid hB
              have HCF := Lib.hid hcf
              have HJ := Lib.hid hj
              clear hB HI hcf hj
              have hxl := HXL.out
              by_cases hlt : j < xs.length
              · obtain ⟨ad3, rfl, hx0, hx1⟩ := at_T51 HX3.out (j : Int) (by omega) (by omega)
                have hrd : rd_T51 xs (j : Int) = xs[j] := by simp [rd_T51, hlt]
                rw [hrd, Int.toNat_natCast] at hx0 hx1
                clear hrd
                replace hx0 := keep HB4.out hx0
                replace hx1 := keep HB4.out hx1
                have hct := keep HB4.out HCT2.out
                have hctl := World.block_lt_of_cell? _ _ hct
                have hj0' := eq_true (show 0 ≤ (j : Int) by omega)
                have hj1' := eq_true (show (j : Int) < (xs.length : Int) by omega)
                have HCF2 : Hid (cheapFrom T (xs.drop (j + 1)) (if xs[j].f0 = T ∧ 0 ≤ xs[j].f1 then mn b xs[j].f1 else b) = cheap g S T) := by
                  have h := HCF.out
                  rw [List.drop_eq_getElem_cons hlt] at h
                  exact Lib.hid h
                obtain ⟨x0, ex0⟩ : ∃ x, xs[j].f0 = x := ⟨_, rfl⟩
                obtain ⟨x1, ex1⟩ : ∃ x, xs[j].f1 = x := ⟨_, rfl⟩
                rw [ex0, ex1] at HCF2
                rw [ex0] at hx0
                rw [ex1] at hx1
                clear ex0 ex1 HCF
                by_cases e0 : x0 = T
                · have f0 : (x0 == T) = true := by rw [e0]; simp
                  by_cases e1 : 0 ≤ x1
                  · have f1 : decide (0 ≤ x1) = true := decide_eq_true e1
                    have HCF3 := Lib.hid (show cheapFrom T (xs.drop (j + 1)) (mn b x1) = cheap g S T by have h := HCF2.out; rwa [if_pos ⟨e0, e1⟩] at h)
                    clear e0 e1 HCF2
                    go_wp2_with fail
                    go_quiet (fail)
                    go_wp2
                    go_roundw
                    case rel => exact ⟨j + 1, mn b x1, by omega, by go_num, rfl, HCF3.out, HB4.out.trans ((I.below_new _ _ _).mono HB4.out.size)⟩
                    case measure => simp [intOf]; omega
                  · have f1 : decide (0 ≤ x1) = false := decide_eq_false e1
                    have HCF3 := Lib.hid (show cheapFrom T (xs.drop (j + 1)) b = cheap g S T by have h := HCF2.out; rwa [if_neg (fun e => e1 e.2)] at h)
                    clear e0 e1 HCF2
                    go_wp2_with fail
                    go_quiet (fail)
                    go_wp2
                    go_roundw
                    case rel => exact ⟨j + 1, b, by omega, by go_num, rfl, HCF3.out, HB4.out.trans ((I.below_new _ _ _).mono HB4.out.size)⟩
                    case measure => simp [intOf]; omega
                · have f0 : (x0 == T) = false := by rw [beq_eq_false_iff_ne]; exact e0
                  have HCF3 := Lib.hid (show cheapFrom T (xs.drop (j + 1)) b = cheap g S T by have h := HCF2.out; rwa [if_neg (fun e => e0 e.1)] at h)
                  clear e0 HCF2
                  go_wp2_with fail
                  go_quiet (fail)
                  go_wp2
                  go_roundw
                  case rel => exact ⟨j + 1, b, by omega, by go_num, rfl, HCF3.out, HB4.out.trans ((I.below_new _ _ _).mono HB4.out.size)⟩
                  case measure => simp [intOf]; omega
              · obtain rfl : j = xs.length := by have := HJ.out; omega
                have hbc : b = cheap g S T := by
                  have h := HCF.out
                  rw [List.drop_length] at h
                  exact h
                have hcr := cheap_ran g S T
                have hne := HCH.out
                have hys := HYS.out
                have hle : fsum g p (k + 1) ≤ 1099511627777 := by
                  have h1 := fsum_mono g p (k + 1) (p.length - 1) (by have := HKL.out; omega)
                  have h2 := HFS.out
                  have h3 := HCB.out
                  have h4 : best g D ≤ 1099511627777 := (bestFrom_le g D g.E.length 0 1099511627777).1
                  omega
                have h0 := (fsum_ran g p k).1
                have hy0 : 0 ≤ y := by rw [HY.out]; exact h0
                rw [← hbc] at hcr hne hys
                have hbf : (b == 1099511627777) = false := by rw [beq_eq_false_iff_ne]; exact hne
                have hyw : wrap64 (y + b) = y + b := w64 (by omega) (by omega)
                have HYW := Lib.hid (show wrap64 (y + b) = fsum g p (k + 1) by rw [hyw]; exact hys.symm)
                have HZW := Lib.hid (show wrap64 (z + 1) = ((k + 1 : Nat) : Int) + 1 by
                  have h1 := HZ.out
                  have h2 := HPL.out
                  have h3 := HKL.out
                  rw [w64 (by omega) (by omega)]
                  omega)
                have HM := Lib.hid (show p.length - (wrap64 (z + 1)).toNat < p.length - z.toNat by have h1 := HZW.out; have h2 := HZ.out; have h3 := HKL.out; rw [h1, h2]; omega)
                clear hbc hcr hne hys hle h0 hy0 hyw HCF
                go_wp2
                go_roundw
                case rel => exact ⟨k + 1, wrap64 (z + 1), wrap64 (y + b), by have := HKL.out; omega, by go_num, by go_num, HZW.out, HYW.out, HBt.out.trans (HB4.out.mono HBt.out.size)⟩
                case measure => simp only [intOf]; exact HM.out
          · have hzp : z = (p.length : Int) := by have := HZ.out; have := HK.out; omega
            have hyc : (y == c) = true := by
              have h1 := HFS.out
              have h2 := HZ.out
              have : k = p.length - 1 := by omega
              rw [HY.out, this, h1]
              simp
            have hdf : decide (z < (p.length : Int)) = false := decide_eq_false hlt
            clear hlt hzp
            go_wp2
            go_ret
            exact ⟨rfl, HA6.out.trans (HB2.out.mono HA6.out.size)⟩
theorem optimal_law (h : GAt g w A0 c0 A1 c1 A2 c2) (s : Int) :
    Calls Try.prog 6 #[.agg #[.slice A0 g.E.length c0, .slice A1 g.K.length c1, .slice A2 g.Gs.length c2], .int .i64 s] w fun e w' => e = .returned (.bool true) ∧ Below w.heap.size w w' := by
  by_cases hg : g.large = true ∨ g.has s = false ∨ g.plain = false
  · exact plaw_out h s hg
  · simp only [not_or, Bool.not_eq_true, Bool.not_eq_false] at hg
    exact plaw_in h s hg.1 hg.2.1 hg.2.2
end Go.Proofs.Ytipdejalohmkpaa.Gr

namespace Go.Proofs.Ytipdejalohmkpaa.bestfirstOptimal
open Go.ChangeShapes Go.WideShapes Go.ChangeAt Go.RowKit
open Go.ChangeMaps (open_string shut_string)
set_option linter.unusedVariables false
theorem own : ownKnob Try.prog.godebug = none := by kernel_rfl
theorem laidOut : laidOutB Try.prog = true := by kernel_rfl
set_option maxRecDepth 100000 in
theorem lifted (os : Os) (started : os.Started) (H : Type) (enc : TypeId × Value → H) :
    ReturnsInHanded {} Try.checked os 6 .any (Rows.bestfirstOptimalSpec.pre6 enc Try.prog Try.f6 Rows.bestfirstOptimalRow.domain false) (Rows.bestfirstOptimalSpec.post enc Try.prog Try.f6 false true false false) := by
  refine returnsInHanded_of_change_sized (C := Try.checked) own started (by kernel_rfl) Try.func6
    (ChangeSpec.witness6 (enc := enc) (C := Try.checked) false ⟨#[], #[.agg #[.slice none 0 0, .slice none 0 0, .slice none 0 0], .int .i64 0], []⟩ 8 (by kernel_rfl) (by kernel_rfl) (by kernel_rfl) (by kernel_rfl)) ?_
  intro W base args ds gs before hval0 hW hcnd hsz0 _
  have hsz : (DataW.weightsEach Try.prog (Try.f6.params.toList ++ Rows.bestfirstOptimalSpec.plain.varTypes Try.prog) (ds ++ gs)).all (· ≤ reachBytes) = true := hsz0
  have hval : ∀ (j : Nat) t v, Try.f6.params[j]? = some t → args[j]? = some v → Value.okWide Try.prog W .any base t v := hval0
  have hW' := hW
  obtain ⟨p, q, hA0, hV, rfl, hfz, hnd⟩ := hW
  have hA : DataW.TrodAll enc Try.prog W 0 (fun _ => true) true Try.f6.params.toList args.toList ds p := hA0
  rw [Try.params6] at hA hval hsz
  obtain ⟨v0, vs0, d0, ds0, p0, q0, hargs, rfl, rfl, h0, r0⟩ := trodAll_cons hA
  obtain ⟨v1, vs1, d1, ds1, p1, q1, rfl, rfl, rfl, h1, r1⟩ := trodAll_cons r0
  obtain ⟨rfl, rfl, rfl⟩ := trodAll_nil r1
  obtain rfl : args = #[v0, v1] := by cases args; simp_all
  obtain ⟨rfl, rfl⟩ := trodVars_none hV
  obtain ⟨g0, A0, B0, C0, D0, E0, F0, rfl, w0⟩ := Gr.open_graph (hval 0 26 v0 rfl rfl) h0
  have k0 := h0
  have lt0 : ∀ x ∈ p0, x.block < W.heap.size := by obtain ⟨m, hm⟩ := k0; exact DataW.trod_lt m _ _ _ hm
  obtain ⟨a1, rfl, rfl, rfl, w1⟩ := open_int Try.underlying3 (hval 1 3 v1 rfl rfl) h1
  clear hA0 hval0 hsz0 hsz
  refine (Gr.optimal_law w0 a1).mono fun e W' ⟨he, bel⟩ => ?_
  subst he
  exact ⟨_, rfl, _, _, _, [], _, [], hW', trodAll_mk1 (shut_bool Try.underlying4 _), (trodAll_cons_mk (Below.trod laidOut (by kernel_rfl) (of_decide_eq_true (by kernel_rfl)) k0 bel lt0) (trodAll_cons_mk (shut_int Try.underlying3 w1) trodAll_mk0)), rfl, bel.frame _, fun h => by cases h⟩
theorem over : Rows.bestfirstOptimalRow.holds Try.pinned (OpenSpec.ofChange Rows.bestfirstOptimalSpec) :=
  OpenClaim.holds_of_wide 6 Try.f6 rfl rfl rfl rfl rfl rfl rfl ⟨rfl, rfl, rfl, rfl, rfl⟩ rfl rfl rfl rfl rfl (by kernel_rfl) Try.func6 (by kernel_rfl)
    (of_decide_eq_true (by kernel_rfl)) (by unfold Func.isWrapper; first | (rw [if_pos (by decide +kernel)]; kernel_rfl) | (rw [if_neg (by decide +kernel)]; exact ⟨rfl, rfl⟩))
    (fun os started H enc _ => lifted os started H enc)
end Go.Proofs.Ytipdejalohmkpaa.bestfirstOptimal
namespace Go.Proofs.Ytipdejalohmkpaa
/-- The row, under a short name, for the claim. -/
theorem bestfirstOptimal_holds : Rows.BestfirstOptimalSaid := bestfirstOptimal.over
#print axioms bestfirstOptimal_holds
end Go.Proofs.Ytipdejalohmkpaa
