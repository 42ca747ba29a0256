/- Part 3 of the proof of JournalDoes: Jj, Jsame, Jk, Jl, Jst, Jt. -/
import Derived.Test.YtiacjbandhedhaaBJournalDoes2
/- The statement's function about Frame answers true. -/
namespace Go.Proofs.Ytiacjbandhedhaa.Jn
open Go.RowKit Go.Proofs.YtiacjbandhedhaaW.PrintWords Go.Proofs.YtiacjbandhedhaaW.PrintLast Go.Proofs.YtiacjbandhedhaaW.PrintMore
set_option linter.unusedSimpArgs false
set_option linter.unusedVariables false
theorem beq_self_list (l : List UInt8) : (l == l) = true := by simp
set_option maxRecDepth 1000000 in
set_option maxHeartbeats 8000000 in
theorem frame_law {w : World} {A : Option Addr} {b : List UInt8} {c : Nat} (h : BC w A b) (hc : b.length ≤ c) :
    Calls Try.prog 3 #[.slice A b.length c] w fun e w' => e = .returned (.bool true) ∧ Below w.heap.size w w' := by
  have HC := Lib.hid h
  clear h
  by_cases hl : 9000 < b.length
  · go_enter Try.func3, Try.ntmps3
    go_wp2_with fail
    refine (awake_any _).mono ?_
    rintro e w1 ⟨rfl, hb1⟩
    have HB1 := Lib.hid hb1
    clear hb1
    go_wp2_with fail
    refine (awake_any _).mono ?_
    rintro e w2 ⟨rfl, hb2⟩
    have HB2 := Lib.hid (below_then HB1.out HB1.out.size hb2)
    clear hb2
    go_wp2
    go_ret
    exact ⟨rfl, HB2.out⟩
  · have hlm : b.length < 1000000000 := by omega
    go_enter Try.func3, Try.ntmps3
    go_wp2_with fail
    refine (awake_any _).mono ?_
    rintro e w1 ⟨rfl, hb1⟩
    have HB1 := Lib.hid (Below.drew hb1)
    have HC1 := Lib.hid (HC.out.below HB1.out)
    clear hb1
    go_wp2
    refine start_ (n := 8) (S := fun w' => True) (ds := []) #[false, false, false, false, false, false, false, false] (by kernel_rfl) rfl rfl trivial (fun hHeld => ?_)
    generalize w1.drew = w2 at HB1 HC1 ⊢
    have HB := Lib.hid HB1.out
    clear HB1
    refine pure_ (i := 0) (N := (some 11)) (v := ?_) (a' := ?_) #[true, false, false, false, false, false, false, false] rfl rfl (by kernel_rfl) (fun _ _ _ h => h) (Or.inl ⟨by rfl, ?_⟩) ?_ ?_
    rotate_left
    · intro w'
      go_simp
      with_reducible rfl
    rotate_left
    · simp only [Act.put, List.setIfInBounds_toArray, List.set_cons_zero, List.set_cons_succ]
      rfl
    refine pure_ (i := 3) (N := (some 14)) (v := ?_) (a' := ?_) #[true, false, false, true, false, false, false, false] rfl rfl (by kernel_rfl) (fun _ _ _ h => h) (Or.inl ⟨by rfl, ?_⟩) ?_ ?_
    rotate_left
    · intro w'
      go_simp
      with_reducible rfl
    rotate_left
    · simp only [Act.put, List.setIfInBounds_toArray, List.set_cons_zero, List.set_cons_succ]
      rfl
    refine one_ (i := 1) (N := (some 12)) #[true, true, false, true, false, false, false, false] rfl rfl (by kernel_rfl) (by decide) (fun K hK => ?_)
    go_simp
    refine (frame_any HC1.out hc).mono ?_
    rintro e w3 ⟨v3, rfl, hbo3, hb3⟩
    obtain ⟨A3, c3, hv3, hl3, hC3⟩ := hbo3.reads
    subst hv3
    replace HB := Lib.hid (below_then HB.out HB.out.size hb3)
    replace HC1 := Lib.hid (HC1.out.below hb3)
    have HF := Lib.hid hC3
    clear hbo3 hb3 hC3
    refine hK.out _ _ trivial (fun hHeld => ?_)
    clear hK K
    (try simp only [Act.put, List.setIfInBounds_toArray, List.set_cons_zero, List.set_cons_succ])
    refine two_ (i := 2) (j := 4) (Ni := (some 13)) (Nj := (some 15)) #[true, true, true, true, false, false, false, false] #[true, true, false, true, true, false, false, false] rfl rfl rfl rfl (by kernel_rfl) (by decide) (by decide) (fun K hK => ?_) (fun K hK => ?_)
    · have hcv := conv_b (c := c3) HF.out
      go_simp
      clear hcv
      refine hK.out _ _ trivial (fun hHeld => ?_)
      clear hK K
      (try simp only [Act.put, List.setIfInBounds_toArray, List.set_cons_zero, List.set_cons_succ])
      refine one_ (i := 4) (N := (some 15)) #[true, true, true, true, true, false, false, false] rfl rfl (by kernel_rfl) (by decide) (fun K hK => ?_)
      go_simp
      refine (rframe_any HC1.out hc hlm).mono ?_
      rintro e w4 ⟨v4, rfl, hbo4, hb4⟩
      obtain ⟨A4, c4, hv4, hl4, hC4⟩ := hbo4.reads
      subst hv4
      replace HB := Lib.hid (below_then HB.out HB.out.size hb4)
      replace HF := Lib.hid (HF.out.below hb4)
      have HG := Lib.hid hC4
      clear hbo4 hb4 hC4
      refine hK.out _ _ trivial (fun hHeld => ?_)
      clear hK K
      (try simp only [Act.put, List.setIfInBounds_toArray, List.set_cons_zero, List.set_cons_succ])
      refine one_ (i := 5) (N := (some 16)) #[true, true, true, true, true, true, false, false] rfl rfl (by kernel_rfl) (by decide) (fun K hK => ?_)
      have hcv := conv_b (c := c4) HG.out
      go_simp
      clear hcv
      refine hK.out _ _ trivial (fun hHeld => ?_)
      clear hK K
      (try simp only [Act.put, List.setIfInBounds_toArray, List.set_cons_zero, List.set_cons_succ])
      refine pure_ (i := 6) (N := (some 17)) (v := ?_) (a' := ?_) #[true, true, true, true, true, true, true, false] rfl rfl (by kernel_rfl) (fun _ _ _ h => h) (Or.inl ⟨by rfl, ?_⟩) ?_ ?_
      rotate_left
      · intro w'
        go_simp
        with_reducible rfl
      rotate_left
      · simp only [Act.put, List.setIfInBounds_toArray, List.set_cons_zero, List.set_cons_succ]
        rfl
      refine pure_ (i := 7) (N := (some 2)) (v := ?_) (a' := ?_) #[true, true, true, true, true, true, true, true] rfl rfl (by kernel_rfl) (fun _ _ _ h => h) (Or.inl ⟨by rfl, ?_⟩) ?_ ?_
      rotate_left
      · intro w'
        go_simp
        with_reducible rfl
      rotate_left
      · simp only [Act.put, List.setIfInBounds_toArray, List.set_cons_zero, List.set_cons_succ]
        rfl
      refine done_ (by kernel_rfl) ?_
      go_wp2
      go_ret
      exact ⟨by simp, HB.out⟩
    · go_simp
      refine (rframe_any HC1.out hc hlm).mono ?_
      rintro e w4 ⟨v4, rfl, hbo4, hb4⟩
      obtain ⟨A4, c4, hv4, hl4, hC4⟩ := hbo4.reads
      subst hv4
      replace HB := Lib.hid (below_then HB.out HB.out.size hb4)
      replace HF := Lib.hid (HF.out.below hb4)
      have HG := Lib.hid hC4
      clear hbo4 hb4 hC4
      refine hK.out _ _ trivial (fun hHeld => ?_)
      clear hK K
      (try simp only [Act.put, List.setIfInBounds_toArray, List.set_cons_zero, List.set_cons_succ])
      refine two_ (i := 2) (j := 5) (Ni := (some 13)) (Nj := (some 16)) #[true, true, true, true, true, false, false, false] #[true, true, false, true, true, true, false, false] rfl rfl rfl rfl (by kernel_rfl) (by decide) (by decide) (fun K hK => ?_) (fun K hK => ?_)
      · have hcv := conv_b (c := c3) HF.out
        go_simp
        clear hcv
        refine hK.out _ _ trivial (fun hHeld => ?_)
        clear hK K
        (try simp only [Act.put, List.setIfInBounds_toArray, List.set_cons_zero, List.set_cons_succ])
        refine one_ (i := 5) (N := (some 16)) #[true, true, true, true, true, true, false, false] rfl rfl (by kernel_rfl) (by decide) (fun K hK => ?_)
        have hcv := conv_b (c := c4) HG.out
        go_simp
        clear hcv
        refine hK.out _ _ trivial (fun hHeld => ?_)
        clear hK K
        (try simp only [Act.put, List.setIfInBounds_toArray, List.set_cons_zero, List.set_cons_succ])
        refine pure_ (i := 6) (N := (some 17)) (v := ?_) (a' := ?_) #[true, true, true, true, true, true, true, false] rfl rfl (by kernel_rfl) (fun _ _ _ h => h) (Or.inl ⟨by rfl, ?_⟩) ?_ ?_
        rotate_left
        · intro w'
          go_simp
          with_reducible rfl
        rotate_left
        · simp only [Act.put, List.setIfInBounds_toArray, List.set_cons_zero, List.set_cons_succ]
          rfl
        refine pure_ (i := 7) (N := (some 2)) (v := ?_) (a' := ?_) #[true, true, true, true, true, true, true, true] rfl rfl (by kernel_rfl) (fun _ _ _ h => h) (Or.inl ⟨by rfl, ?_⟩) ?_ ?_
        rotate_left
        · intro w'
          go_simp
          with_reducible rfl
        rotate_left
        · simp only [Act.put, List.setIfInBounds_toArray, List.set_cons_zero, List.set_cons_succ]
          rfl
        refine done_ (by kernel_rfl) ?_
        go_wp2
        go_ret
        exact ⟨by simp, HB.out⟩
      · have hcv := conv_b (c := c4) HG.out
        go_simp
        clear hcv
        refine hK.out _ _ trivial (fun hHeld => ?_)
        clear hK K
        (try simp only [Act.put, List.setIfInBounds_toArray, List.set_cons_zero, List.set_cons_succ])
        refine one_ (i := 2) (N := (some 13)) #[true, true, true, true, true, true, false, false] rfl rfl (by kernel_rfl) (by decide) (fun K hK => ?_)
        have hcv := conv_b (c := c3) HF.out
        go_simp
        clear hcv
        refine hK.out _ _ trivial (fun hHeld => ?_)
        clear hK K
        (try simp only [Act.put, List.setIfInBounds_toArray, List.set_cons_zero, List.set_cons_succ])
        refine pure_ (i := 6) (N := (some 17)) (v := ?_) (a' := ?_) #[true, true, true, true, true, true, true, false] rfl rfl (by kernel_rfl) (fun _ _ _ h => h) (Or.inl ⟨by rfl, ?_⟩) ?_ ?_
        rotate_left
        · intro w'
          go_simp
          with_reducible rfl
        rotate_left
        · simp only [Act.put, List.setIfInBounds_toArray, List.set_cons_zero, List.set_cons_succ]
          rfl
        refine pure_ (i := 7) (N := (some 2)) (v := ?_) (a' := ?_) #[true, true, true, true, true, true, true, true] rfl rfl (by kernel_rfl) (fun _ _ _ h => h) (Or.inl ⟨by rfl, ?_⟩) ?_ ?_
        rotate_left
        · intro w'
          go_simp
          with_reducible rfl
        rotate_left
        · simp only [Act.put, List.setIfInBounds_toArray, List.set_cons_zero, List.set_cons_succ]
          rfl
        refine done_ (by kernel_rfl) ?_
        go_wp2
        go_ret
        exact ⟨by simp, HB.out⟩
end Go.Proofs.Ytiacjbandhedhaa.Jn

/- The reference's Same: two lists of records are equal. -/
namespace Go.Proofs.Ytiacjbandhedhaa.Jn
open Go.RowKit Go.Proofs.YtiacjbandhedhaaW.PrintWords Go.Proofs.YtiacjbandhedhaaW.PrintLast Go.Proofs.YtiacjbandhedhaaW.PrintMore
set_option linter.unusedSimpArgs false
set_option linter.unusedVariables false
instance lawful_bytes : LawfulBEq ByteArray where
  eq_of_beq {a b} h := by
    cases a; cases b
    have h' : (_ == _) = true := h
    congr 1
    exact eq_of_beq h'
  rfl {a} := by
    cases a
    rename_i d
    exact beq_self_eq_true d

theorem str_inj {a b : List UInt8} (h : str a = str b) : a = b := by
  have h1 : (str a).data = (str b).data := by rw [h]
  have h2 : a.toArray = b.toArray := h1
  have h3 := congrArg Array.toList h2
  simpa using h3
theorem at_bs {w : World} {A : Option Addr} {l : List (List UInt8)} (h : kbs.C w A l.length (l.map ib)) (i : Nat) (hi : i < l.length) :
    ∃ (ad : Addr) (B : Option Addr) (c : Nat), A = some ad ∧ w.cell? (ad.add i) = some (.slice B l[i].length c) ∧ l[i].length ≤ c ∧ BC w B l[i] := by
  obtain ⟨ad, cs, e, _, hK, hc⟩ := Kd.C_get h [] (i : Int) (by omega) (by omega)
  rw [Int.toNat_natCast] at hK hc
  rw [show (l.map ib).getD i [] = ib l[i] by simp [hi]] at hK
  obtain ⟨B, c, rfl, hl, hr⟩ := hK
  have h0 := hc 0 _ rfl
  rw [show i * kbs.sz + 0 = i by show i * 1 + 0 = i; omega] at h0
  have hlb := ib_length l[i]
  rw [hlb] at h0 hl
  rw [hlb] at hr
  exact ⟨ad, B, c, e, h0, hl, hr⟩
def SmRel (a b : List (List UInt8)) (w : World) (v13 : Value) (wr : World) : Prop :=
  ∃ i : Nat, i ≤ a.length ∧ v13 = .int .i64 i ∧ a.take i = b.take i ∧ Below w.heap.size w wr
theorem take_all {α : Type} {a b : List α} {i : Nat} (h : a.take i = b.take i) (hi : i < a.length) (hj : i < b.length) (e : a[i] = b[i]) : a.take (i + 1) = b.take (i + 1) := by
  rw [List.take_succ_eq_append_getElem hi, List.take_succ_eq_append_getElem hj, h, e]
set_option maxRecDepth 1000000 in
set_option maxHeartbeats 4000000 in
theorem same_any {w : World} {A B : Option Addr} {a b : List (List UInt8)} {c d : Nat} (ha : kbs.C w A a.length (a.map ib)) (hb : kbs.C w B b.length (b.map ib)) :
    Calls Try.prog 17 #[.slice A a.length c, .slice B b.length d] w fun e w' => e = .returned (.bool (decide (a = b))) ∧ Below w.heap.size w w' := by
  have HA := Lib.hid ha
  have HB := Lib.hid hb
  have hma := ha.2.1
  clear ha hb
  by_cases hl : a.length = b.length
  · have HL := Lib.hid hl
    have HI := Lib.hid (show SmRel a b w (.int .i64 0) w from ⟨0, Nat.zero_le _, rfl, by simp, Below.refl _ _⟩)
    have hl2 : ((a.length : Int) != (b.length : Int)) = false := by simp [hl]
    clear hl
    go_enter Try.func17, Try.ntmps17
    go_wp2
    go_loopw [13] (fun v13 wr => SmRel a b w v13 wr) (fun v13 _ => a.length - (intOf v13).toNat)
    case atStart => exact HI.out
    case round =>
      clear HI
      obtain ⟨i, hi, rfl, ht, hB⟩ := hrel
      have HT := Lib.hid ht
      have HBr := Lib.hid hB
      clear ht hB
      by_cases hlt : i < a.length
      · have hjt : i < b.length := by rw [← HL.out]; exact hlt
        have hi0 : 0 ≤ (i : Int) := by omega
        have hi1 : (i : Int) < (a.length : Int) := by omega
        have hi2 : (i : Int) < (b.length : Int) := by omega
        obtain ⟨ad, B1, e1, rfl, h1, l1, k1⟩ := at_bs HA.out i hlt
        obtain ⟨bd, B2, e2, rfl, h2, l2, k2⟩ := at_bs HB.out i hjt
        have HQ := Lib.hid (show (wr.drew.cell? (ad.add i) = some (.slice B1 a[i].length e1)) ∧ (wr.drew.cell? (bd.add i) = some (.slice B2 b[i].length e2)) ∧ BC wr.drew B1 a[i] ∧ BC wr.drew B2 b[i] from
          ⟨(HBr.out.cell (World.block_lt_of_cell? w _ h1)).trans h1, (HBr.out.cell (World.block_lt_of_cell? w _ h2)).trans h2, (k1.below HBr.out).below (Below.drew (Below.refl _ _)), (k2.below HBr.out).below (Below.drew (Below.refl _ _))⟩)
        have HTN := Lib.hid (take_all HT.out hlt hjt)
        have HNE := Lib.hid (show a[i] ≠ b[i] → a ≠ b from fun h e => h (by subst e; rfl))
        obtain ⟨x, hx⟩ : ∃ x, a[i] = x := ⟨_, rfl⟩
        obtain ⟨y, hy⟩ : ∃ y, b[i] = y := ⟨_, rfl⟩
        rw [hx, hy] at HQ HTN HNE
        clear h1 h2 l1 l2 k1 k2 hx hy
        have HBd := Lib.hid (show Below w.heap.size w wr.drew from Below.drew HBr.out)
        by_cases hxy : x = y
        · have hst : ((str x).toList == (str y).toList) = true := by rw [hxy]; simp
          have HE := Lib.hid (HTN.out hxy)
          clear hxy HTN HNE
          go_wp2
          refine start_ (n := 11) (S := fun w' => w'.cell? (ad.add i) = some (.slice B1 x.length e1) ∧ w'.cell? (bd.add i) = some (.slice B2 y.length e2) ∧ BC w' B1 x ∧ BC w' B2 y) (ds := []) #[false, false, false, false, false, false, false, false, false, false, false] (by kernel_rfl) rfl rfl HQ.out (fun hHeld => ?_)
          clear HQ
          generalize wr.drew = w2 at HBd hHeld ⊢
          refine pure_ (i := 0) (N := (some 16)) (v := ?_) (a' := ?_) #[true, false, false, false, false, false, false, false, false, false, false] rfl rfl (by kernel_rfl) (fun _ _ _ h => h) (Or.inl ⟨by rfl, ?_⟩) ?_ ?_
          rotate_left
          · intro w'
            go_simp
            with_reducible rfl
          rotate_left
          · simp only [Act.put, List.setIfInBounds_toArray, List.set_cons_zero, List.set_cons_succ]
            rfl
          refine pure_ (i := 1) (N := (some 17)) (v := ?_) (a' := ?_) #[true, true, false, false, false, false, false, false, false, false, false] rfl rfl (by kernel_rfl) (fun _ _ _ h => h) (Or.inl ⟨by rfl, ?_⟩) ?_ ?_
          rotate_left
          · intro w'
            go_simp
            with_reducible rfl
          rotate_left
          · simp only [Act.put, List.setIfInBounds_toArray, List.set_cons_zero, List.set_cons_succ]
            rfl
          refine pure_ (i := 2) (N := (some 18)) (v := ?_) (a' := ?_) #[true, true, true, false, false, false, false, false, false, false, false] rfl rfl (by kernel_rfl) (fun _ _ _ h => h) (Or.inl ⟨by rfl, ?_⟩) ?_ ?_
          rotate_left
          · intro w'
            go_simp
            with_reducible rfl
          rotate_left
          · simp only [Act.put, List.setIfInBounds_toArray, List.set_cons_zero, List.set_cons_succ]
            rfl
          refine take_ (i := 3) (N := (some 19)) (v := ?_) (a' := ?_) #[true, true, true, true, false, false, false, false, false, false, false] rfl rfl (by kernel_rfl) (fun _ _ _ h => h) (Or.inl ⟨by rfl, ?_⟩) hHeld ?_ ?_
          rotate_left
          · rintro w' ⟨s0, s1, s2, s3⟩
            go_simp
            with_reducible rfl
          rotate_left
          · simp only [Act.put, List.setIfInBounds_toArray, List.set_cons_zero, List.set_cons_succ]
            rfl
          refine take_ (i := 4) (N := (some 20)) (v := ?_) (a' := ?_) #[true, true, true, true, true, false, false, false, false, false, false] rfl rfl (by kernel_rfl) (fun _ _ _ h => h) (Or.inl ⟨by rfl, ?_⟩) hHeld ?_ ?_
          rotate_left
          · rintro w' ⟨s0, s1, s2, s3⟩
            have hcv := conv_b (c := e1) s2
            go_simp
            with_reducible rfl
          rotate_left
          · simp only [Act.put, List.setIfInBounds_toArray, List.set_cons_zero, List.set_cons_succ]
            rfl
          refine pure_ (i := 5) (N := (some 21)) (v := ?_) (a' := ?_) #[true, true, true, true, true, true, false, false, false, false, false] rfl rfl (by kernel_rfl) (fun _ _ _ h => h) (Or.inl ⟨by rfl, ?_⟩) ?_ ?_
          rotate_left
          · intro w'
            go_simp
            with_reducible rfl
          rotate_left
          · simp only [Act.put, List.setIfInBounds_toArray, List.set_cons_zero, List.set_cons_succ]
            rfl
          refine pure_ (i := 6) (N := (some 22)) (v := ?_) (a' := ?_) #[true, true, true, true, true, true, true, false, false, false, false] rfl rfl (by kernel_rfl) (fun _ _ _ h => h) (Or.inl ⟨by rfl, ?_⟩) ?_ ?_
          rotate_left
          · intro w'
            go_simp
            with_reducible rfl
          rotate_left
          · simp only [Act.put, List.setIfInBounds_toArray, List.set_cons_zero, List.set_cons_succ]
            rfl
          refine pure_ (i := 7) (N := (some 23)) (v := ?_) (a' := ?_) #[true, true, true, true, true, true, true, true, false, false, false] rfl rfl (by kernel_rfl) (fun _ _ _ h => h) (Or.inl ⟨by rfl, ?_⟩) ?_ ?_
          rotate_left
          · intro w'
            go_simp
            with_reducible rfl
          rotate_left
          · simp only [Act.put, List.setIfInBounds_toArray, List.set_cons_zero, List.set_cons_succ]
            rfl
          refine take_ (i := 8) (N := (some 24)) (v := ?_) (a' := ?_) #[true, true, true, true, true, true, true, true, true, false, false] rfl rfl (by kernel_rfl) (fun _ _ _ h => h) (Or.inl ⟨by rfl, ?_⟩) hHeld ?_ ?_
          rotate_left
          · rintro w' ⟨s0, s1, s2, s3⟩
            go_simp
            with_reducible rfl
          rotate_left
          · simp only [Act.put, List.setIfInBounds_toArray, List.set_cons_zero, List.set_cons_succ]
            rfl
          refine take_ (i := 9) (N := (some 25)) (v := ?_) (a' := ?_) #[true, true, true, true, true, true, true, true, true, true, false] rfl rfl (by kernel_rfl) (fun _ _ _ h => h) (Or.inl ⟨by rfl, ?_⟩) hHeld ?_ ?_
          rotate_left
          · rintro w' ⟨s0, s1, s2, s3⟩
            have hcv := conv_b (c := e2) s3
            go_simp
            with_reducible rfl
          rotate_left
          · simp only [Act.put, List.setIfInBounds_toArray, List.set_cons_zero, List.set_cons_succ]
            rfl
          refine pure_ (i := 10) (N := (some 26)) (v := ?_) (a' := ?_) #[true, true, true, true, true, true, true, true, true, true, true] rfl rfl (by kernel_rfl) (fun _ _ _ h => h) (Or.inl ⟨by rfl, ?_⟩) ?_ ?_
          rotate_left
          · intro w'
            go_simp
            with_reducible rfl
          rotate_left
          · simp only [Act.put, List.setIfInBounds_toArray, List.set_cons_zero, List.set_cons_succ]
            rfl
          refine done_ (by kernel_rfl) ?_
          go_wp2
          go_roundw
          case rel => exact ⟨i + 1, hlt, by go_num, HE.out, HBd.out⟩
          case measure => simp [intOf]; omega
        · have hst : ((str x).toList == (str y).toList) = false := by
            rw [← beq_toListBytes, beq_eq_false_iff_ne]
            exact fun h => hxy (str_inj h)
          have HE := Lib.hid (HNE.out hxy)
          clear hxy HTN HNE
          go_wp2
          refine start_ (n := 11) (S := fun w' => w'.cell? (ad.add i) = some (.slice B1 x.length e1) ∧ w'.cell? (bd.add i) = some (.slice B2 y.length e2) ∧ BC w' B1 x ∧ BC w' B2 y) (ds := []) #[false, false, false, false, false, false, false, false, false, false, false] (by kernel_rfl) rfl rfl HQ.out (fun hHeld => ?_)
          clear HQ
          generalize wr.drew = w2 at HBd hHeld ⊢
          refine pure_ (i := 0) (N := (some 16)) (v := ?_) (a' := ?_) #[true, false, false, false, false, false, false, false, false, false, false] rfl rfl (by kernel_rfl) (fun _ _ _ h => h) (Or.inl ⟨by rfl, ?_⟩) ?_ ?_
          rotate_left
          · intro w'
            go_simp
            with_reducible rfl
          rotate_left
          · simp only [Act.put, List.setIfInBounds_toArray, List.set_cons_zero, List.set_cons_succ]
            rfl
          refine pure_ (i := 1) (N := (some 17)) (v := ?_) (a' := ?_) #[true, true, false, false, false, false, false, false, false, false, false] rfl rfl (by kernel_rfl) (fun _ _ _ h => h) (Or.inl ⟨by rfl, ?_⟩) ?_ ?_
          rotate_left
          · intro w'
            go_simp
            with_reducible rfl
          rotate_left
          · simp only [Act.put, List.setIfInBounds_toArray, List.set_cons_zero, List.set_cons_succ]
            rfl
          refine pure_ (i := 2) (N := (some 18)) (v := ?_) (a' := ?_) #[true, true, true, false, false, false, false, false, false, false, false] rfl rfl (by kernel_rfl) (fun _ _ _ h => h) (Or.inl ⟨by rfl, ?_⟩) ?_ ?_
          rotate_left
          · intro w'
            go_simp
            with_reducible rfl
          rotate_left
          · simp only [Act.put, List.setIfInBounds_toArray, List.set_cons_zero, List.set_cons_succ]
            rfl
          refine take_ (i := 3) (N := (some 19)) (v := ?_) (a' := ?_) #[true, true, true, true, false, false, false, false, false, false, false] rfl rfl (by kernel_rfl) (fun _ _ _ h => h) (Or.inl ⟨by rfl, ?_⟩) hHeld ?_ ?_
          rotate_left
          · rintro w' ⟨s0, s1, s2, s3⟩
            go_simp
            with_reducible rfl
          rotate_left
          · simp only [Act.put, List.setIfInBounds_toArray, List.set_cons_zero, List.set_cons_succ]
            rfl
          refine take_ (i := 4) (N := (some 20)) (v := ?_) (a' := ?_) #[true, true, true, true, true, false, false, false, false, false, false] rfl rfl (by kernel_rfl) (fun _ _ _ h => h) (Or.inl ⟨by rfl, ?_⟩) hHeld ?_ ?_
          rotate_left
          · rintro w' ⟨s0, s1, s2, s3⟩
            have hcv := conv_b (c := e1) s2
            go_simp
            with_reducible rfl
          rotate_left
          · simp only [Act.put, List.setIfInBounds_toArray, List.set_cons_zero, List.set_cons_succ]
            rfl
          refine pure_ (i := 5) (N := (some 21)) (v := ?_) (a' := ?_) #[true, true, true, true, true, true, false, false, false, false, false] rfl rfl (by kernel_rfl) (fun _ _ _ h => h) (Or.inl ⟨by rfl, ?_⟩) ?_ ?_
          rotate_left
          · intro w'
            go_simp
            with_reducible rfl
          rotate_left
          · simp only [Act.put, List.setIfInBounds_toArray, List.set_cons_zero, List.set_cons_succ]
            rfl
          refine pure_ (i := 6) (N := (some 22)) (v := ?_) (a' := ?_) #[true, true, true, true, true, true, true, false, false, false, false] rfl rfl (by kernel_rfl) (fun _ _ _ h => h) (Or.inl ⟨by rfl, ?_⟩) ?_ ?_
          rotate_left
          · intro w'
            go_simp
            with_reducible rfl
          rotate_left
          · simp only [Act.put, List.setIfInBounds_toArray, List.set_cons_zero, List.set_cons_succ]
            rfl
          refine pure_ (i := 7) (N := (some 23)) (v := ?_) (a' := ?_) #[true, true, true, true, true, true, true, true, false, false, false] rfl rfl (by kernel_rfl) (fun _ _ _ h => h) (Or.inl ⟨by rfl, ?_⟩) ?_ ?_
          rotate_left
          · intro w'
            go_simp
            with_reducible rfl
          rotate_left
          · simp only [Act.put, List.setIfInBounds_toArray, List.set_cons_zero, List.set_cons_succ]
            rfl
          refine take_ (i := 8) (N := (some 24)) (v := ?_) (a' := ?_) #[true, true, true, true, true, true, true, true, true, false, false] rfl rfl (by kernel_rfl) (fun _ _ _ h => h) (Or.inl ⟨by rfl, ?_⟩) hHeld ?_ ?_
          rotate_left
          · rintro w' ⟨s0, s1, s2, s3⟩
            go_simp
            with_reducible rfl
          rotate_left
          · simp only [Act.put, List.setIfInBounds_toArray, List.set_cons_zero, List.set_cons_succ]
            rfl
          refine take_ (i := 9) (N := (some 25)) (v := ?_) (a' := ?_) #[true, true, true, true, true, true, true, true, true, true, false] rfl rfl (by kernel_rfl) (fun _ _ _ h => h) (Or.inl ⟨by rfl, ?_⟩) hHeld ?_ ?_
          rotate_left
          · rintro w' ⟨s0, s1, s2, s3⟩
            have hcv := conv_b (c := e2) s3
            go_simp
            with_reducible rfl
          rotate_left
          · simp only [Act.put, List.setIfInBounds_toArray, List.set_cons_zero, List.set_cons_succ]
            rfl
          refine pure_ (i := 10) (N := (some 26)) (v := ?_) (a' := ?_) #[true, true, true, true, true, true, true, true, true, true, true] rfl rfl (by kernel_rfl) (fun _ _ _ h => h) (Or.inl ⟨by rfl, ?_⟩) ?_ ?_
          rotate_left
          · intro w'
            go_simp
            with_reducible rfl
          rotate_left
          · simp only [Act.put, List.setIfInBounds_toArray, List.set_cons_zero, List.set_cons_succ]
            rfl
          refine done_ (by kernel_rfl) ?_
          go_wp2
          go_ret
          exact ⟨by rw [decide_eq_false HE.out]; rfl, HBd.out⟩
      · have hin : i = a.length := by omega
        have HE := Lib.hid (show a = b by
          have h := HT.out
          rw [hin, List.take_length] at h
          rw [h]
          conv => rhs; rw [← List.take_length (l := b)]
          rw [HL.out])
        go_wp2
        go_ret
        exact ⟨by rw [decide_eq_true HE.out]; rfl, HBr.out⟩
  · have hl2 : ((a.length : Int) != (b.length : Int)) = true := by rw [bne_iff_ne]; omega
    have HE := Lib.hid (show a ≠ b from fun e => hl (by rw [e]))
    clear hl
    go_enter Try.func17, Try.ntmps17
    go_wp2
    go_ret
    exact ⟨by rw [decide_eq_false HE.out]; rfl, Below.refl _ _⟩
end Go.Proofs.Ytiacjbandhedhaa.Jn

/- The reference's Scan: the same records and length. -/
namespace Go.Proofs.Ytiacjbandhedhaa.Jn
open Go.RowKit Go.Proofs.YtiacjbandhedhaaW.PrintWords Go.Proofs.YtiacjbandhedhaaW.PrintLast Go.Proofs.YtiacjbandhedhaaW.PrintMore
set_option linter.unusedSimpArgs false
set_option linter.unusedVariables false
theorem num4_take (b : List UInt8) (m : Nat) (h : 4 ≤ m) : num4 (b.take m) = num4 b := by
  have e : ∀ i, i < 4 → (b.take m).getD i 0 = b.getD i 0 := by
    intro i hi
    simp only [List.getD_eq_getElem?_getD, List.getElem?_take]
    rw [if_pos (by omega)]
  unfold num4
  rw [e 0 (by omega), e 1 (by omega), e 2 (by omega), e 3 (by omega)]
set_option maxRecDepth 1000000 in
set_option maxHeartbeats 8000000 in
theorem rscan_any {w : World} {A : Option Addr} {b : List UInt8} {c : Nat} (h : BC w A b) (hc : b.length ≤ c) (hb : b.length < 1000000000) :
    Calls Try.prog 16 #[.slice A b.length c] w (ScPost b w) := by
  have HC := Lib.hid h
  have HI := Lib.hid (show ScRel b w (b.length + 1) (.slice (some ⟨w.heap.size, 0, none⟩) 0 0) (.int .i64 0) (w.alloc (.cells #[] 22)) from ⟨0, [], _, rfl, by omega, by omega, rfl, by rw [List.drop_zero, List.nil_append, Nat.zero_add], by simp,
    ⟨fun _ _ => trivial, [], ⟨rfl, .inr ⟨w.heap.size, 0, #[], rfl, Nat.le_refl _, blk_new w _, Nat.le_refl _, by simp [maxLen], rfl, rfl⟩⟩, ⟨rfl, fun j p hj => by simp at hj⟩⟩, (Below.refl _ _).alloc (Nat.le_refl _) _⟩)
  clear h
  go_enter Try.func16, Try.ntmps16
  go_wp2
  go_loopg [4, 5] (b.length + 1) (fun kq v4 v5 wr => ScRel b w kq v4 v5 wr)
  case atStart => exact HI.out
  case round =>
    clear HI
    obtain ⟨at_, rs, vo, rfl, hat, hk, rfl, hsc, hrs, hR, hB⟩ := hrel
    cases gk with
    | zero => omega
    | succ k1 =>
    have HR := Lib.hid hR
    have HB := Lib.hid hB
    have HSC := Lib.hid hsc
    have HCw := Lib.hid (HC.out.below hB)
    clear hR hB hsc
    obtain ⟨r, hr⟩ : ∃ r, b.drop at_ = r := ⟨_, rfl⟩
    rw [hr] at HSC
    have hrl : b.length - at_ = r.length := by rw [← hr, List.length_drop]
    have HDR := Lib.hid hr
    have HRL := Lib.hid hrl
    clear hr
    by_cases h8 : r.length < 8
    · have HSZ := Lib.hid (show scan (k1 + 1) r = ([], 0) by unfold scan; rw [if_pos h8])
      have HPOST := Lib.hid (sc_end HSC.out HSZ.out HR.out HB.out)
      have g8 : decide (8 ≤ (b.length : Int) - (at_ : Int)) = false := decide_eq_false (by omega)
      clear HSZ HSC HR HB hrl
      go_wp2
      go_ret2
      exact HPOST.out
    · have g8 : decide (8 ≤ (b.length : Int) - (at_ : Int)) = true := decide_eq_true (by omega)
      obtain ⟨A1, hcut1, hC1⟩ := cut_mid_b A b.length c at_ (at_ + 4) (at_ : Int) ((at_ : Int) + 4) rfl (by omega) (by omega) (by omega) hc
      have HC1 := Lib.hid (hC1 wr b rfl HCw.out)
      rw [Nat.add_sub_cancel_left] at hcut1
      rw [List.drop_take, Nat.add_sub_cancel_left, HDR.out] at HC1
      have hl4 : (r.take 4).length = 4 := by rw [List.length_take]; omega
      have HN1 := Lib.hid (num_any (c := c - at_) HC1.out (by omega) (by omega))
      rw [hl4, num4_take r 4 (by omega)] at HN1
      clear hC1 hl4 hrl
      go_wp2_with fail
      refine HN1.out.mono ?_
      rintro e w2 ⟨rfl, hd2⟩
      have HC2 := Lib.hid (HCw.out.below hd2.below)
      have HR2 := Lib.hid (Kd.R_below HR.out hd2.below)
      have HBW2 := Lib.hid (below_then HB.out HB.out.size hd2.below)
      have hnl := num4_lt r
      have HSZ := Lib.hid (show scan (k1 + 1) r = if num4 r < 1 ∨ 8192 < num4 r ∨ r.length - 8 < num4 r then ([], 0) else if chk ((r.drop 8).take (num4 r)) = num4 (r.drop 4) then
        (((r.drop 8).take (num4 r)) :: (scan k1 (r.drop (8 + num4 r))).1, 8 + num4 r + (scan k1 (r.drop (8 + num4 r))).2) else ([], 0) by
          conv => lhs; unfold scan
          rw [if_neg h8])
      obtain ⟨n, hn⟩ : ∃ n, num4 r = n := ⟨_, rfl⟩
      rw [hn] at HSZ hnl ⊢
      clear hn hd2 HR HB HC1 HCw HN1 hcut1
      have hrb : r.length < 1000000000 := by have := HRL.out; omega
      by_cases h1 : n < 1
      · have HPOST := Lib.hid (sc_end HSC.out (HSZ.out.trans (if_pos (.inl h1))) HR2.out HBW2.out)
        have g1 : decide ((n : Int) < 1) = true := decide_eq_true (by omega)
        clear HSZ HSC HR2 HBW2
        go_wp2
        go_ret2
        exact HPOST.out
      · have g1 : decide ((n : Int) < 1) = false := decide_eq_false (by omega)
        by_cases h2 : 8192 < n
        · have HPOST := Lib.hid (sc_end HSC.out (HSZ.out.trans (if_pos (.inr (.inl h2)))) HR2.out HBW2.out)
          have g2 : decide (8192 < (n : Int)) = true := decide_eq_true (by omega)
          clear HSZ HSC HR2 HBW2
          go_wp2
          go_ret2
          exact HPOST.out
        · have g2 : decide (8192 < (n : Int)) = false := decide_eq_false (by omega)
          by_cases h3 : r.length - 8 < n
          · have HPOST := Lib.hid (sc_end HSC.out (HSZ.out.trans (if_pos (.inr (.inr h3)))) HR2.out HBW2.out)
            have g3 : decide ((b.length : Int) - (at_ : Int) - 8 < (n : Int)) = true := decide_eq_true (by have := HRL.out; omega)
            clear HSZ HSC HR2 HBW2
            go_wp2
            go_ret2
            exact HPOST.out
          · have g3 : decide ((b.length : Int) - (at_ : Int) - 8 < (n : Int)) = false := decide_eq_false (by have := HRL.out; omega)
            have HSZ2 := Lib.hid (HSZ.out.trans (if_neg (by omega)))
            have hbl := HRL.out
            obtain ⟨A2, hcut2, hC2⟩ := cut_mid_b A b.length c (at_ + 8) (at_ + 8 + n) ((at_ : Int) + 8) ((at_ : Int) + 8 + (n : Int)) (by omega) (by omega) (by omega) (by omega) hc
            have HCx := Lib.hid (hC2 w2 b rfl HC2.out)
            obtain ⟨A4, hcut4, hC4⟩ := cut_mid_b A b.length c (at_ + 4) (at_ + 8) (IntKind.i64.wrap ((at_ : Int) + 4)) (IntKind.i64.wrap ((at_ : Int) + 8)) (by rw [i64w (by omega) (by omega)]; omega) (by rw [i64w (by omega) (by omega)]; omega) (by omega) (by omega) hc
            have HC4 := Lib.hid (hC4 w2 b rfl HC2.out)
            clear hC2 hC4 HSZ
            rw [List.drop_take, Nat.add_sub_cancel_left, ← List.drop_drop, HDR.out] at HCx
            rw [Nat.add_sub_cancel_left] at hcut2
            rw [List.drop_take, show at_ + 8 - (at_ + 4) = 4 by omega, ← List.drop_drop, HDR.out] at HC4
            rw [show at_ + 8 - (at_ + 4) = 4 by omega] at hcut4
            have hxl : ((r.drop 8).take n).length = n := by rw [List.length_take, List.length_drop]; omega
            have hyl : ((r.drop 4).take 4).length = 4 := by rw [List.length_take, List.length_drop]; omega
            have hyn : num4 ((r.drop 4).take 4) = num4 (r.drop 4) := num4_take _ 4 (by omega)
            obtain ⟨x, hx⟩ : ∃ x, (r.drop 8).take n = x := ⟨_, rfl⟩
            obtain ⟨y, hy⟩ : ∃ y, (r.drop 4).take 4 = y := ⟨_, rfl⟩
            rw [hx] at HCx hxl HSZ2
            rw [hy] at HC4 hyl hyn
            rw [← hyn] at HSZ2
            have HX := Lib.hid hx
            have HXL := Lib.hid hxl
            have HGET := Lib.hid (fun (W : World) (hW : BC W A4 y) => num_any (c := c - (at_ + 4)) hW (by omega) (by omega))
            rw [hyl] at HGET
            clear hx hy hyn hbl
            have hl0 := own_lit w2 w.heap.size 5 .u8 [] HBW2.out.size (by simp)
            have HL0 := Lib.hid hl0
            have HCxa := Lib.hid (HCx.out.below ((Below.refl _ _).alloc (Nat.le_refl _) (.cells #[] 5)))
            have HIX := Lib.hid (show (ib x).length = n by rw [ib_length]; exact HXL.out)
            rw [HXL.out] at hxl
            clear hl0 hyl hxl
            go_wp2_with (at_builtin; go_loud (refine Kd.R_append_row (Value.int .u8) 0 (w0 := w2) w.heap.size rfl (.tmp 37) (.tmp 45) 22 5 _ 1 rfl Try.underlying22 info5b rfl (by decide) (.slice (some ⟨w2.heap.size, 0, none⟩) 0 0) (ib []) (ib x) A2 n (c - (at_ + 8)) (fun k => w2.heap.size ≤ k) rfl rfl (fun k h => by simp at h; omega) (Kd.R_of_own (by simpa [nums, encs, ib] using HL0.out) (fun k hk => by simp [Value.ownBlock] at hk; omega)) (by rw [← HXL.out]; exact HCxa.out) ((Below.refl _ _).alloc HBW2.out.size _) (by have := HBW2.out.size; simp; omega) (by simp [ib]; omega) ?_); intro v9 w9 hr9 hb9 hg9 hat9; have hr9' : (Kd.int .u8).R 5 w9 w.heap.size (fun k => w2.heap.size ≤ k) v9 (ib x) := hr9; obtain ⟨A9, c9, hv9, hl9, hC9⟩ := Kd.R_reads hr9'; rw [HIX.out] at hv9 hl9 hC9; subst hv9; have HR9 := Lib.hid hr9'; have HB9 := Lib.hid (((Below.refl w2.heap.size w2).alloc (Nat.le_refl _) (.cells #[] 5)).grown hg9 (by simp) (by intro k hk; simp [Value.ownBlock] at hk; omega)); have HC9 := Lib.hid (show BC w9 A9 x by unfold BC; rw [HXL.out]; exact hC9); clear hr9 hr9' hb9 hg9 hat9 hC9)
            have HCHK := Lib.hid (fun (W : World) (hW : BC W A9 x) => rchk_any (c := c9) hW (by rw [HXL.out]; exact hl9) (by rw [HXL.out]; omega))
            rw [HXL.out] at HCHK
            have HNE := Lib.hid (show ∀ k, w2.heap.size ≤ k → True ∧ some k ≠ vo.ownBlock from fun k hk => ⟨trivial, fun e => by
              obtain ⟨inner, ho⟩ := Kd.R_own HR2.out
              have := own_lt ho k e.symm
              omega⟩)
            refine start_ (n := 10) (S := fun w' => True) (ds := [8]) #[false, false, false, false, false, false, false, false, false, false] (by kernel_rfl) rfl rfl trivial (fun hHeld => ?_)
            have HBd := Lib.hid (below_then HB9.out HB9.out.size (Below.drew (Below.refl w9.heap.size w9)))
            have HR9d := Lib.hid (Kd.R_below HR9.out (Below.drew (Below.refl w9.heap.size w9)))
            have HCxd := Lib.hid (HC9.out.below (Below.drew (Below.refl w9.heap.size w9)))
            have HC4d := Lib.hid (HC4.out.below HBd.out)
            have HBWd := Lib.hid (below_then HBW2.out HBW2.out.size HBd.out)
            have HRd := Lib.hid (Kd.R_below HR2.out HBd.out)
            clear HB9 HR9 HC9 HCx HCxa HC4 HBW2 HR2 HC2 HBd HL0
            generalize w9.drew = w3 at HCxd HC4d HBWd HRd HR9d ⊢
            refine pure_ (i := 0) (N := (some 47)) (v := ?_) (a' := ?_) #[true, false, false, false, false, false, false, false, false, false] rfl rfl (by kernel_rfl) (fun _ _ _ h => h) (Or.inl ⟨by rfl, ?_⟩) ?_ ?_
            rotate_left
            · intro w'
              go_simp
              with_reducible rfl
            rotate_left
            · simp only [Act.put, List.setIfInBounds_toArray, List.set_cons_zero, List.set_cons_succ]
              rfl
            refine pure_ (i := 2) (N := (some 49)) (v := ?_) (a' := ?_) #[true, false, true, false, false, false, false, false, false, false] rfl rfl (by kernel_rfl) (fun _ _ _ h => h) (Or.inl ⟨by rfl, ?_⟩) ?_ ?_
            rotate_left
            · intro w'
              go_simp
              with_reducible rfl
            rotate_left
            · simp only [Act.put, List.setIfInBounds_toArray, List.set_cons_zero, List.set_cons_succ]
              rfl
            refine pure_ (i := 3) (N := (some 50)) (v := ?_) (a' := ?_) #[true, false, true, true, false, false, false, false, false, false] rfl rfl (by kernel_rfl) (fun _ _ _ h => h) (Or.inl ⟨by rfl, ?_⟩) ?_ ?_
            rotate_left
            · intro w'
              go_simp
              with_reducible rfl
            rotate_left
            · simp only [Act.put, List.setIfInBounds_toArray, List.set_cons_zero, List.set_cons_succ]
              rfl
            refine pure_ (i := 4) (N := (some 51)) (v := ?_) (a' := ?_) #[true, false, true, true, true, false, false, false, false, false] rfl rfl (by kernel_rfl) (fun _ _ _ h => h) (Or.inl ⟨by rfl, ?_⟩) ?_ ?_
            rotate_left
            · intro w'
              go_simp
              with_reducible rfl
            rotate_left
            · simp only [Act.put, List.setIfInBounds_toArray, List.set_cons_zero, List.set_cons_succ]
              rfl
            refine pure_ (i := 5) (N := (some 52)) (v := ?_) (a' := ?_) #[true, false, true, true, true, true, false, false, false, false] rfl rfl (by kernel_rfl) (fun _ _ _ h => h) (Or.inl ⟨by rfl, ?_⟩) ?_ ?_
            rotate_left
            · intro w'
              go_simp
              with_reducible rfl
            rotate_left
            · simp only [Act.put, List.setIfInBounds_toArray, List.set_cons_zero, List.set_cons_succ]
              rfl
            refine pure_ (i := 6) (N := (some 53)) (v := ?_) (a' := ?_) #[true, false, true, true, true, true, true, false, false, false] rfl rfl (by kernel_rfl) (fun _ _ _ h => h) (Or.inl ⟨by rfl, ?_⟩) ?_ ?_
            rotate_left
            · intro w'
              go_simp
              with_reducible rfl
            rotate_left
            · simp only [Act.put, List.setIfInBounds_toArray, List.set_cons_zero, List.set_cons_succ]
              rfl
            refine pure_ (i := 7) (N := (some 54)) (v := ?_) (a' := ?_) #[true, false, true, true, true, true, true, true, false, false] rfl rfl (by kernel_rfl) (fun _ _ _ h => h) (Or.inl ⟨by rfl, ?_⟩) ?_ ?_
            rotate_left
            · intro w'
              go_simp
              with_reducible rfl
            rotate_left
            · simp only [Act.put, List.setIfInBounds_toArray, List.set_cons_zero, List.set_cons_succ]
              rfl
            refine one_ (i := 1) (N := (some 48)) #[true, true, true, true, true, true, true, true, false, false] rfl rfl (by kernel_rfl) (by decide) (fun K hK => ?_)
            go_simp
            refine (HCHK.out _ HCxd.out).mono ?_
            rintro e w4 ⟨rfl, hd4⟩
            have HB4 := Lib.hid hd4.below
            have HC44 := Lib.hid (HC4d.out.below HB4.out)
            have HBW4 := Lib.hid (below_then HBWd.out HBWd.out.size HB4.out)
            have HR4 := Lib.hid (Kd.R_below HRd.out HB4.out)
            have HX4 := Lib.hid (Kd.R_below HR9d.out HB4.out)
            clear hd4
            refine hK.out _ _ trivial (fun hHeld => ?_)
            clear hK K
            (try simp only [Act.put, List.setIfInBounds_toArray, List.set_cons_zero, List.set_cons_succ])
            refine last_ (i := 8) (N := (some 55)) #[true, true, true, true, true, true, true, true, true, false] rfl rfl (by kernel_rfl) (by decide) (fun K hK => ?_)
            go_simp
            refine (HGET.out _ HC44.out).mono ?_
            rintro e w5 ⟨rfl, hd5⟩
            have HB5 := Lib.hid hd5.below
            have HBW5 := Lib.hid (below_then HBW4.out HBW4.out.size HB5.out)
            have HR5 := Lib.hid (Kd.R_below HR4.out HB5.out)
            have HX5 := Lib.hid (Kd.R_below HX4.out HB5.out)
            clear hd5
            refine hK.out _ _ ?_
            clear hK K
            (try simp only [Act.put, List.setIfInBounds_toArray, List.set_cons_zero, List.set_cons_succ])
            refine pure_ (i := 9) (N := (some 56)) (v := ?_) (a' := ?_) #[true, true, true, true, true, true, true, true, true, true] rfl rfl (by kernel_rfl) (fun _ _ _ h => h) (Or.inl ⟨by rfl, ?_⟩) ?_ ?_
            rotate_left
            · intro w'
              go_simp
              with_reducible rfl
            rotate_left
            · simp only [Act.put, List.setIfInBounds_toArray, List.set_cons_zero, List.set_cons_succ]
              rfl
            refine done_ (by kernel_rfl) ?_
            clear hcut4 hcut2 HCHK HGET HC44 HC4d HCxd HBWd HBW4 HRd HR4 HX4 HR9d
            by_cases h5 : chk x = num4 y
            · have HSC2 : Hid (scanAll b = ((rs ++ [x]) ++ (scan k1 (b.drop (at_ + (8 + n)))).1, (at_ + (8 + n)) + (scan k1 (b.drop (at_ + (8 + n)))).2)) := by
                have h := HSC.out
                rw [HSZ2.out, if_pos h5] at h
                rw [← List.drop_drop, HDR.out]
                show scanAll b = _
                rw [h]
                simp [Nat.add_assoc]
              have g5 : ((chk x : Int) != (num4 y : Int)) = false := by rw [h5]; simp
              clear HSZ2 HSC h5
              go_wp2_with (first | (at_builtin; go_loud (refine Kd.R_append kbs (w0 := w) w.heap.size rfl (.tmp 59) (.tmp 61) 26 22 _ 24 rfl Try.underlying26 info22 rfl (by decide) (by decide) vo (rs.map ib) (ib x) [.slice A9 n c9] (fun _ => True) (fun k => w2.heap.size ≤ k) rfl (by simp [Act.eval]) ⟨_, rfl, HX5.out⟩ HNE.out (fun _ _ => trivial) HR5.out HBW5.out HBW5.out.size (by rw [List.length_map]; omega) ?_); intro v11 w11 hr11 hb11 hg11 hat11; have HR11 := Lib.hid hr11; have HB11 := Lib.hid hb11; clear hr11 hb11 hg11 hat11))
              have HDL := Lib.hid (show b.length - (at_ + (8 + n)) < k1 ∧ at_ + (8 + n) ≤ b.length from by have := HRL.out; omega)
              go_roundg k1
              case measure => omega
              case rel => exact ⟨at_ + (8 + n), rs ++ [x], _, rfl, HDL.out.2, HDL.out.1, by go_num, HSC2.out, by simp; omega, by rw [List.map_append]; exact HR11.out, HB11.out⟩
            · have HPOST := Lib.hid (sc_end HSC.out (HSZ2.out.trans (if_neg h5)) HR5.out HBW5.out)
              have g5 : ((chk x : Int) != (num4 y : Int)) = true := by rw [bne_iff_ne]; omega
              clear HSZ2 HSC HR5 HBW5
              go_wp2
              go_ret2
              exact HPOST.out
set_option maxRecDepth 1000000 in
set_option maxHeartbeats 8000000 in
theorem scan_law {w : World} {A : Option Addr} {b : List UInt8} {c : Nat} (h : BC w A b) (hc : b.length ≤ c) :
    Calls Try.prog 4 #[.slice A b.length c] w fun e w' => e = .returned (.bool true) ∧ Below w.heap.size w w' := by
  have HC := Lib.hid h
  clear h
  by_cases hl : 9000 < b.length
  · go_enter Try.func4, Try.ntmps4
    go_wp2_with fail
    refine (awake_any _).mono ?_
    rintro e w1 ⟨rfl, hb1⟩
    have HB1 := Lib.hid hb1
    clear hb1
    go_wp2_with fail
    refine (awake_any _).mono ?_
    rintro e w2 ⟨rfl, hb2⟩
    have HB2 := Lib.hid (below_then HB1.out HB1.out.size hb2)
    clear hb2
    go_wp2
    go_ret
    exact ⟨rfl, HB2.out⟩
  · have hlm : b.length < 1000000000 := by omega
    go_enter Try.func4, Try.ntmps4
    go_wp2_with fail
    refine (awake_any _).mono ?_
    rintro e w1 ⟨rfl, hb1⟩
    have HB1 := Lib.hid hb1
    have HC1 := Lib.hid (HC.out.below HB1.out)
    clear hb1
    go_wp2_with fail
    refine (scan_any HC1.out hc hlm).mono ?_
    rintro e w2 ⟨v2, rfl, hr2, hb2⟩
    obtain ⟨A2, c2, hv2, hl2, hC2⟩ := Kd.R_reads hr2
    rw [List.length_map] at hv2 hC2
    subst hv2
    have HB2 := Lib.hid (below_then HB1.out HB1.out.size hb2)
    have HC2 := Lib.hid (HC1.out.below hb2)
    have HL2 := Lib.hid hC2
    clear hb2 hr2 hl2 hC2
    go_wp2_with fail
    refine (rscan_any HC2.out hc hlm).mono ?_
    rintro e w3 ⟨v3, rfl, hr3, hb3⟩
    obtain ⟨A3, c3, hv3, hl3, hC3⟩ := Kd.R_reads hr3
    rw [List.length_map] at hv3 hC3
    subst hv3
    have HB3 := Lib.hid (below_then HB2.out HB2.out.size hb3)
    have HL3 := Lib.hid hC3
    have HL2b := Lib.hid (Kd.C_below HL2.out hb3)
    clear hb3 hr3 hl3 hC3
    go_wp2_with fail
    refine (same_any HL2b.out HL3.out).mono ?_
    rintro e w4 ⟨rfl, hb4⟩
    have HB4 := Lib.hid (below_then HB3.out HB3.out.size hb4)
    clear hb4
    go_wp2
    go_ret
    exact ⟨by simp, HB4.out⟩
end Go.Proofs.Ytiacjbandhedhaa.Jn

/- JournalFrames: the scan of frames, followed by a proper prefix of a further one. -/
namespace Go.Proofs.Ytiacjbandhedhaa.Jn
open Go.RowKit Go.Proofs.YtiacjbandhedhaaW.PrintWords Go.Proofs.YtiacjbandhedhaaW.PrintLast Go.Proofs.YtiacjbandhedhaaW.PrintMore
set_option linter.unusedSimpArgs false
set_option linter.unusedVariables false
def frames (l : List (List UInt8)) : List UInt8 := l.flatMap frame
theorem frame_ok {r : List UInt8} (h1 : 1 ≤ r.length) (h2 : r.length ≤ 8192) : frame r = be4 r.length ++ be4 (chk r) ++ r := by unfold frame; rw [if_pos ⟨h1, h2⟩]
theorem scan_frame {k : Nat} {r t : List UInt8} (h1 : 1 ≤ r.length) (h2 : r.length ≤ 8192) : scan (k + 1) (frame r ++ t) = (r :: (scan k t).1, 8 + r.length + (scan k t).2) := by
  rw [frame_ok h1 h2]
  have e : be4 r.length ++ be4 (chk r) ++ r ++ t = be4 r.length ++ (be4 (chk r) ++ (r ++ t)) := by simp
  rw [e]
  have hn : num4 (be4 r.length ++ (be4 (chk r) ++ (r ++ t))) = r.length := num4_be4 _ _ (by omega)
  have hl : (be4 r.length ++ (be4 (chk r) ++ (r ++ t))).length = 8 + (r.length + t.length) := by simp [be4_length]; omega
  have hd4 : (be4 r.length ++ (be4 (chk r) ++ (r ++ t))).drop 4 = be4 (chk r) ++ (r ++ t) := by rw [List.drop_append_of_le_length (by rw [be4_length]; omega)]; rfl
  have hd8 : (be4 r.length ++ (be4 (chk r) ++ (r ++ t))).drop 8 = r ++ t := by
    rw [show 8 = 4 + 4 from rfl, ← List.drop_drop, hd4, List.drop_append_of_le_length (by rw [be4_length]; omega)]; rfl
  have hd : (be4 r.length ++ (be4 (chk r) ++ (r ++ t))).drop (8 + r.length) = t := by
    rw [← List.drop_drop, hd8]; simp
  conv => lhs; unfold scan
  rw [if_neg (by rw [hl]; omega), hn, if_neg (by rw [hl]; omega), hd8, hd4, hd, num4_be4 _ _ (chk_lt r)]
  simp
theorem scan_cut {k m : Nat} {r : List UInt8} (hm : m < (frame r).length ∨ m = 0) : scan k ((frame r).take m) = ([], 0) := by
  cases k with
  | zero => rfl
  | succ k =>
    unfold scan
    by_cases h8 : ((frame r).take m).length < 8
    · rw [if_pos h8]
    · rw [if_neg h8]
      have hl : ((frame r).take m).length = min m (frame r).length := List.length_take
      by_cases hr : 1 ≤ r.length ∧ r.length ≤ 8192
      · have hf := frame_ok hr.1 hr.2
        have hfl : (frame r).length = 8 + r.length := by rw [hf]; simp [be4_length]; omega
        have hn : num4 ((frame r).take m) = r.length := by
          rw [num4_take _ _ (by omega), hf, List.append_assoc, num4_be4 _ _ (by omega)]
        rw [hn, if_pos (by omega)]
      · have h0 : frame r = [] := by unfold frame; rw [if_neg hr]
        rw [h0] at h8
        simp at h8
theorem scan_frames {t : List UInt8} (ht : ∀ k, scan k t = ([], 0)) : ∀ (l : List (List UInt8)) (k : Nat), (∀ r ∈ l, 1 ≤ r.length ∧ r.length ≤ 8192) → l.length ≤ k → scan k (frames l ++ t) = (l, (frames l).length)
  | [], k, _, _ => by simp [frames, ht]
  | r :: l, 0, _, hk => by simp at hk
  | r :: l, k + 1, h, hk => by
    have hr := h r (by simp)
    have ih := scan_frames ht l k (fun x hx => h x (by simp [hx])) (by simp at hk; omega)
    have e : frames (r :: l) ++ t = frame r ++ (frames l ++ t) := by simp [frames]
    have hfl : (frame r).length = 8 + r.length := by rw [frame_ok hr.1 hr.2]; simp [be4_length]; omega
    rw [e, scan_frame hr.1 hr.2, ih]
    simp [frames, hfl]
theorem frames_len : ∀ (l : List (List UInt8)), (∀ r ∈ l, 1 ≤ r.length ∧ r.length ≤ 8192) → 8 * l.length ≤ (frames l).length
  | [], _ => by simp [frames]
  | r :: l, h => by
    have hr := h r (by simp)
    have ih := frames_len l (fun x hx => h x (by simp [hx]))
    have hfl : (frame r).length = 8 + r.length := by rw [frame_ok hr.1 hr.2]; simp [be4_length]; omega
    have e : frames (r :: l) = frame r ++ frames l := by simp [frames]
    rw [e, List.length_append, hfl, List.length_cons]
    omega
theorem scanAll_frames {r : List UInt8} {m : Nat} (hm : m < (frame r).length ∨ m = 0) {l : List (List UInt8)} (h : ∀ r ∈ l, 1 ≤ r.length ∧ r.length ≤ 8192) : scanAll (frames l ++ (frame r).take m) = (l, (frames l).length) := by
  unfold scanAll
  refine scan_frames (fun k => scan_cut hm) l _ h ?_
  have := frames_len l h
  rw [List.length_append]
  omega
theorem frames_le : ∀ (l : List (List UInt8)), (∀ r ∈ l, 1 ≤ r.length ∧ r.length ≤ 300) → (frames l).length ≤ 308 * l.length
  | [], _ => by simp [frames]
  | r :: l, h => by
    have hr := h r (by simp)
    have ih := frames_le l (fun x hx => h x (by simp [hx]))
    have hfl : (frame r).length = 8 + r.length := by rw [frame_ok hr.1 (by omega)]; simp [be4_length]; omega
    have e : frames (r :: l) = frame r ++ frames l := by simp [frames]
    rw [e, List.length_append, hfl, List.length_cons]
    omega
theorem frame_le (r : List UInt8) : (frame r).length ≤ 8 + r.length := by
  unfold frame
  split
  · simp [be4_length]; omega
  · simp
theorem frames_snoc (l : List (List UInt8)) (i : Nat) (h : i < l.length) : frames (l.take i) ++ frame l[i] = frames (l.take (i + 1)) := by
  unfold frames
  rw [List.take_succ_eq_append_getElem h, List.flatMap_append]
  simp
def FsRel (l : List (List UInt8)) (w : World) (v7 v8 : Value) (wr : World) : Prop :=
  ∃ (i : Nat) (vo : Value), vo = v7 ∧ i ≤ l.length ∧ v8 = .int .i64 i ∧ (∀ r ∈ l.take i, 1 ≤ r.length ∧ r.length ≤ 300) ∧ (Kd.int .u8).R 5 wr w.heap.size (fun _ => True) vo (ib (frames (l.take i))) ∧ Below w.heap.size w wr
set_option maxRecDepth 1000000 in
set_option maxHeartbeats 1600000 in
theorem frames_law {w : World} {A B : Option Addr} {l : List (List UInt8)} {last : List UInt8} {c d : Nat} (h : kbs.C w A l.length (l.map ib)) (hc : l.length ≤ c) (h2 : BC w B last) (hd : last.length ≤ d) (cut : Int) :
    Calls Try.prog 5 #[.slice A l.length c, .slice B last.length d, .int .i64 cut] w fun e w' => e = .returned (.bool true) ∧ Below w.heap.size w w' := by
  have HLS := Lib.hid h
  have HLA := Lib.hid h2
  clear h h2
  by_cases hg : 6 < l.length ∨ 300 < last.length
  · have hg2 : decide (6 < (l.length : Int)) = true ∨ (decide (6 < (l.length : Int)) = false ∧ decide (300 < (last.length : Int)) = true) := by
      by_cases h6 : 6 < l.length
      · exact .inl (decide_eq_true (by omega))
      · exact .inr ⟨decide_eq_false (by omega), decide_eq_true (by omega)⟩
    clear hg
    rcases hg2 with g1 | ⟨g1, g2⟩
    all_goals
      go_enter Try.func5, Try.ntmps5
      go_wp2_with fail
      refine (awake_any _).mono ?_
      rintro e w1 ⟨rfl, hb1⟩
      have HB1 := Lib.hid hb1
      clear hb1
      go_wp2_with fail
      refine (awake_any _).mono ?_
      rintro e w2 ⟨rfl, hb2⟩
      have HB2 := Lib.hid (below_then HB1.out HB1.out.size hb2)
      clear hb2
      go_wp2
      go_ret
      exact ⟨rfl, HB2.out⟩
  · have h6 : l.length ≤ 6 := by omega
    have h3 : last.length ≤ 300 := by omega
    clear hg
    go_enter Try.func5, Try.ntmps5
    go_wp2_with fail
    refine (awake_any _).mono ?_
    rintro e w1 ⟨rfl, hb1⟩
    have HB1 := Lib.hid hb1
    have HI := Lib.hid (show FsRel l w (.slice (some ⟨w1.heap.size, 0, none⟩) 0 0) (.int .i64 0) (w1.alloc (.cells #[] 5)) from ⟨0, _, rfl, Nat.zero_le _, rfl, by simp, (by
      have hl0 := own_lit w1 w.heap.size 5 .u8 [] hb1.size (by simp)
      exact Kd.R_of_own (by simpa [nums, encs, ib, frames] using hl0) (fun _ _ => trivial)), hb1.alloc hb1.size _⟩)
    clear hb1
    go_wp2
    go_loopw [7, 8] (fun v7 v8 wr => FsRel l w v7 v8 wr) (fun _ v8 _ => l.length - (intOf v8).toNat)
    case atStart => exact HI.out
    case round =>
      clear HI
      obtain ⟨i, vo, rfl, hi, rfl, hok, hR, hB⟩ := hrel
      have HOK := Lib.hid hok
      have HR := Lib.hid hR
      have HB := Lib.hid hB
      clear hok hR hB
      by_cases hlt : i < l.length
      · have hi0 : 0 ≤ (i : Int) := by omega
        have hi1 : (i : Int) < (l.length : Int) := by omega
        obtain ⟨ad, B1, e1, rfl, q1, l1, k1⟩ := at_bs HLS.out i hlt
        replace q1 := (HB.out.cell (World.block_lt_of_cell? w _ q1)).trans q1
        have HK := Lib.hid (k1.below HB.out)
        have HSN := Lib.hid (frames_snoc l i hlt)
        have HTK := Lib.hid (show ∀ r ∈ l.take (i + 1), (r ∈ l.take i ∨ r = l[i]) from fun r hr => by
          rw [List.take_succ_eq_append_getElem hlt] at hr
          rcases List.mem_append.1 hr with h | h
          · exact .inl h
          · exact .inr (by simpa using h))
        have HFL := Lib.hid (show (frames (l.take i)).length ≤ 308 * 6 by
          have h1 := frames_le _ HOK.out
          have h2 : (l.take i).length ≤ 6 := by rw [List.length_take]; omega
          omega)
        obtain ⟨x, hx⟩ : ∃ x, l[i] = x := ⟨_, rfl⟩
        rw [hx] at q1 l1 HK HSN HTK
        clear k1 hx
        by_cases hs : x.length < 1
        · have g1 : decide ((x.length : Int) < 1) = true := decide_eq_true (by omega)
          clear hs
          go_wp2
          go_ret
          exact ⟨rfl, HB.out⟩
        · have g1 : decide ((x.length : Int) < 1) = false := decide_eq_false (by omega)
          by_cases hb3 : 300 < x.length
          · have g2 : decide (300 < (x.length : Int)) = true := decide_eq_true (by omega)
            clear hs hb3
            go_wp2
            go_ret
            exact ⟨rfl, HB.out⟩
          · have g2 : decide (300 < (x.length : Int)) = false := decide_eq_false (by omega)
            have HXB := Lib.hid (show 1 ≤ x.length ∧ x.length ≤ 300 by omega)
            have hfx := frame_le x
            go_wp2_with fail
            refine (frame_any HK.out l1).mono ?_
            rintro e w3 ⟨v3, rfl, hbo3, hb3'⟩
            obtain ⟨A3, c3, hv3, hl3, hC3⟩ := hbo3.reads
            subst hv3
            have HB3 := Lib.hid (below_then HB.out HB.out.size hb3')
            have HR3 := Lib.hid (Kd.R_below HR.out hb3')
            have HC3 := Lib.hid hC3
            clear hbo3 hb3' hC3
            go_wp2_with (first | (at_builtin; go_loud (refine Kd.R_append_row (Value.int .u8) 0 (w0 := w) w.heap.size rfl (.tmp 47) (.tmp 52) 22 5 _ 1 rfl Try.underlying22 info5b rfl (by decide) vo (ib (frames (l.take i))) (ib (frame x)) A3 (frame x).length c3 (fun _ => True) rfl rfl (fun _ _ => trivial) HR3.out HC3.out HB3.out HB3.out.size (by have := HFL.out; rw [ib_length]; omega) ?_); intro v9 w9 hr9 hb9 hg9 hat9; rw [← ib_append, HSN.out] at hr9; have HR9 := Lib.hid hr9; have HB9 := Lib.hid hb9; clear hr9 hb9 hg9 hat9) | fail)
            go_roundw
            case rel => exact ⟨i + 1, _, rfl, hlt, by go_num, fun r hr => (HTK.out r hr).elim (HOK.out r) (fun e => by rw [e]; exact HXB.out), HR9.out, HB9.out⟩
            case measure => simp [intOf]; omega
      · have hin : i = l.length := by omega
        rw [hin, List.take_length] at HR HOK
        obtain ⟨Ab, cb, hvb, hlb, _⟩ := Kd.R_reads HR.out
        rw [ib_length] at hvb hlb
        subst hvb
        have hfl := frame_le last
        have HFL := Lib.hid (frames_le l HOK.out)
        go_wp2_with fail
        refine (frame_any (HLA.out.below HB.out) hd).mono ?_
        rintro e w3 ⟨v3, rfl, hbo3, hb3⟩
        obtain ⟨A3, c3, hv3, hl3, hC3⟩ := hbo3.reads
        subst hv3
        have HB3 := Lib.hid (below_then HB.out HB.out.size hb3)
        have HR3 := Lib.hid (Kd.R_below HR.out hb3)
        have HC3 := Lib.hid hC3
        clear hbo3 hb3 hC3
        by_cases hc1 : cut < 0
        · have g1 : decide (cut < 0) = true := decide_eq_true hc1
          clear hc1
          have hmm : 0 < (frame last).length ∨ 0 = 0 := .inr rfl
          have hml : ((frame last).take 0).length = 0 := by rw [List.length_take]; omega
          have hcut := cut_to_b A3 (frame last).length c3 0 (0 : Int) rfl (by omega) hl3
          have hct := HC3.out.take (m := 0) (by omega)
          unfold BC at hct
          rw [hml] at hct
          have HCT := Lib.hid hct
          obtain ⟨z, hz⟩ : ∃ z, frames l ++ (frame last).take 0 = z := ⟨_, rfl⟩
          have hsa := scanAll_frames hmm (fun r hr => ⟨(HOK.out r hr).1, by have := (HOK.out r hr).2; omega⟩)
          rw [hz] at hsa
          have HSA := Lib.hid hsa
          have HLE := Lib.hid (show z.length < 1000000000 by rw [← hz, List.length_append, hml]; have := HFL.out; omega)
          have HZ := Lib.hid hz
          clear hct hmm hz hsa
          go_wp2_with (first | (at_builtin; go_loud (refine Kd.R_append_row (Value.int .u8) 0 (w0 := w) w.heap.size rfl (.tmp 67) (.tmp 70) 22 5 _ 1 rfl Try.underlying22 info5b rfl (by decide) (.slice Ab (frames l).length cb) (ib (frames l)) (ib ((frame last).take 0)) A3 0 c3 (fun _ => True) rfl rfl (fun _ _ => trivial) HR3.out HCT.out HB3.out HB3.out.size (by have := HFL.out; rw [ib_length]; omega) ?_); intro v9 w9 hr9 hb9 hg9 hat9; rw [← ib_append, HZ.out] at hr9; obtain ⟨A9, c9, hv9, hl9, hC9⟩ := Kd.R_reads hr9; rw [ib_length] at hv9 hl9 hC9; subst hv9; have HC9 := Lib.hid (show BC w9 A9 z from hC9); have HB9 := Lib.hid hb9; clear hr9 hb9 hg9 hat9 hC9) | fail)
          have hsc := scan_any HC9.out hl9 HLE.out
          unfold ScPost at hsc
          rw [HSA.out] at hsc
          refine hsc.mono ?_
          rintro e w11 ⟨v11, rfl, hr11, hb11⟩
          obtain ⟨A11, c11, hv11, hl11, hC11⟩ := Kd.R_reads hr11
          rw [List.length_map] at hv11 hC11
          subst hv11
          have HB11 := Lib.hid (below_then HB9.out HB9.out.size hb11)
          have HL11 := Lib.hid hC11
          clear hsc hr11 hb11 hC11
          go_wp2_with fail
          refine (same_any HL11.out (Kd.C_below HLS.out HB11.out)).mono ?_
          rintro e w12 ⟨rfl, hb12⟩
          have HB12 := Lib.hid (below_then HB11.out HB11.out.size hb12)
          clear hb12
          go_wp2
          go_ret
          exact ⟨by simp, HB12.out⟩
        · have g1 : decide (cut < 0) = false := decide_eq_false hc1
          by_cases hc2 : ((frame last).length : Int) ≤ cut
          · have g2 : decide (((frame last).length : Int) ≤ cut) = true := decide_eq_true hc2
            clear hc1 hc2
            have hmm : 0 < (frame last).length ∨ 0 = 0 := .inr rfl
            have hml : ((frame last).take 0).length = 0 := by rw [List.length_take]; omega
            have hcut := cut_to_b A3 (frame last).length c3 0 (0 : Int) rfl (by omega) hl3
            have hct := HC3.out.take (m := 0) (by omega)
            unfold BC at hct
            rw [hml] at hct
            have HCT := Lib.hid hct
            obtain ⟨z, hz⟩ : ∃ z, frames l ++ (frame last).take 0 = z := ⟨_, rfl⟩
            have hsa := scanAll_frames hmm (fun r hr => ⟨(HOK.out r hr).1, by have := (HOK.out r hr).2; omega⟩)
            rw [hz] at hsa
            have HSA := Lib.hid hsa
            have HLE := Lib.hid (show z.length < 1000000000 by rw [← hz, List.length_append, hml]; have := HFL.out; omega)
            have HZ := Lib.hid hz
            clear hct hmm hz hsa
            go_wp2_with (first | (at_builtin; go_loud (refine Kd.R_append_row (Value.int .u8) 0 (w0 := w) w.heap.size rfl (.tmp 67) (.tmp 70) 22 5 _ 1 rfl Try.underlying22 info5b rfl (by decide) (.slice Ab (frames l).length cb) (ib (frames l)) (ib ((frame last).take 0)) A3 0 c3 (fun _ => True) rfl rfl (fun _ _ => trivial) HR3.out HCT.out HB3.out HB3.out.size (by have := HFL.out; rw [ib_length]; omega) ?_); intro v9 w9 hr9 hb9 hg9 hat9; rw [← ib_append, HZ.out] at hr9; obtain ⟨A9, c9, hv9, hl9, hC9⟩ := Kd.R_reads hr9; rw [ib_length] at hv9 hl9 hC9; subst hv9; have HC9 := Lib.hid (show BC w9 A9 z from hC9); have HB9 := Lib.hid hb9; clear hr9 hb9 hg9 hat9 hC9) | fail)
            have hsc := scan_any HC9.out hl9 HLE.out
            unfold ScPost at hsc
            rw [HSA.out] at hsc
            refine hsc.mono ?_
            rintro e w11 ⟨v11, rfl, hr11, hb11⟩
            obtain ⟨A11, c11, hv11, hl11, hC11⟩ := Kd.R_reads hr11
            rw [List.length_map] at hv11 hC11
            subst hv11
            have HB11 := Lib.hid (below_then HB9.out HB9.out.size hb11)
            have HL11 := Lib.hid hC11
            clear hsc hr11 hb11 hC11
            go_wp2_with fail
            refine (same_any HL11.out (Kd.C_below HLS.out HB11.out)).mono ?_
            rintro e w12 ⟨rfl, hb12⟩
            have HB12 := Lib.hid (below_then HB11.out HB11.out.size hb12)
            clear hb12
            go_wp2
            go_ret
            exact ⟨by simp, HB12.out⟩
          · have g2 : decide (((frame last).length : Int) ≤ cut) = false := decide_eq_false hc2
            obtain ⟨m, hmi, hmm⟩ : ∃ m : Nat, cut = (m : Int) ∧ (m < (frame last).length ∨ m = 0) := ⟨cut.toNat, by omega, .inl (by omega)⟩
            have hml : ((frame last).take m).length = m := by rw [List.length_take]; omega
            have hcut := cut_to_b A3 (frame last).length c3 m cut hmi (by omega) hl3
            have hct := HC3.out.take (m := m) (by omega)
            unfold BC at hct
            rw [hml] at hct
            have HCT := Lib.hid hct
            obtain ⟨z, hz⟩ : ∃ z, frames l ++ (frame last).take m = z := ⟨_, rfl⟩
            have hsa := scanAll_frames hmm (fun r hr => ⟨(HOK.out r hr).1, by have := (HOK.out r hr).2; omega⟩)
            rw [hz] at hsa
            have HSA := Lib.hid hsa
            have HLE := Lib.hid (show z.length < 1000000000 by rw [← hz, List.length_append, hml]; have := HFL.out; omega)
            have HZ := Lib.hid hz
            clear hct hmm hz hsa
            go_wp2_with (first | (at_builtin; go_loud (refine Kd.R_append_row (Value.int .u8) 0 (w0 := w) w.heap.size rfl (.tmp 67) (.tmp 70) 22 5 _ 1 rfl Try.underlying22 info5b rfl (by decide) (.slice Ab (frames l).length cb) (ib (frames l)) (ib ((frame last).take m)) A3 m c3 (fun _ => True) rfl rfl (fun _ _ => trivial) HR3.out HCT.out HB3.out HB3.out.size (by have := HFL.out; rw [ib_length]; omega) ?_); intro v9 w9 hr9 hb9 hg9 hat9; rw [← ib_append, HZ.out] at hr9; obtain ⟨A9, c9, hv9, hl9, hC9⟩ := Kd.R_reads hr9; rw [ib_length] at hv9 hl9 hC9; subst hv9; have HC9 := Lib.hid (show BC w9 A9 z from hC9); have HB9 := Lib.hid hb9; clear hr9 hb9 hg9 hat9 hC9) | fail)
            have hsc := scan_any HC9.out hl9 HLE.out
            unfold ScPost at hsc
            rw [HSA.out] at hsc
            refine hsc.mono ?_
            rintro e w11 ⟨v11, rfl, hr11, hb11⟩
            obtain ⟨A11, c11, hv11, hl11, hC11⟩ := Kd.R_reads hr11
            rw [List.length_map] at hv11 hC11
            subst hv11
            have HB11 := Lib.hid (below_then HB9.out HB9.out.size hb11)
            have HL11 := Lib.hid hC11
            clear hsc hr11 hb11 hC11
            go_wp2_with fail
            refine (same_any HL11.out (Kd.C_below HLS.out HB11.out)).mono ?_
            rintro e w12 ⟨rfl, hb12⟩
            have HB12 := Lib.hid (below_then HB11.out HB11.out.size hb12)
            clear hb12
            go_wp2
            go_ret
            exact ⟨by simp, HB12.out⟩
end Go.Proofs.Ytiacjbandhedhaa.Jn

/- A device, and a journal on it, that a law owns: each operation leaves the next state. -/
namespace Go.Proofs.Ytiacjbandhedhaa.Jn
open Go.RowKit Go.Proofs.YtiacjbandhedhaaW.PrintWords Go.Proofs.YtiacjbandhedhaaW.PrintLast Go.Proofs.YtiacjbandhedhaaW.PrintMore
set_option linter.unusedSimpArgs false
set_option linter.unusedVariables false
/-- A device d in block g, new since w0. -/
def St (w0 : World) (g : Nat) (d : Dv) (w : World) : Prop := ∃ v, DAt 65 w w0.heap.size g v d ∧ Below w0.heap.size w0 w
/-- With a journal in block j. -/
def Sj (w0 : World) (g j n : Nat) (ended : Bool) (d : Dv) (w : World) : Prop := ∃ v, DAt 65 w w0.heap.size g v d ∧ Below w0.heap.size w0 w ∧ JAt 68 w j g n ended ∧ w0.heap.size ≤ j
section
variable {w0 w w' : World} {g j n : Nat} {ended : Bool} {d : Dv}
theorem St.bel (h : St w0 g d w) : Below w0.heap.size w0 w := h.choose_spec.2
theorem Sj.bel (h : Sj w0 g j n ended d w) : Below w0.heap.size w0 w := h.choose_spec.2.1
theorem St.ok (h : St w0 g d w) : d.ok := h.choose_spec.1.ok
theorem Sj.ok (h : Sj w0 g j n ended d w) : d.ok := h.choose_spec.1.ok
theorem St.mv (h : St w0 g d w) (hb : Below w.heap.size w w') : St w0 g d w' := by
  obtain ⟨v, ha, hB⟩ := h
  exact ⟨v, ha.below hb, below_then hB hB.size hb⟩
theorem Sj.mv (h : Sj w0 g j n ended d w) (hb : Below w.heap.size w w') : Sj w0 g j n ended d w' := by
  obtain ⟨v, ha, hB, hj, hl⟩ := h
  exact ⟨v, ha.below hb, below_then hB hB.size hb, hj.chg (Chg.of_below hb (fun _ => False)) (fun h => h), hl⟩
theorem Sj.st (h : Sj w0 g j n ended d w) : St w0 g d w := by
  obtain ⟨v, ha, hB, _, _⟩ := h
  exact ⟨v, ha, hB⟩
theorem St.post {v : Value} {d' : Dv} (ha : DAt 65 w w0.heap.size g v d) (hB : Below w0.heap.size w0 w) (h : DPost 65 w0.heap.size g v w d' w') : St w0 g d' w' := by
  obtain ⟨v', a2, c2, _⟩ := h
  exact ⟨v', a2, c2.below hB hB.size (fun i _ hi => ha.ft i hi)⟩
theorem Sj.post {v : Value} {d' : Dv} (ha : DAt 65 w w0.heap.size g v d) (hB : Below w0.heap.size w0 w) (hj : JAt 68 w j g n ended) (hl : w0.heap.size ≤ j) (h : DPost 65 w0.heap.size g v w d' w') : Sj w0 g j n ended d' w' := by
  obtain ⟨v', a2, c2, _⟩ := h
  refine ⟨v', a2, c2.below hB hB.size (fun i _ hi => ha.ft i hi), hj.chg c2 ?_, hl⟩
  rintro (rfl | e)
  · have h1 := hj
    unfold JAt at h1
    rw [ha.blk] at h1
    injection h1 with h1
    injection h1 with h1 h2
    exact absurd h2 (by decide)
  · exact absurd e ((own_ne ha.row hj (by decide)).symm)
theorem far_arg {A : Option Addr} {b : List UInt8} (hC : BC w0 A b) (hg : w0.heap.size ≤ g) : Far A b g := by
  intro ad e hp hb
  obtain ⟨ad', e', hc⟩ := src_cells hC hp
  rw [e] at e'
  injection e' with e'
  subst e'
  have h0 := hc 0 (.int .u8 (b[0].toNat : Int)) (by simp [u8s, hp])
  have := World.block_lt_of_cell? w0 _ h0
  rw [show (ad.add 0).block = ad.block by simp [Addr.add]] at this
  omega
theorem BC.arg {A : Option Addr} {b : List UInt8} (hC : BC w0 A b) (h : Below w0.heap.size w0 w) : BC w A b := hC.below h
theorem new_st (w0 w : World) (hB : Below w0.heap.size w0 w) (n : Int) (hn : n ≤ 9223372036854775807) :
    Calls Try.prog 18 #[.int .i64 n] w fun e w' => ∃ g, e = .returned (.pointer (some ⟨g, 0, none⟩)) ∧ St w0 g (dv0 n) w' :=
  (newdev_any w w0.heap.size hB.size n hn).mono fun e w' ⟨g, v, he, ha, hb, _, _⟩ => ⟨g, he, v, ha, below_then hB hB.size hb⟩
theorem write_st {A : Option Addr} {b : List UInt8} {c : Nat} (h : St w0 g d w) (hC : BC w0 A b) (hc : b.length ≤ c) (hb : b.length < 1000000000) :
    Calls Try.prog 22 #[.pointer (some ⟨g, 0, none⟩), .slice A b.length c] w fun e w' => e = .returned (.int .i64 (d.write b).1) ∧ St w0 g (d.write b).2 w' := by
  obtain ⟨v, ha, hB⟩ := h
  exact (write_any ha (hC.arg hB) hc hb (far_arg hC ha.hb) hB.size).mono fun e w' ⟨he, hp⟩ => ⟨he, St.post ha hB hp⟩
theorem sync_st (h : St w0 g d w) : Calls Try.prog 23 #[.pointer (some ⟨g, 0, none⟩)] w fun e w' => e = .returned (.int .i64 d.sync.1) ∧ St w0 g d.sync.2 w' := by
  obtain ⟨v, ha, hB⟩ := h
  exact (sync_any ha).mono fun e w' ⟨he, hp⟩ => ⟨he, St.post ha hB hp⟩
theorem trunc_st (h : St w0 g d w) (n : Int) : Calls Try.prog 42 #[.pointer (some ⟨g, 0, none⟩), .int .i64 n] w fun e w' => e = .returned (.int .i64 (d.trunc n).1) ∧ St w0 g (d.trunc n).2 w' := by
  obtain ⟨v, ha, hB⟩ := h
  exact (trunc_any ha n).mono fun e w' ⟨he, hp⟩ => ⟨he, St.post ha hB hp⟩
theorem crash_st (h : St w0 g d w) (k : Int) : Calls Try.prog 24 #[.pointer (some ⟨g, 0, none⟩), .int .i64 k] w fun e w' => e = .returned (.tuple #[]) ∧ St w0 g (d.crash k) w' := by
  obtain ⟨v, ha, hB⟩ := h
  exact (crash_any ha k).mono fun e w' ⟨he, hp⟩ => ⟨he, St.post ha hB hp⟩
theorem fail_st (h : St w0 g d w) (k : Int) (hk : k ≤ 9223372036854775807) : Calls Try.prog 32 #[.pointer (some ⟨g, 0, none⟩), .int .i64 k] w fun e w' => e = .returned (.tuple #[]) ∧ St w0 g (d.fail k) w' := by
  obtain ⟨v, ha, hB⟩ := h
  exact (fail_any ha k hk).mono fun e w' ⟨he, hp⟩ => ⟨he, St.post ha hB hp⟩
theorem down_st (h : St w0 g d w) : Calls Try.prog 26 #[.pointer (some ⟨g, 0, none⟩)] w fun e w' => e = .returned (.bool d.off) ∧ w = w' := by
  obtain ⟨v, ha, hB⟩ := h
  exact down_any ha
theorem bytes_st (h : St w0 g d w) : Calls Try.prog 25 #[.pointer (some ⟨g, 0, none⟩)] w fun e w' => ∃ A, e = .returned (.slice A d.data.length d.data.length) ∧ BC w' A d.data ∧ St w0 g d w' ∧ Below w.heap.size w w' := by
  obtain ⟨v, ha, hB⟩ := h
  exact (bytes_any ha).mono fun e w' ⟨A, he, hC, hb⟩ => ⟨A, he, hC, St.mv ⟨v, ha, hB⟩ hb, hb⟩
theorem open_st (h : St w0 g d w) : Calls Try.prog 19 #[.pointer (some ⟨g, 0, none⟩)] w fun e w' => St w0 g d.open_.2 w' ∧ ∃ vj vl, e = .returned (.tuple #[vj, vl, .int .i64 d.open_.1]) ∧
    ((d.open_.1 = 0 ∧ ∃ j, vj = .pointer (some ⟨j, 0, none⟩) ∧ Sj w0 g j (scanAll d.data).1.length false d.open_.2 w' ∧ kbs.R 22 w' w0.heap.size (fun _ => True) vl ((scanAll d.data).1.map ib)) ∨ (d.open_.1 ≠ 0 ∧ vj = .pointer none ∧ vl = .slice none 0 0)) := by
  obtain ⟨v, ha, hB⟩ := h
  refine (open_any ha).mono fun e w' ⟨hp, vj, vl, he, hr⟩ => ⟨St.post ha hB hp, vj, vl, he, ?_⟩
  rcases hr with ⟨h0, j, hj, hja, hl, hR⟩ | hr
  · left
    obtain ⟨v', a2, hB2⟩ := St.post ha hB hp
    exact ⟨h0, j, hj, ⟨v', a2, hB2, hja, Nat.le_trans hB.size hl⟩, Kd.R_lower hR hB.size⟩
  · exact .inr hr
theorem append_st {A : Option Addr} {b : List UInt8} {c : Nat} (h : Sj w0 g j n ended d w) (hC : BC w0 A b) (hc : b.length ≤ c) (hb : b.length < 900000000) (hn : n < 1000000000) :
    Calls Try.prog 20 #[.pointer (some ⟨j, 0, none⟩), .slice A b.length c] w fun e w' => e = .returned (.int .i64 (d.app ended b).1) ∧ Sj w0 g j (if (d.app ended b).1 = 0 then n + 1 else n) (ended || (d.app ended b).1 == 13) (d.app ended b).2 w' := by
  obtain ⟨v, ha, hB, hj, hl⟩ := h
  refine (append_any ha hj ((own_ne ha.row hj (by decide)).symm) (hC.arg hB) hc hb hn hB.size).mono fun e w' ⟨he, v', a2, j2, c2, _⟩ => ⟨he, v', a2, c2.below hB hB.size (fun i _ hi => ?_), j2, hl⟩
  rcases hi with hi | rfl
  · exact ha.ft i hi
  · exact hl
theorem len_st (h : Sj w0 g j n ended d w) : Calls Try.prog 21 #[.pointer (some ⟨j, 0, none⟩)] w fun e w' => e = .returned (.int .i64 n) ∧ w = w' := by
  obtain ⟨v, ha, hB, hj, hl⟩ := h
  exact len_any hj
end
end Go.Proofs.Ytiacjbandhedhaa.Jn

/- The reference's device: it does what the program's does. -/
namespace Go.Proofs.Ytiacjbandhedhaa.Jn
open Go.RowKit Go.Proofs.YtiacjbandhedhaaW.PrintWords Go.Proofs.YtiacjbandhedhaaW.PrintLast Go.Proofs.YtiacjbandhedhaaW.PrintMore
attribute [local go_sem] max2_int min2_int max_two min_two
set_option linter.unusedSimpArgs false
set_option linter.unusedVariables false
/-- The contents stand in a new row, other cells of the device are set. -/
theorem DPost.fresh {T : Nat} {w w1 w' : World} {base g : Nat} {v v1 : Value} {d d' : Dv} {x : List UInt8} (h : DAt T w base g v d) (hb : Below w.heap.size w w1) (hr : BO w1 w.heap.size v1 x) (hn : ∃ b, v1.ownBlock = some b ∧ w.heap.size ≤ b) (hc : Chg w1 w' (fun i => i = g))
    (hblk : w'.heap[g]? = some (.cells #[.int .i64 d'.size, v1, .int .i64 d'.safe, .bool d'.off, .int .i64 d'.armed] T (0, 0))) (hd : d'.data = x) (ho : d'.ok) : DPost T base g v w d' w' := by
  have hlt := h.lt
  refine ⟨v1, ⟨hblk, ?_, h.hb, ho⟩, (Chg.of_below hb (Ft g v)).trans (hc.mono (S' := Ft g v) (fun _ _ e => .inl e)) (fun _ _ e => e), .inr hn⟩
  rw [hd]
  exact (hr.lower (Nat.le_trans h.hb (Nat.le_of_lt hlt))).chg hc (fun k hk e => by have := own_base hr k hk; omega)
theorem lit_own {w : World} {v : Value} {n c : Nat} (h : v.ownBlock = (Value.slice (some ⟨w.heap.size, 0, none⟩) n c).ownBlock ∨ ∃ b, v.ownBlock = some b ∧ w.heap.size ≤ b) : ∃ b, v.ownBlock = some b ∧ w.heap.size ≤ b := by
  rcases h with h | h
  · exact ⟨w.heap.size, h, Nat.le_refl _⟩
  · exact h
set_option maxRecDepth 1000000 in
set_option maxHeartbeats 4000000 in
theorem rop_any {w : World} {base g : Nat} {v : Value} {d : Dv} (h : DAt 57 w base g v d) :
    Calls Try.prog 50 #[.pointer (some ⟨g, 0, none⟩)] w (OpRes 57 base g v w (.bool d.op.1) d.op.2) := by
  have H := Lib.hid h
  obtain ⟨a0, a1, a2, a3, a4⟩ := h.cells
  have f3 := h.frozen 3
  have f4 := h.frozen 4
  have hok := h.ok
  have HOK := Lib.hid (Dv.op_ok h.ok)
  unfold Dv.ok at hok
  clear h
  have HO := Lib.hid (show d.op = if 0 < d.armed then (if d.armed - 1 = 0 then (false, { d with off := true, armed := 0 }) else (true, { d with armed := d.armed - 1 })) else (true, d) from rfl)
  by_cases c0 : 0 < d.armed
  · by_cases c1 : d.armed - 1 = 0
    · have HO2 := Lib.hid (HO.out.trans ((if_pos c0).trans (if_pos c1)))
      rw [HO2.out] at HOK ⊢
      clear HO HO2
      go_enter Try.func50, Try.ntmps50
      go_wp2
      go_ret
      exact OpRes.mk_ H.out (by decide) ((chg_set w g 4 _).trans (chg_set _ g 3 _) (fun _ _ e => e)) (by simpa using blk_set (blk_set H.out.blk 4 (.int .i64 0)) 3 (.bool true)) rfl HOK.out
    · have HO2 := Lib.hid (HO.out.trans ((if_pos c0).trans (if_neg c1)))
      have c2 : ((d.armed - 1) == 0) = false := by simpa using c1
      rw [HO2.out] at HOK ⊢
      clear HO HO2
      go_enter Try.func50, Try.ntmps50
      go_wp2
      go_ret
      exact OpRes.mk_ H.out (by decide) (chg_set w g 4 _) (by simpa using blk_set H.out.blk 4 (.int .i64 (d.armed - 1))) rfl HOK.out
  · have HO2 := Lib.hid (HO.out.trans (if_neg c0))
    rw [HO2.out] at HOK ⊢
    clear HO HO2
    go_enter Try.func50, Try.ntmps50
    go_wp2
    go_ret
    exact ⟨rfl, H.out, Chg.refl _ _⟩
set_option maxRecDepth 1000000 in
set_option maxHeartbeats 4000000 in
theorem rsync_any {w : World} {base g : Nat} {v : Value} {d : Dv} (h : DAt 57 w base g v d) :
    Calls Try.prog 47 #[.pointer (some ⟨g, 0, none⟩)] w (DRes 57 base g v w d.sync.1 d.sync.2) := by
  have H := Lib.hid h
  obtain ⟨a0, a1, a2, a3, a4⟩ := h.cells
  obtain ⟨Av, cv, hv, hlv, hCv⟩ := h.row.reads
  have HD := Lib.hid (show d.sync = if d.off = true then (13, d) else if d.op.1 = true then (0, { d.op.2 with safe := d.data.length }) else (13, d.op.2) from rfl)
  have HOK := Lib.hid (Dv.sync_ok h.ok)
  clear h hCv
  cases hoff : d.off with
  | true =>
    have HD2 := Lib.hid (HD.out.trans (if_pos hoff))
    rw [hoff] at a3
    clear HD hoff hv
    go_enter Try.func47, Try.ntmps47
    go_wp2
    go_ret
    rw [HD2.out]
    exact ⟨rfl, DPost.refl H.out⟩
  | false =>
    have HD2 := Lib.hid (HD.out.trans (if_neg (by simp [hoff])))
    rw [hoff] at a3
    have HV := Lib.hid hv
    rw [hv] at a1
    clear HD hoff hv
    go_enter Try.func47, Try.ntmps47
    go_wp2_with fail
    refine (rop_any H.out).mono ?_
    rintro e w2 ⟨rfl, ha2, hc2⟩
    have HCH := Lib.hid (hc2.mono (S' := Ft g v) (fun _ _ e => .inl e))
    have HA2 := Lib.hid ha2
    clear a0 a1 a2 a3 a4 hc2
    cases hop : d.op.1 with
    | false =>
      have HD4 := Lib.hid (HD2.out.trans (if_neg (by simp [hop])))
      clear HD2 hop ha2
      go_wp2
      go_ret
      rw [HD4.out]
      exact ⟨rfl, v, HA2.out, HCH.out, .inl rfl⟩
    | true =>
      have HD4 := Lib.hid (HD2.out.trans (if_pos hop))
      rw [HD4.out] at HOK
      obtain ⟨s1, s2, s3⟩ := d.op_same
      have HS := Lib.hid s2
      clear HD2 hop s1 s2 s3
      obtain ⟨a0, a1, a2, a3, a4⟩ := ha2.cells
      have f2 := ha2.frozen 2
      rw [HV.out] at a1
      clear ha2
      go_wp2
      go_ret
      rw [HD4.out]
      have hp := DPost.same HA2.out (d' := { d.op.2 with safe := d.data.length }) (by decide) (chg_set w2 g 2 (.int .i64 d.data.length)) (by simpa using blk_set HA2.out.blk 2 (.int .i64 d.data.length)) rfl HOK.out
      exact ⟨rfl, DPost.trans HA2.out HCH.out (.inl rfl) hp⟩
theorem rfail_any {w : World} {base g : Nat} {v : Value} {d : Dv} (h : DAt 57 w base g v d) (n : Int) (hn : n ≤ 9223372036854775807) :
    Calls Try.prog 33 #[.pointer (some ⟨g, 0, none⟩), .int .i64 n] w fun e w' => e = .returned (.tuple #[]) ∧ DPost 57 base g v w (d.fail n) w' := by
  have H := Lib.hid h
  have f4 := h.frozen 4
  obtain ⟨a0, a1, a2, a3, a4⟩ := h.cells
  have HOK := Lib.hid (Dv.fail_ok h.ok hn)
  clear h
  by_cases h0 : n < 0
  · have HF := Lib.hid (show d.fail n = { d with armed := 0 } by unfold Dv.fail; rw [if_pos h0])
    rw [HF.out] at HOK
    go_enter Try.func33, Try.ntmps33
    go_wp2
    go_end0
    rw [HF.out]
    exact ⟨rfl, DPost.same H.out (by decide) (chg_set w g 4 _) (by simpa using blk_set H.out.blk 4 (.int .i64 0)) rfl HOK.out⟩
  · have HF := Lib.hid (show d.fail n = { d with armed := n } by unfold Dv.fail; rw [if_neg h0])
    rw [HF.out] at HOK
    go_enter Try.func33, Try.ntmps33
    go_wp2
    go_end0
    rw [HF.out]
    exact ⟨rfl, DPost.same H.out (by decide) (chg_set w g 4 _) (by simpa using blk_set H.out.blk 4 (.int .i64 n)) rfl HOK.out⟩
set_option maxRecDepth 1000000 in
set_option maxHeartbeats 4000000 in
theorem rnewdev_any (w : World) (base : Nat) (hb : base ≤ w.heap.size) (n : Int) (hn : n ≤ 9223372036854775807) :
    Calls Try.prog 29 #[.int .i64 n] w (NewRes 57 base w (dv0 n)) := by
  obtain ⟨m, hm⟩ : ∃ m : Nat, min n.toNat 1048576 = m := ⟨_, rfl⟩
  have HM := Lib.hid hm
  obtain ⟨kk, e1⟩ : ∃ kk : Int, (if n < 0 then (0 : Int) else n) = kk := ⟨_, rfl⟩
  have e2 : (if 1048576 < kk then (1048576 : Int) else kk) = (m : Int) := by
    split at e1 <;> split <;> omega
  clear hm
  go_enter Try.func29, Try.ntmps29
  go_wp2
  go_ret
  refine ⟨w.heap.size, .slice none 0 0, rfl, ⟨?_, BO.nil _ _, hb, dv0_ok n⟩, (Below.refl _ _).alloc (Nat.le_refl _) _, Nat.le_refl _, fun k h => by cases h⟩
  show _ = some (Obj.cells #[.int .i64 ((min n.toNat 1048576 : Nat) : Int), _, _, _, _] 57 (0, 0))
  rw [HM.out]
  exact blk_new w _
end Go.Proofs.Ytiacjbandhedhaa.Jn
