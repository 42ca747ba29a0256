/- BestfirstBudget: a greater budget changes nothing but the error of a budget that was too small. -/
import Derived.Test.YtipdejalohmkpaaLa
namespace Go.Proofs.Ytipdejalohmkpaa.Sr
variable {σ : Type}
theorem run_more (p : Prob σ) (goal : σ → Bool) (b b' : Nat) (hb : b ≤ b') : ∀ (k : Nat) (L : List (Ent σ)) (order : List σ) (added : Nat) (o : Out σ), order.length ≤ b → run p goal b k L order added = some o → (∀ l, o ≠ .budget l) → run p goal b' k L order added = some o := by
  intro k
  induction k with
  | zero => intro L order added o _ h; simp [run] at h
  | succ k ih =>
    intro L order added o ho h hn
    rw [run] at h ⊢
    cases hx : L[minIdx L]? with
    | none => rw [hx] at h; exact h
    | some x =>
      rw [hx] at h
      dsimp only at h ⊢
      split at h
      · rename_i hw; rw [if_pos hw]; exact ih _ _ _ _ ho h hn
      · rename_i hw
        rw [if_neg hw]
        split at h
        · rename_i hg; rw [if_pos hg]; exact h
        · rename_i hg
          rw [if_neg hg]
          split at h
          · injection h with h; exact absurd h.symm (hn _)
          · rename_i hbb
            rw [if_neg (by omega)]
            exact ih _ _ _ _ (by simp; omega) h hn
theorem run_order (p : Prob σ) (goal : σ → Bool) (b : Nat) : ∀ (k : Nat) (L : List (Ent σ)) (order : List σ) (added : Nat) (o : List σ), order.length ≤ b → run p goal b k L order added = some (.notFound o) → o.length ≤ b := by
  intro k
  induction k with
  | zero => intro L order added o _ h; simp [run] at h
  | succ k ih =>
    intro L order added o ho h
    rw [run] at h
    cases hx : L[minIdx L]? with
    | none => rw [hx] at h; injection h with h; injection h with h; subst h; exact ho
    | some x =>
      rw [hx] at h
      dsimp only at h
      split at h
      · exact ih _ _ _ _ ho h
      · split at h
        · cases h
        · split at h
          · cases h
          · exact ih _ _ _ _ (by simp; omega) h
end Go.Proofs.Ytipdejalohmkpaa.Sr

namespace Go.Proofs.Ytipdejalohmkpaa.Gr
open Go.RowKit Go.Proofs.YtipdejalohmkpaaW.PrintWords Go.Proofs.YtipdejalohmkpaaW.PrintLast Go.Proofs.YtipdejalohmkpaaW.PrintMore PBestfirstDistances

theorem out_more (g : Gph) (hl : g.large = false) (goal : Int → Bool) (b b' : Nat) (s : Int) (hs : g.has s = true) (hb : b ≤ b') (hn : ∀ l, g.out goal b s ≠ .budget l) : g.out goal b' s = g.out goal b s := by
  have h1 := out_run g hl goal b s hs
  have h2 := out_run g hl goal b' s hs
  have h3 := Sr.run_more g.prob goal b b' hb 200 _ _ _ _ (by simp) h1 hn
  rw [h2] at h3
  injection h3
theorem sres_err (g : Gph) (s b : Int) (h1 : 1 ≤ b) (h2 : b ≤ 1048576) : (sres g s b).2.2 = 0 ∨ (sres g s b).2.2 = 4 ∨ (sres g s b).2.2 = 7 := by
  unfold sres
  rw [if_neg (by omega)]
  cases g.out g.goal b.toNat s <;> simp
theorem sres_more (g : Gph) (hl : g.large = false) (s b m : Int) (hs : g.has s = true) (h1 : 1 ≤ b) (h2 : b + m ≤ 1048576) (hm : 0 ≤ m) (he : (sres g s b).2.2 ≠ 7) : sres g s (b + m) = sres g s b := by
  unfold sres at he ⊢
  rw [if_neg (by omega)] at he
  rw [if_neg (by omega), if_neg (by omega)]
  rw [out_more g hl g.goal b.toNat (b + m).toNat s hs (by omega) (fun l e => by rw [e] at he; exact he rfl)]
theorem rres_len (g : Gph) (hl : g.large = false) (s b : Int) (hs : g.has s = true) (h1 : 1 ≤ b) (h2 : b ≤ 1048576) : ((rres g s b).1.length : Int) ≤ b := by
  unfold rres
  rw [if_neg (by omega)]
  have h := out_run g hl (fun _ => false) b.toNat s hs
  cases e : g.out (fun _ => false) b.toNat s with
  | notFound o =>
    rw [e] at h
    have := Sr.run_order g.prob _ b.toNat 200 _ _ _ o (by simp) h
    simp only; omega
  | budget o => simp; omega
  | found x o => simp; omega
theorem rres_err (g : Gph) (s b : Int) (h1 : 1 ≤ b) (h2 : b ≤ 1048576) : (rres g s b).2 = 0 ∨ (rres g s b).2 = 7 := by
  unfold rres
  rw [if_neg (by omega)]
  cases g.out (fun _ => false) b.toNat s <;> simp
theorem sres_len (g : Gph) (hl : g.large = false) (s b : Int) (hs : g.has s = true) : (sres g s b).1.length < 1000000000 := by
  unfold sres
  split
  · simp
  · rename_i hb
    have h := out_run g hl g.goal b.toNat s hs
    cases e : g.out g.goal b.toNat s with
    | notFound o => simp
    | budget o => simp
    | found x o =>
      rw [e] at h
      have := Sr.run_len g.prob g.goal b.toNat 200 [⟨s, [], 0, 0⟩] [] 1 x o (by simp) (by simp) h
      simp only [List.length_reverse]; omega

section
variable {g : Gph} {w : World} {A0 A1 A2 : Option Addr} {c0 c1 c2 : Nat}
abbrev gv (g : Gph) (A0 : Option Addr) (c0 : Nat) (A1 : Option Addr) (c1 : Nat) (A2 : Option Addr) (c2 : Nat) : Value := .agg #[.slice A0 g.E.length c0, .slice A1 g.K.length c1, .slice A2 g.Gs.length c2]
set_option maxRecDepth 1000000 in
set_option maxHeartbeats 4000000 in
/-- Where a guard lets the input out. -/
theorem budget_out (h : GAt g w A0 c0 A1 c1 A2 c2) (s b m : Int) (hg : g.large = true ∨ g.has s = false ∨ b < 1 ∨ 1000 < b ∨ m < 0 ∨ 1000 < m) :
    Calls Try.prog 8 #[.agg #[.slice A0 g.E.length c0, .slice A1 g.K.length c1, .slice A2 g.Gs.length c2], .int .i64 s, .int .i64 b, .int .i64 m] w fun e w' => e = .returned (.bool true) ∧ Below w.heap.size w w' := by
  have HA := Lib.hid (show Below w.heap.size w (w.alloc (.cells #[.slice A0 g.E.length c0, .slice A1 g.K.length c1, .slice A2 g.Gs.length c2] 26)) from (Below.refl _ _).alloc (Nat.le_refl _) _)
  have HGB := Lib.hid (GB.make h)
  clear h
  go_enter Try.func8, Try.ntmps8
  go_wp2_with fail
  refine (awake_any _).mono ?_
  rintro e w1 ⟨rfl, hb1⟩
  have HGB1 := Lib.hid (HGB.out.below hb1)
  have HA1 := Lib.hid (below_then HA.out HA.out.size hb1)
  obtain ⟨q0, q1, q2⟩ := HGB1.out.cells
  clear hb1 HGB
  go_wp2_with fail
  cases hl : g.large with
  | true =>
    refine (glarge_is HGB1.out.at_ true hl).mono ?_
    rintro e w2 ⟨rfl, hb2⟩
    have HA2 := Lib.hid (below_then HA1.out HA1.out.size hb2)
    clear hb2 q0 q1 q2 hg hl
    go_wp2
    go_ret
    exact ⟨rfl, HA2.out⟩
  | false =>
    refine (glarge_is HGB1.out.at_ false hl).mono ?_
    rintro e w2 ⟨rfl, hb2⟩
    have HGB2 := Lib.hid (HGB1.out.below hb2)
    have HA2 := Lib.hid (below_then HA1.out HA1.out.size hb2)
    clear hb2 q0 q1 q2
    obtain ⟨q0, q1, q2⟩ := HGB2.out.cells
    go_wp2_with fail
    cases hs : g.has s with
    | false =>
      refine (ghas_is HGB2.out.at_ s false hs).mono ?_
      rintro e w3 ⟨rfl, hb3⟩
      have HA3 := Lib.hid (below_then HA2.out HA2.out.size hb3)
      clear hb3 q0 q1 q2 hg hl hs
      go_wp2
      go_ret
      exact ⟨rfl, HA3.out⟩
    | true =>
      refine (ghas_is HGB2.out.at_ s true hs).mono ?_
      rintro e w3 ⟨rfl, hb3⟩
      have HA3 := Lib.hid (below_then HA2.out HA2.out.size hb3)
      rw [hl, hs] at hg
      clear hb3 q0 q1 q2 hl hs
      by_cases d1 : b < 1
      · have e1 := decide_eq_true d1
        clear hg
        go_wp2
        go_ret
        exact ⟨rfl, HA3.out⟩
      · have e1 := decide_eq_false d1
        by_cases d2 : 1000 < b
        · have e2 := decide_eq_true d2
          clear hg
          go_wp2
          go_ret
          exact ⟨rfl, HA3.out⟩
        · have e2 := decide_eq_false d2
          by_cases d3 : m < 0
          · have e3 := decide_eq_true d3
            clear hg
            go_wp2
            go_ret
            exact ⟨rfl, HA3.out⟩
          · have e3 := decide_eq_false d3
            have d4 : 1000 < m := by simp at hg; omega
            have e4 := decide_eq_true d4
            clear hg
            go_wp2
            go_ret
            exact ⟨rfl, HA3.out⟩

set_option maxRecDepth 1000000 in
set_option maxHeartbeats 8000000 in
/-- Where no guard does. -/
theorem budget_in (h : GAt g w A0 c0 A1 c1 A2 c2) (s b m : Int) (hl : g.large = false) (hs : g.has s = true) (hb0 : 1 ≤ b) (hb1 : b ≤ 1000) (hm0 : 0 ≤ m) (hm1 : m ≤ 1000) :
    Calls Try.prog 8 #[.agg #[.slice A0 g.E.length c0, .slice A1 g.K.length c1, .slice A2 g.Gs.length c2], .int .i64 s, .int .i64 b, .int .i64 m] w fun e w' => e = .returned (.bool true) ∧ Below w.heap.size w w' := by
  have HA := Lib.hid (show Below w.heap.size w (w.alloc (.cells #[.slice A0 g.E.length c0, .slice A1 g.K.length c1, .slice A2 g.Gs.length c2] 26)) from (Below.refl _ _).alloc (Nat.le_refl _) _)
  have HGB := Lib.hid (GB.make h)
  clear h
  obtain ⟨⟨p, c, e⟩, hr1⟩ : ∃ r, sres g s b = r := ⟨_, rfl⟩
  obtain ⟨⟨p', c', e'⟩, hr2⟩ : ∃ r, sres g s (b + m) = r := ⟨_, rfl⟩
  obtain ⟨⟨l, f⟩, hr3⟩ : ∃ r, rres g s (b + m) = r := ⟨_, rfl⟩
  have HE := Lib.hid (sres_err g s b hb0 (by omega))
  have HE' := Lib.hid (sres_err g s (b + m) (by omega) (by omega))
  have HMORE := Lib.hid (sres_more g hl s b m hs hb0 (by omega) hm0)
  have HLEN := Lib.hid (rres_len g hl s (b + m) hs (by omega) (by omega))
  have HF := Lib.hid (rres_err g s (b + m) (by omega) (by omega))
  have HPL := Lib.hid (sres_len g hl s b hs)
  rw [hr1] at HE HMORE HPL
  rw [hr2] at HE' HMORE
  rw [hr3] at HLEN HF
  have HR1 := Lib.hid hr1
  have HR2 := Lib.hid hr2
  have HR3 := Lib.hid hr3
  have HL := Lib.hid hl
  have HS := Lib.hid hs
  clear hr1 hr2 hr3 hl hs
  have hsum0 : 1 ≤ b + m := by omega
  have hsum1 : b + m ≤ 2000 := by omega
  go_enter Try.func8, Try.ntmps8
  go_wp2_with fail
  refine (awake_any _).mono ?_
  rintro en w1 ⟨rfl, hb1'⟩
  have HGB1 := Lib.hid (HGB.out.below hb1')
  have HA1 := Lib.hid (below_then HA.out HA.out.size hb1')
  obtain ⟨q0, q1, q2⟩ := HGB1.out.cells
  clear hb1' HGB
  go_wp2_with fail
  refine (glarge_is HGB1.out.at_ false HL.out).mono ?_
  rintro en w2 ⟨rfl, hb2⟩
  have HGB2 := Lib.hid (HGB1.out.below hb2)
  have HA2 := Lib.hid (below_then HA1.out HA1.out.size hb2)
  clear hb2 q0 q1 q2
  obtain ⟨q0, q1, q2⟩ := HGB2.out.cells
  go_wp2_with fail
  refine (ghas_is HGB2.out.at_ s true HS.out).mono ?_
  rintro en w3 ⟨rfl, hb3⟩
  have HGB3 := Lib.hid (HGB2.out.below hb3)
  have HA3 := Lib.hid (below_then HA2.out HA2.out.size hb3)
  clear hb3 q0 q1 q2
  obtain ⟨q0, q1, q2⟩ := HGB3.out.cells
  go_wp2_with fail
  refine (lsearch_is HGB3.out.at_ HL.out s HS.out b p c e HR1.out).mono ?_
  rintro en w4 ⟨v1, rfl, hv1, hb4⟩
  obtain ⟨B1, d1, rfl, m1, g1⟩ := Kd.R_reads hv1
  have HGB4 := Lib.hid (HGB3.out.below hb4)
  have HA4 := Lib.hid (below_then HA3.out HA3.out.size hb4)
  have HV1 := Lib.hid g1
  clear hb4 q0 q1 q2 hv1 g1
  obtain ⟨q0, q1, q2⟩ := HGB4.out.cells
  go_wp2_with fail
  refine (lsearch_is HGB4.out.at_ HL.out s HS.out (b + m) p' c' e' HR2.out).mono ?_
  rintro en w5 ⟨v2, rfl, hv2, hb5⟩
  obtain ⟨B2, d2, rfl, m2, g2⟩ := Kd.R_reads hv2
  have HGB5 := Lib.hid (HGB4.out.below hb5)
  have HA5 := Lib.hid (below_then HA4.out HA4.out.size hb5)
  have HV2 := Lib.hid g2
  have HV1b := Lib.hid (Kd.C_below HV1.out hb5)
  clear hb5 q0 q1 q2 hv2 g2 HV1
  obtain ⟨q0, q1, q2⟩ := HGB5.out.cells
  by_cases he : e = 7
  · subst he
    have hx := HE'.out

    rcases hx with rfl | rfl | rfl
    all_goals
      go_wp2
      go_ret
      exact ⟨rfl, HA5.out⟩
  · have heq := HMORE.out he
    injection heq with h1 h2
    injection h2 with h2 h3
    subst h1 h2 h3
    have e7 : (e' == 7) = false := by rw [beq_eq_false_iff_ne]; exact he
    clear he
    go_wp2_with fail
    refine (lreach_is HGB5.out.at_ HL.out s HS.out (b + m) l f HR3.out).mono ?_
    rintro en w6 ⟨v3, rfl, hv3, hb6⟩
    obtain ⟨B3, d3, rfl, m3, g3⟩ := Kd.R_reads hv3
    have HA6 := Lib.hid (below_then HA5.out HA5.out.size hb6)
    have HV1c := Lib.hid (Kd.C_below HV1b.out hb6)
    have HV2c := Lib.hid (Kd.C_below HV2.out hb6)
    clear hb6 q0 q1 q2 hv3 g3
    go_wp2_with fail
    refine (same_any HV1c.out m1 HV2c.out m2 HPL.out true (by simp)).mono ?_
    rintro en w7 ⟨rfl, hd⟩
    have HA7 := Lib.hid (below_then HA6.out HA6.out.size hd.below)
    clear hd
    have hll : (l.length : Int) ≤ b + m := HLEN.out
    have dll : decide ((l.length : Int) ≤ b + m) = true := decide_eq_true hll
    have hx := HF.out

    rcases hx with rfl | rfl
    all_goals
      go_wp2
      go_ret
      exact ⟨rfl, HA7.out⟩
theorem budget_law (h : GAt g w A0 c0 A1 c1 A2 c2) (s b m : Int) :
    Calls Try.prog 8 #[.agg #[.slice A0 g.E.length c0, .slice A1 g.K.length c1, .slice A2 g.Gs.length c2], .int .i64 s, .int .i64 b, .int .i64 m] w fun e w' => e = .returned (.bool true) ∧ Below w.heap.size w w' := by
  by_cases hg : g.large = true ∨ g.has s = false ∨ b < 1 ∨ 1000 < b ∨ m < 0 ∨ 1000 < m
  · exact budget_out h s b m hg
  · simp only [not_or, Bool.not_eq_true, Bool.not_eq_false, Int.not_lt] at hg
    exact budget_in h s b m hg.1 hg.2.1 hg.2.2.1 hg.2.2.2.1 hg.2.2.2.2.1 hg.2.2.2.2.2
end
end Go.Proofs.Ytipdejalohmkpaa.Gr
