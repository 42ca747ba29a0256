/- BestfirstDistance: whatever the input, the call returns true, and the input reads as it did. No conditions. -/
import Derived.Test.YtipdejalohmkpaaBBestfirstDistance5
import Derived.Test.YtipdejalohmkpaaBBestfirstDistance4
import Derived.Test.YtipdejalohmkpaaRows
import Derived.WalkKit
import Derived.ProofKit
import Derived.OpenShut
import Derived.ShutString
import Derived.ChangeOld
import Derived.Below
import Derived.SizedLaws
/- BestfirstBudget: a greater budget changes nothing but the error of a budget that was too small. -/
namespace Go.Proofs.Ytipdejalohmkpaa.Sr
variable {σ : Type}
theorem run_more (p : Prob σ) (goal : σ → Bool) (b b' : Nat) (hb : b ≤ b') : ∀ (k : Nat) (L : List (Ent σ)) (order : List σ) (added : Nat) (o : Out σ), order.length ≤ b → run p goal b k L order added = some o → (∀ l, o ≠ .budget l) → run p goal b' k L order added = some o := by
  intro k
  induction k with
  | zero => intro L order added o _ h; simp [run] at h
  | succ k ih =>
    intro L order added o ho h hn
    rw [run] at h ⊢
    cases hx : L[minIdx L]? with
    | none => rw [hx] at h; exact h
    | some x =>
      rw [hx] at h
      dsimp only at h ⊢
      split at h
      · rename_i hw; rw [if_pos hw]; exact ih _ _ _ _ ho h hn
      · rename_i hw
        rw [if_neg hw]
        split at h
        · rename_i hg; rw [if_pos hg]; exact h
        · rename_i hg
          rw [if_neg hg]
          split at h
          · injection h with h; exact absurd h.symm (hn _)
          · rename_i hbb
            rw [if_neg (by omega)]
            exact ih _ _ _ _ (by simp; omega) h hn
theorem run_order (p : Prob σ) (goal : σ → Bool) (b : Nat) : ∀ (k : Nat) (L : List (Ent σ)) (order : List σ) (added : Nat) (o : List σ), order.length ≤ b → run p goal b k L order added = some (.notFound o) → o.length ≤ b := by
  intro k
  induction k with
  | zero => intro L order added o _ h; simp [run] at h
  | succ k ih =>
    intro L order added o ho h
    rw [run] at h
    cases hx : L[minIdx L]? with
    | none => rw [hx] at h; injection h with h; injection h with h; subst h; exact ho
    | some x =>
      rw [hx] at h
      dsimp only at h
      split at h
      · exact ih _ _ _ _ ho h
      · split at h
        · cases h
        · split at h
          · cases h
          · exact ih _ _ _ _ (by simp; omega) h
end Go.Proofs.Ytipdejalohmkpaa.Sr

namespace Go.Proofs.Ytipdejalohmkpaa.Gr
open Go.RowKit Go.Proofs.YtipdejalohmkpaaW.PrintWords Go.Proofs.YtipdejalohmkpaaW.PrintLast Go.Proofs.YtipdejalohmkpaaW.PrintMore PBestfirstDistances

theorem out_more (g : Gph) (hl : g.large = false) (goal : Int → Bool) (b b' : Nat) (s : Int) (hs : g.has s = true) (hb : b ≤ b') (hn : ∀ l, g.out goal b s ≠ .budget l) : g.out goal b' s = g.out goal b s := by
  have h1 := out_run g hl goal b s hs
  have h2 := out_run g hl goal b' s hs
  have h3 := Sr.run_more g.prob goal b b' hb 200 _ _ _ _ (by simp) h1 hn
  rw [h2] at h3
  injection h3
theorem sres_err (g : Gph) (s b : Int) (h1 : 1 ≤ b) (h2 : b ≤ 1048576) : (sres g s b).2.2 = 0 ∨ (sres g s b).2.2 = 4 ∨ (sres g s b).2.2 = 7 := by
  unfold sres
  rw [if_neg (by omega)]
  cases g.out g.goal b.toNat s <;> simp
theorem sres_more (g : Gph) (hl : g.large = false) (s b m : Int) (hs : g.has s = true) (h1 : 1 ≤ b) (h2 : b + m ≤ 1048576) (hm : 0 ≤ m) (he : (sres g s b).2.2 ≠ 7) : sres g s (b + m) = sres g s b := by
  unfold sres at he ⊢
  rw [if_neg (by omega)] at he
  rw [if_neg (by omega), if_neg (by omega)]
  rw [out_more g hl g.goal b.toNat (b + m).toNat s hs (by omega) (fun l e => by rw [e] at he; exact he rfl)]
theorem rres_len (g : Gph) (hl : g.large = false) (s b : Int) (hs : g.has s = true) (h1 : 1 ≤ b) (h2 : b ≤ 1048576) : ((rres g s b).1.length : Int) ≤ b := by
  unfold rres
  rw [if_neg (by omega)]
  have h := out_run g hl (fun _ => false) b.toNat s hs
  cases e : g.out (fun _ => false) b.toNat s with
  | notFound o =>
    rw [e] at h
    have := Sr.run_order g.prob _ b.toNat 200 _ _ _ o (by simp) h
    simp only; omega
  | budget o => simp; omega
  | found x o => simp; omega
theorem rres_err (g : Gph) (s b : Int) (h1 : 1 ≤ b) (h2 : b ≤ 1048576) : (rres g s b).2 = 0 ∨ (rres g s b).2 = 7 := by
  unfold rres
  rw [if_neg (by omega)]
  cases g.out (fun _ => false) b.toNat s <;> simp
theorem sres_len (g : Gph) (hl : g.large = false) (s b : Int) (hs : g.has s = true) : (sres g s b).1.length < 1000000000 := by
  unfold sres
  split
  · simp
  · rename_i hb
    have h := out_run g hl g.goal b.toNat s hs
    cases e : g.out g.goal b.toNat s with
    | notFound o => simp
    | budget o => simp
    | found x o =>
      rw [e] at h
      have := Sr.run_len g.prob g.goal b.toNat 200 [⟨s, [], 0, 0⟩] [] 1 x o (by simp) (by simp) h
      simp only [List.length_reverse]; omega

section
variable {g : Gph} {w : World} {A0 A1 A2 : Option Addr} {c0 c1 c2 : Nat}
abbrev gv (g : Gph) (A0 : Option Addr) (c0 : Nat) (A1 : Option Addr) (c1 : Nat) (A2 : Option Addr) (c2 : Nat) : Value := .agg #[.slice A0 g.E.length c0, .slice A1 g.K.length c1, .slice A2 g.Gs.length c2]
set_option maxRecDepth 1000000 in
set_option maxHeartbeats 4000000 in
/-- Where a guard lets the input out. -/
theorem budget_out (h : GAt g w A0 c0 A1 c1 A2 c2) (s b m : Int) (hg : g.large = true ∨ g.has s = false ∨ b < 1 ∨ 1000 < b ∨ m < 0 ∨ 1000 < m) :
    Calls Try.prog 8 #[.agg #[.slice A0 g.E.length c0, .slice A1 g.K.length c1, .slice A2 g.Gs.length c2], .int .i64 s, .int .i64 b, .int .i64 m] w fun e w' => e = .returned (.bool true) ∧ Below w.heap.size w w' := by
  have HA := Lib.hid (show Below w.heap.size w (w.alloc (.cells #[.slice A0 g.E.length c0, .slice A1 g.K.length c1, .slice A2 g.Gs.length c2] 26)) from (Below.refl _ _).alloc (Nat.le_refl _) _)
  have HGB := Lib.hid (GB.make h)
  clear h
  go_enter Try.func8, Try.ntmps8
  go_wp2_with fail
  refine (awake_any _).mono ?_
  rintro e w1 ⟨rfl, hb1⟩
  have HGB1 := Lib.hid (HGB.out.below hb1)
  have HA1 := Lib.hid (below_then HA.out HA.out.size hb1)
  obtain ⟨q0, q1, q2⟩ := HGB1.out.cells
  clear hb1 HGB
  go_wp2_with fail
  cases hl : g.large with
  | true =>
    refine (glarge_is HGB1.out.at_ true hl).mono ?_
    rintro e w2 ⟨rfl, hb2⟩
    have HA2 := Lib.hid (below_then HA1.out HA1.out.size hb2)
    clear hb2 q0 q1 q2 hg hl
    go_wp2
    go_ret
    exact ⟨rfl, HA2.out⟩
  | false =>
    refine (glarge_is HGB1.out.at_ false hl).mono ?_
    rintro e w2 ⟨rfl, hb2⟩
    have HGB2 := Lib.hid (HGB1.out.below hb2)
    have HA2 := Lib.hid (below_then HA1.out HA1.out.size hb2)
    clear hb2 q0 q1 q2
    obtain ⟨q0, q1, q2⟩ := HGB2.out.cells
    go_wp2_with fail
    cases hs : g.has s with
    | false =>
      refine (ghas_is HGB2.out.at_ s false hs).mono ?_
      rintro e w3 ⟨rfl, hb3⟩
      have HA3 := Lib.hid (below_then HA2.out HA2.out.size hb3)
      clear hb3 q0 q1 q2 hg hl hs
      go_wp2
      go_ret
      exact ⟨rfl, HA3.out⟩
    | true =>
      refine (ghas_is HGB2.out.at_ s true hs).mono ?_
      rintro e w3 ⟨rfl, hb3⟩
      have HA3 := Lib.hid (below_then HA2.out HA2.out.size hb3)
      rw [hl, hs] at hg
      clear hb3 q0 q1 q2 hl hs
      by_cases d1 : b < 1
      · have e1 := decide_eq_true d1
        clear hg
        go_wp2
        go_ret
        exact ⟨rfl, HA3.out⟩
      · have e1 := decide_eq_false d1
        by_cases d2 : 1000 < b
        · have e2 := decide_eq_true d2
          clear hg
          go_wp2
          go_ret
          exact ⟨rfl, HA3.out⟩
        · have e2 := decide_eq_false d2
          by_cases d3 : m < 0
          · have e3 := decide_eq_true d3
            clear hg
            go_wp2
            go_ret
            exact ⟨rfl, HA3.out⟩
          · have e3 := decide_eq_false d3
            have d4 : 1000 < m := by simp at hg; omega
            have e4 := decide_eq_true d4
            clear hg
            go_wp2
            go_ret
            exact ⟨rfl, HA3.out⟩

set_option maxRecDepth 1000000 in
set_option maxHeartbeats 8000000 in
/-- Where no guard does. -/
theorem budget_in (h : GAt g w A0 c0 A1 c1 A2 c2) (s b m : Int) (hl : g.large = false) (hs : g.has s = true) (hb0 : 1 ≤ b) (hb1 : b ≤ 1000) (hm0 : 0 ≤ m) (hm1 : m ≤ 1000) :
    Calls Try.prog 8 #[.agg #[.slice A0 g.E.length c0, .slice A1 g.K.length c1, .slice A2 g.Gs.length c2], .int .i64 s, .int .i64 b, .int .i64 m] w fun e w' => e = .returned (.bool true) ∧ Below w.heap.size w w' := by
  have HA := Lib.hid (show Below w.heap.size w (w.alloc (.cells #[.slice A0 g.E.length c0, .slice A1 g.K.length c1, .slice A2 g.Gs.length c2] 26)) from (Below.refl _ _).alloc (Nat.le_refl _) _)
  have HGB := Lib.hid (GB.make h)
  clear h
  obtain ⟨⟨p, c, e⟩, hr1⟩ : ∃ r, sres g s b = r := ⟨_, rfl⟩
  obtain ⟨⟨p', c', e'⟩, hr2⟩ : ∃ r, sres g s (b + m) = r := ⟨_, rfl⟩
  obtain ⟨⟨l, f⟩, hr3⟩ : ∃ r, rres g s (b + m) = r := ⟨_, rfl⟩
  have HE := Lib.hid (sres_err g s b hb0 (by omega))
  have HE' := Lib.hid (sres_err g s (b + m) (by omega) (by omega))
  have HMORE := Lib.hid (sres_more g hl s b m hs hb0 (by omega) hm0)
  have HLEN := Lib.hid (rres_len g hl s (b + m) hs (by omega) (by omega))
  have HF := Lib.hid (rres_err g s (b + m) (by omega) (by omega))
  have HPL := Lib.hid (sres_len g hl s b hs)
  rw [hr1] at HE HMORE HPL
  rw [hr2] at HE' HMORE
  rw [hr3] at HLEN HF
  have HR1 := Lib.hid hr1
  have HR2 := Lib.hid hr2
  have HR3 := Lib.hid hr3
  have HL := Lib.hid hl
  have HS := Lib.hid hs
  clear hr1 hr2 hr3 hl hs
  have hsum0 : 1 ≤ b + m := by omega
  have hsum1 : b + m ≤ 2000 := by omega
  go_enter Try.func8, Try.ntmps8
  go_wp2_with fail
  refine (awake_any _).mono ?_
  rintro en w1 ⟨rfl, hb1'⟩
  have HGB1 := Lib.hid (HGB.out.below hb1')
  have HA1 := Lib.hid (below_then HA.out HA.out.size hb1')
  obtain ⟨q0, q1, q2⟩ := HGB1.out.cells
  clear hb1' HGB
  go_wp2_with fail
  refine (glarge_is HGB1.out.at_ false HL.out).mono ?_
  rintro en w2 ⟨rfl, hb2⟩
  have HGB2 := Lib.hid (HGB1.out.below hb2)
  have HA2 := Lib.hid (below_then HA1.out HA1.out.size hb2)
  clear hb2 q0 q1 q2
  obtain ⟨q0, q1, q2⟩ := HGB2.out.cells
  go_wp2_with fail
  refine (ghas_is HGB2.out.at_ s true HS.out).mono ?_
  rintro en w3 ⟨rfl, hb3⟩
  have HGB3 := Lib.hid (HGB2.out.below hb3)
  have HA3 := Lib.hid (below_then HA2.out HA2.out.size hb3)
  clear hb3 q0 q1 q2
  obtain ⟨q0, q1, q2⟩ := HGB3.out.cells
  go_wp2_with fail
  refine (lsearch_is HGB3.out.at_ HL.out s HS.out b p c e HR1.out).mono ?_
  rintro en w4 ⟨v1, rfl, hv1, hb4⟩
  obtain ⟨B1, d1, rfl, m1, g1⟩ := Kd.R_reads hv1
  have HGB4 := Lib.hid (HGB3.out.below hb4)
  have HA4 := Lib.hid (below_then HA3.out HA3.out.size hb4)
  have HV1 := Lib.hid g1
  clear hb4 q0 q1 q2 hv1 g1
  obtain ⟨q0, q1, q2⟩ := HGB4.out.cells
  go_wp2_with fail
  refine (lsearch_is HGB4.out.at_ HL.out s HS.out (b + m) p' c' e' HR2.out).mono ?_
  rintro en w5 ⟨v2, rfl, hv2, hb5⟩
  obtain ⟨B2, d2, rfl, m2, g2⟩ := Kd.R_reads hv2
  have HGB5 := Lib.hid (HGB4.out.below hb5)
  have HA5 := Lib.hid (below_then HA4.out HA4.out.size hb5)
  have HV2 := Lib.hid g2
  have HV1b := Lib.hid (Kd.C_below HV1.out hb5)
  clear hb5 q0 q1 q2 hv2 g2 HV1
  obtain ⟨q0, q1, q2⟩ := HGB5.out.cells
  by_cases he : e = 7
  · subst he
    have hx := HE'.out

    rcases hx with rfl | rfl | rfl
    all_goals
      go_wp2
      go_ret
      exact ⟨rfl, HA5.out⟩
  · have heq := HMORE.out he
    injection heq with h1 h2
    injection h2 with h2 h3
    subst h1 h2 h3
    have e7 : (e' == 7) = false := by rw [beq_eq_false_iff_ne]; exact he
    clear he
    go_wp2_with fail
    refine (lreach_is HGB5.out.at_ HL.out s HS.out (b + m) l f HR3.out).mono ?_
    rintro en w6 ⟨v3, rfl, hv3, hb6⟩
    obtain ⟨B3, d3, rfl, m3, g3⟩ := Kd.R_reads hv3
    have HA6 := Lib.hid (below_then HA5.out HA5.out.size hb6)
    have HV1c := Lib.hid (Kd.C_below HV1b.out hb6)
    have HV2c := Lib.hid (Kd.C_below HV2.out hb6)
    clear hb6 q0 q1 q2 hv3 g3
    go_wp2_with fail
    refine (same_any HV1c.out m1 HV2c.out m2 HPL.out true (by simp)).mono ?_
    rintro en w7 ⟨rfl, hd⟩
    have HA7 := Lib.hid (below_then HA6.out HA6.out.size hd.below)
    clear hd
    have hll : (l.length : Int) ≤ b + m := HLEN.out
    have dll : decide ((l.length : Int) ≤ b + m) = true := decide_eq_true hll
    have hx := HF.out

    rcases hx with rfl | rfl
    all_goals
      go_wp2
      go_ret
      exact ⟨rfl, HA7.out⟩
theorem budget_law (h : GAt g w A0 c0 A1 c1 A2 c2) (s b m : Int) :
    Calls Try.prog 8 #[.agg #[.slice A0 g.E.length c0, .slice A1 g.K.length c1, .slice A2 g.Gs.length c2], .int .i64 s, .int .i64 b, .int .i64 m] w fun e w' => e = .returned (.bool true) ∧ Below w.heap.size w w' := by
  by_cases hg : g.large = true ∨ g.has s = false ∨ b < 1 ∨ 1000 < b ∨ m < 0 ∨ 1000 < m
  · exact budget_out h s b m hg
  · simp only [not_or, Bool.not_eq_true, Bool.not_eq_false, Int.not_lt] at hg
    exact budget_in h s b m hg.1 hg.2.1 hg.2.2.1 hg.2.2.2.1 hg.2.2.2.2.1 hg.2.2.2.2.2
end
end Go.Proofs.Ytipdejalohmkpaa.Gr

/- BestfirstSearch, BestfirstReachable, BestfirstDistance: the two searches agree. -/
namespace Go.Proofs.Ytipdejalohmkpaa.Gr
open Go.RowKit Go.Proofs.YtipdejalohmkpaaW.PrintWords Go.Proofs.YtipdejalohmkpaaW.PrintLast Go.Proofs.YtipdejalohmkpaaW.PrintMore PBestfirstDistances
set_option linter.unusedSimpArgs false
set_option linter.unusedVariables false
variable {g : Gph} {w : World} {A0 A1 A2 : Option Addr} {c0 c1 c2 : Nat}
set_option maxRecDepth 1000000 in
set_option maxHeartbeats 4000000 in
theorem run_bad {W : World} {xb : Nat} (s b : Int) (h : b < 1 ∨ 1048576 < b) :
    Calls Try.prog 15 #[.pointer (some ⟨xb, 0, none⟩), .int .i64 s, .int .i64 b] W fun e w' => e = .returned (.tuple #[.agg #[.slice none 0 0, .int .i64 0], .int .i64 1]) ∧ Below W.heap.size W w' := by
  by_cases h1 : b < 1
  · have d1 : decide (b < 1) = true := decide_eq_true h1
    clear h h1
    go_enter Try.func15, Try.ntmps15
    go_wp2
    refine bodyPost_ret (results_ct rfl _ _ W.heap.size 37 #[.slice none 0 0, .int .i64 0] (0, 0) _ rfl (blk_new W _) Try.underlying37 rfl (by kernel_rfl)) rfl ?_
    exact ⟨rfl, (Below.refl _ _).alloc (Nat.le_refl _) _⟩
  · have d1 : decide (b < 1) = false := decide_eq_false h1
    have d2 : decide (1048576 < b) = true := decide_eq_true (by omega)
    clear h h1
    go_enter Try.func15, Try.ntmps15
    go_wp2
    refine bodyPost_ret (results_ct rfl _ _ W.heap.size 37 #[.slice none 0 0, .int .i64 0] (0, 0) _ rfl (blk_new W _) Try.underlying37 rfl (by kernel_rfl)) rfl ?_
    exact ⟨rfl, (Below.refl _ _).alloc (Nat.le_refl _) _⟩
theorem start_ok {xb : Nat} {what : Int} {key : ByteArray} (h : GAt g w A0 c0 A1 c1 A2 c2) (hx : xb = w.heap.size) :
    XAt g (w.alloc (.cells #[.slice A0 g.E.length c0, .slice A1 g.K.length c1, .slice A2 g.Gs.length c2, .int .i64 what, .string key, .slice none 0 0] 35)) (w.alloc (.cells #[.slice A0 g.E.length c0, .slice A1 g.K.length c1, .slice A2 g.Gs.length c2, .int .i64 what, .string key, .slice none 0 0] 35)).heap.size xb what key (.slice none 0 0) [] A0 c0 A1 c1 A2 c2 := by
  subst hx
  exact ⟨blk_new w _, h.below ((Below.refl _ _).alloc (Nat.le_refl _) _), Kd.R_nil _ _ _ _ _, by simp⟩
theorem start_ga {o : Obj} (h : GAt g w A0 c0 A1 c1 A2 c2) : ∀ w', Chg (w.alloc o) w' (fun i => i = w.heap.size) → GAt g w' A0 c0 A1 c1 A2 c2 := fun w' hc =>
  h.below (hc.below ((Below.refl w.heap.size w).alloc (Nat.le_refl _) o) (by simp) (fun i _ e => by omega))
theorem rsearch_is {W : World} {xb : Nat} {key : ByteArray} (hl : g.large = false) (hga : ∀ w', Chg W w' (fun i => i = xb) → GAt g w' A0 c0 A1 c1 A2 c2) (hx : XAt g W W.heap.size xb 0 key (.slice none 0 0) [] A0 c0 A1 c1 A2 c2) (s : Int) (hs : g.has s = true) (b : Int) (l : List Int) (c e : Int) (hr : sres g s b = (l, c, e)) :
    Calls Try.prog 15 #[.pointer (some ⟨xb, 0, none⟩), .int .i64 s, .int .i64 b] W fun en w' => ∃ vp, en = .returned (.tuple #[.agg #[vp, .int .i64 c], .int .i64 e]) ∧ (Kd.int .i64).R 3 w' W.heap.size (fun _ => True) vp l ∧ Chg W w' (fun i => i = xb) := by
  unfold sres at hr
  by_cases hb : b < 1 ∨ 1048576 < b
  · rw [if_pos hb] at hr
    cases hr
    refine (run_bad s b hb).mono ?_
    rintro en w' ⟨rfl, hb'⟩
    exact ⟨_, rfl, Kd.R_nil _ _ _ _ _, Chg.of_below hb' _⟩
  · rw [if_neg hb] at hr
    have hrun := out_run g hl g.goal b.toNat s hs
    have hg : goalOf g 0 key = g.goal := by funext t; simp [goalOf]
    have HC := run_any (budget := b.toNat) hl hga hx hs (by omega) (by omega) (by rw [hg]; exact hrun)
    rw [show ((b.toNat : Nat) : Int) = b by omega] at HC
    refine HC.mono ?_
    rintro en w' ⟨hcw, ve, vp, order', hXA, hp⟩
    generalize g.out g.goal b.toNat s = out at hr hp
    cases out with
    | notFound o => cases hr; obtain ⟨_, rfl⟩ := hp; exact ⟨_, rfl, Kd.R_nil _ _ _ _ _, hcw⟩
    | budget o => cases hr; obtain ⟨_, rfl⟩ := hp; exact ⟨_, rfl, Kd.R_nil _ _ _ _ _, hcw⟩
    | found x o => cases hr; obtain ⟨_, rfl, hR⟩ := hp; exact ⟨_, rfl, hR, hcw⟩
theorem rdist_is {W : World} {xb : Nat} {key : ByteArray} (hl : g.large = false) (hga : ∀ w', Chg W w' (fun i => i = xb) → GAt g w' A0 c0 A1 c1 A2 c2) (hx : XAt g W W.heap.size xb 2 key (.slice none 0 0) [] A0 c0 A1 c1 A2 c2) (s : Int) (hs : g.has s = true) (b : Int) (d e : Int) (hr : dres g s key b = (d, e)) :
    Calls Try.prog 15 #[.pointer (some ⟨xb, 0, none⟩), .int .i64 s, .int .i64 b] W fun en w' => ∃ (A : Option Addr) (n cp : Nat), en = .returned (.tuple #[.agg #[.slice A n cp, .int .i64 d], .int .i64 e]) ∧ Chg W w' (fun i => i = xb) := by
  unfold dres at hr
  by_cases hb : b < 1 ∨ 1048576 < b
  · rw [if_pos hb] at hr
    cases hr
    refine (run_bad s b hb).mono ?_
    rintro en w' ⟨rfl, hb'⟩
    exact ⟨_, _, _, rfl, Chg.of_below hb' _⟩
  · rw [if_neg hb] at hr
    have hrun := out_run g hl (fun t => g.key t == key) b.toNat s hs
    have hg : goalOf g 2 key = fun t => g.key t == key := by funext t; simp [goalOf]
    have HC := run_any (budget := b.toNat) hl hga hx hs (by omega) (by omega) (by rw [hg]; exact hrun)
    rw [show ((b.toNat : Nat) : Int) = b by omega] at HC
    refine HC.mono ?_
    rintro en w' ⟨hcw, ve, vp, order', hXA, hp⟩
    generalize g.out (fun t => g.key t == key) b.toNat s = out at hr hp
    cases out with
    | notFound o => cases hr; obtain ⟨_, rfl⟩ := hp; exact ⟨_, _, _, rfl, hcw⟩
    | budget o => cases hr; obtain ⟨_, rfl⟩ := hp; exact ⟨_, _, _, rfl, hcw⟩
    | found x o =>
      cases hr
      obtain ⟨_, rfl, hR⟩ := hp
      obtain ⟨A, cc, rfl⟩ := Kd.R_slice hR
      exact ⟨_, _, _, rfl, hcw⟩
theorem rres_le (g : Gph) (hl : g.large = false) (s b : Int) (hs : g.has s = true) : (rres g s b).1.length ≤ 1048576 := by
  by_cases hb : b < 1 ∨ 1048576 < b
  · unfold rres; rw [if_pos hb]; simp
  · have := rres_len g hl s b hs (by omega) (by omega)
    omega
theorem no_found {p : Sr.Prob Int} {b : Nat} : ∀ (k : Nat) (L : List (Sr.Ent Int)) (order : List Int) (added : Nat) (x : Sr.Ent Int) (o : List Int), Sr.run p (fun _ => false) b k L order added ≠ some (.found x o) := by
  intro k
  induction k with
  | zero => intro L order added x o h; simp [Sr.run] at h
  | succ k ih =>
    intro L order added x o h
    rw [Sr.run] at h
    split at h
    · cases h
    · split at h
      · exact ih _ _ _ _ _ h
      · rw [if_neg (by simp)] at h
        split at h
        · cases h
        · exact ih _ _ _ _ _ h
/-- With no goal: all that can be reached lies in Expanded (error 4), or the error. -/
theorem rreach_is {W : World} {xb : Nat} {key : ByteArray} (hl : g.large = false) (hga : ∀ w', Chg W w' (fun i => i = xb) → GAt g w' A0 c0 A1 c1 A2 c2) (hx : XAt g W W.heap.size xb 1 key (.slice none 0 0) [] A0 c0 A1 c1 A2 c2) (s : Int) (hs : g.has s = true) (b : Int) (l : List Int) (c : Int) (hr : rres g s b = (l, c)) :
    Calls Try.prog 15 #[.pointer (some ⟨xb, 0, none⟩), .int .i64 s, .int .i64 b] W fun en w' => ∃ (e : Int) (ve : Value) (order : List Int), en = .returned (.tuple #[.agg #[.slice none 0 0, .int .i64 0], .int .i64 e]) ∧ Chg W w' (fun i => i = xb) ∧ ((e = 4 ∧ c = 0 ∧ order = l ∧ XAt g w' W.heap.size xb 1 key ve order A0 c0 A1 c1 A2 c2) ∨ (e ≠ 4 ∧ c = e ∧ l = [])) := by
  unfold rres at hr
  by_cases hb : b < 1 ∨ 1048576 < b
  · rw [if_pos hb] at hr
    cases hr
    refine (run_bad s b hb).mono ?_
    rintro en w' ⟨rfl, hb'⟩
    exact ⟨1, undef, [], rfl, Chg.of_below hb' _, .inr ⟨by decide, rfl, rfl⟩⟩
  · rw [if_neg hb] at hr
    have hrun := out_run g hl (fun _ => false) b.toNat s hs
    have hg : goalOf g 1 key = fun _ => false := by funext t; simp [goalOf]
    have HC := run_any (budget := b.toNat) hl hga hx hs (by omega) (by omega) (by rw [hg]; exact hrun)
    rw [show ((b.toNat : Nat) : Int) = b by omega] at HC
    refine HC.mono ?_
    rintro en w' ⟨hcw, ve, vp, order', hXA, hp⟩
    generalize g.out (fun _ => false) b.toNat s = out at hr hp hrun
    cases out with
    | notFound o => cases hr; obtain ⟨rfl, rfl⟩ := hp; exact ⟨4, ve, _, rfl, hcw, .inl ⟨rfl, rfl, rfl, hXA⟩⟩
    | budget o => cases hr; obtain ⟨_, rfl⟩ := hp; exact ⟨7, ve, [], rfl, hcw, .inr ⟨by decide, rfl, rfl⟩⟩
    | found x o => exact absurd hrun (no_found _ _ _ _ _ _)
set_option maxRecDepth 1000000 in
set_option maxHeartbeats 4000000 in
theorem search_law (h : GAt g w A0 c0 A1 c1 A2 c2) (s b : Int) :
    Calls Try.prog 3 #[.agg #[.slice A0 g.E.length c0, .slice A1 g.K.length c1, .slice A2 g.Gs.length c2], .int .i64 s, .int .i64 b] w fun e w' => e = .returned (.bool true) ∧ Below w.heap.size w w' := by
  have HA := Lib.hid (show Below w.heap.size w (w.alloc (.cells #[.slice A0 g.E.length c0, .slice A1 g.K.length c1, .slice A2 g.Gs.length c2] 26)) from (Below.refl _ _).alloc (Nat.le_refl _) _)
  have HGB := Lib.hid (GB.make h)
  clear h
  go_enter Try.func3, Try.ntmps3
  go_wp2_with fail
  refine (awake_any _).mono ?_
  rintro e w1 ⟨rfl, hb1⟩
  have HGB1 := Lib.hid (HGB.out.below hb1)
  have HA1 := Lib.hid (below_then HA.out HA.out.size hb1)
  obtain ⟨q0, q1, q2⟩ := HGB1.out.cells
  clear hb1 HGB
  go_wp2_with fail
  cases hl : g.large with
  | true =>
    refine (glarge_is HGB1.out.at_ true hl).mono ?_
    rintro e w2 ⟨rfl, hb2⟩
    have HA2 := Lib.hid (below_then HA1.out HA1.out.size hb2)
    clear hb2 q0 q1 q2 hl
    go_wp2
    go_ret
    exact ⟨rfl, HA2.out⟩
  | false =>
    refine (glarge_is HGB1.out.at_ false hl).mono ?_
    rintro e w2 ⟨rfl, hb2⟩
    have HGB2 := Lib.hid (HGB1.out.below hb2)
    have HA2 := Lib.hid (below_then HA1.out HA1.out.size hb2)
    have HL := Lib.hid hl
    clear hb2 q0 q1 q2 hl
    obtain ⟨q0, q1, q2⟩ := HGB2.out.cells
    go_wp2_with fail
    cases hs : g.has s with
    | false =>
      refine (ghas_is HGB2.out.at_ s false hs).mono ?_
      rintro e w3 ⟨rfl, hb3⟩
      have HA3 := Lib.hid (below_then HA2.out HA2.out.size hb3)
      clear hb3 q0 q1 q2 hs
      go_wp2
      go_ret
      exact ⟨rfl, HA3.out⟩
    | true =>
      refine (ghas_is HGB2.out.at_ s true hs).mono ?_
      rintro e w3 ⟨rfl, hb3⟩
      have HGB3 := Lib.hid (HGB2.out.below hb3)
      have HA3 := Lib.hid (below_then HA2.out HA2.out.size hb3)
      have HS := Lib.hid hs
      clear hb3 q0 q1 q2 hs
      obtain ⟨q0, q1, q2⟩ := HGB3.out.cells
      obtain ⟨l, c, e0, hr⟩ : ∃ l c e0, sres g s b = (l, c, e0) := ⟨_, _, _, rfl⟩
      have HLEN := Lib.hid (show l.length < 1000000000 by have := sres_len g HL.out s b HS.out; rw [hr] at this; exact this)
      have HR := Lib.hid hr
      clear hr
      go_wp2_with fail
      refine (lsearch_is HGB3.out.at_ HL.out s HS.out b l c e0 HR.out).mono ?_
      rintro en w4 ⟨v4, rfl, hv4, hb4⟩
      obtain ⟨A4, d4, rfl, m4, hC4⟩ := Kd.R_reads hv4
      have HGB4 := Lib.hid (HGB3.out.below hb4)
      have HA4 := Lib.hid (below_then HA3.out HA3.out.size hb4)
      have HC4 := Lib.hid hC4
      clear hb4 hv4 hC4 q0 q1 q2
      obtain ⟨q0, q1, q2⟩ := HGB4.out.cells
      go_wp2_with fail
      refine (rsearch_is HL.out (start_ga HGB4.out.at_) (start_ok HGB4.out.at_ rfl) s HS.out b l c e0 HR.out).mono ?_
      rintro en w6 ⟨vp, rfl, hvp, hc6⟩
      obtain ⟨A6, d6, rfl, m6, hC6⟩ := Kd.R_reads hvp
      have hb46 := hc6.below ((Below.refl w4.heap.size w4).alloc (Nat.le_refl _) _) (by simp) (fun i _ e => by omega)
      have HA6 := Lib.hid (below_then HA4.out HA4.out.size hb46)
      have HC4b := Lib.hid (Kd.C_below HC4.out hb46)
      have HC6 := Lib.hid hC6
      clear hvp hc6 hb46 hC6 q0 q1 q2
      go_wp2_with fail
      refine (same_any (Kd.C_below HC4b.out ((Below.refl _ _).alloc (Nat.le_refl _) _)) m4 (Kd.C_below HC6.out ((Below.refl _ _).alloc (Nat.le_refl _) _)) m6 HLEN.out true (by simp)).mono ?_
      rintro en w8 ⟨rfl, hd⟩
      have HA8 := Lib.hid (below_then HA6.out HA6.out.size (below_then ((Below.refl _ _).alloc (Nat.le_refl _) _) (by simp) hd.below))
      clear hd
      go_wp2
      go_ret
      exact ⟨rfl, HA8.out⟩
set_option maxRecDepth 1000000 in
set_option maxHeartbeats 4000000 in
theorem reach_law (h : GAt g w A0 c0 A1 c1 A2 c2) (s b : Int) :
    Calls Try.prog 4 #[.agg #[.slice A0 g.E.length c0, .slice A1 g.K.length c1, .slice A2 g.Gs.length c2], .int .i64 s, .int .i64 b] w fun e w' => e = .returned (.bool true) ∧ Below w.heap.size w w' := by
  have HA := Lib.hid (show Below w.heap.size w (w.alloc (.cells #[.slice A0 g.E.length c0, .slice A1 g.K.length c1, .slice A2 g.Gs.length c2] 26)) from (Below.refl _ _).alloc (Nat.le_refl _) _)
  have HGB := Lib.hid (GB.make h)
  clear h
  go_enter Try.func4, Try.ntmps4
  go_wp2_with fail
  refine (awake_any _).mono ?_
  rintro e w1 ⟨rfl, hb1⟩
  have HGB1 := Lib.hid (HGB.out.below hb1)
  have HA1 := Lib.hid (below_then HA.out HA.out.size hb1)
  obtain ⟨q0, q1, q2⟩ := HGB1.out.cells
  clear hb1 HGB
  go_wp2_with fail
  cases hl : g.large with
  | true =>
    refine (glarge_is HGB1.out.at_ true hl).mono ?_
    rintro e w2 ⟨rfl, hb2⟩
    have HA2 := Lib.hid (below_then HA1.out HA1.out.size hb2)
    clear hb2 q0 q1 q2 hl
    go_wp2
    go_ret
    exact ⟨rfl, HA2.out⟩
  | false =>
    refine (glarge_is HGB1.out.at_ false hl).mono ?_
    rintro e w2 ⟨rfl, hb2⟩
    have HGB2 := Lib.hid (HGB1.out.below hb2)
    have HA2 := Lib.hid (below_then HA1.out HA1.out.size hb2)
    have HL := Lib.hid hl
    clear hb2 q0 q1 q2 hl
    obtain ⟨q0, q1, q2⟩ := HGB2.out.cells
    go_wp2_with fail
    cases hs : g.has s with
    | false =>
      refine (ghas_is HGB2.out.at_ s false hs).mono ?_
      rintro e w3 ⟨rfl, hb3⟩
      have HA3 := Lib.hid (below_then HA2.out HA2.out.size hb3)
      clear hb3 q0 q1 q2 hs
      go_wp2
      go_ret
      exact ⟨rfl, HA3.out⟩
    | true =>
      refine (ghas_is HGB2.out.at_ s true hs).mono ?_
      rintro e w3 ⟨rfl, hb3⟩
      have HGB3 := Lib.hid (HGB2.out.below hb3)
      have HA3 := Lib.hid (below_then HA2.out HA2.out.size hb3)
      have HS := Lib.hid hs
      clear hb3 q0 q1 q2 hs
      obtain ⟨q0, q1, q2⟩ := HGB3.out.cells
      obtain ⟨l, c, hr⟩ : ∃ l c, rres g s b = (l, c) := ⟨_, _, rfl⟩
      have HR := Lib.hid hr
      clear hr
      go_wp2_with fail
      refine (lreach_is HGB3.out.at_ HL.out s HS.out b l c HR.out).mono ?_
      rintro en w4 ⟨v4, rfl, hv4, hb4⟩
      obtain ⟨A4, d4, rfl, m4, hC4⟩ := Kd.R_reads hv4
      have HGB4 := Lib.hid (HGB3.out.below hb4)
      have HA4 := Lib.hid (below_then HA3.out HA3.out.size hb4)
      have HC4 := Lib.hid hC4
      clear hb4 hv4 hC4 q0 q1 q2
      obtain ⟨q0, q1, q2⟩ := HGB4.out.cells
      go_wp2_with fail
      refine (rreach_is HL.out (start_ga HGB4.out.at_) (start_ok HGB4.out.at_ rfl) s HS.out b l c HR.out).mono ?_
      rintro en w6 ⟨e0, ve, order, rfl, hc6, hor⟩
      have hb46 := hc6.below ((Below.refl w4.heap.size w4).alloc (Nat.le_refl _) _) (by simp) (fun i _ e => by omega)
      have HA6 := Lib.hid (below_then HA4.out HA4.out.size hb46)
      have HC4b := Lib.hid (Kd.C_below HC4.out hb46)
      clear hc6 hb46 q0 q1 q2
      rcases hor with ⟨rfl, rfl, rfl, hx⟩ | ⟨hne, rfl, rfl⟩
      · obtain ⟨A6, d6, rfl, m6, hC6⟩ := Kd.R_reads hx.row
        obtain ⟨_, _, _, _, _, q5⟩ := hx.cells
        have HC6 := Lib.hid hC6
        have HLEN := Lib.hid (show order.length < 1000000000 by
          have := rres_le g HL.out s b HS.out
          rw [HR.out] at this
          simp only at this
          omega)
        have q5a : (w6.alloc (.cells #[.slice none 0 0, .int .i64 0] 37)).cell? ⟨w4.heap.size, 5, none⟩ = some (.slice A6 order.length d6) := keepw ((Below.refl _ _).alloc (Nat.le_refl _) _) q5
        clear hx hC6
        go_wp2_with fail
        refine (same_any (Kd.C_below HC4b.out ((Below.refl _ _).alloc (Nat.le_refl _) _)) m4 (Kd.C_below HC6.out ((Below.refl _ _).alloc (Nat.le_refl _) _)) m6 HLEN.out true (by simp)).mono ?_
        rintro en w8 ⟨rfl, hd⟩
        have HA8 := Lib.hid (below_then HA6.out HA6.out.size (below_then ((Below.refl _ _).alloc (Nat.le_refl _) _) (by simp) hd.below))
        clear hd
        go_wp2
        go_ret
        exact ⟨rfl, HA8.out⟩
      · have g4 : (c == 4) = false := by rw [beq_eq_false_iff_ne]; exact hne
        have HA8 := Lib.hid (below_then HA6.out HA6.out.size ((Below.refl _ _).alloc (Nat.le_refl _) (.cells #[.slice none 0 0, .int .i64 0] 37)))
        clear hne
        go_wp2
        go_ret
        exact ⟨by simp, HA8.out⟩
set_option maxRecDepth 1000000 in
set_option maxHeartbeats 4000000 in
theorem dist_law (h : GAt g w A0 c0 A1 c1 A2 c2) (s : Int) (key : ByteArray) (b : Int) :
    Calls Try.prog 5 #[.agg #[.slice A0 g.E.length c0, .slice A1 g.K.length c1, .slice A2 g.Gs.length c2], .int .i64 s, .string key, .int .i64 b] w fun e w' => e = .returned (.bool true) ∧ Below w.heap.size w w' := by
  have HA := Lib.hid (show Below w.heap.size w (w.alloc (.cells #[.slice A0 g.E.length c0, .slice A1 g.K.length c1, .slice A2 g.Gs.length c2] 26)) from (Below.refl _ _).alloc (Nat.le_refl _) _)
  have HGB := Lib.hid (GB.make h)
  clear h
  go_enter Try.func5, Try.ntmps5
  go_wp2_with fail
  refine (awake_any _).mono ?_
  rintro e w1 ⟨rfl, hb1⟩
  have HGB1 := Lib.hid (HGB.out.below hb1)
  have HA1 := Lib.hid (below_then HA.out HA.out.size hb1)
  obtain ⟨q0, q1, q2⟩ := HGB1.out.cells
  clear hb1 HGB
  go_wp2_with fail
  cases hl : g.large with
  | true =>
    refine (glarge_is HGB1.out.at_ true hl).mono ?_
    rintro e w2 ⟨rfl, hb2⟩
    have HA2 := Lib.hid (below_then HA1.out HA1.out.size hb2)
    clear hb2 q0 q1 q2 hl
    go_wp2
    go_ret
    exact ⟨rfl, HA2.out⟩
  | false =>
    refine (glarge_is HGB1.out.at_ false hl).mono ?_
    rintro e w2 ⟨rfl, hb2⟩
    have HGB2 := Lib.hid (HGB1.out.below hb2)
    have HA2 := Lib.hid (below_then HA1.out HA1.out.size hb2)
    have HL := Lib.hid hl
    clear hb2 q0 q1 q2 hl
    obtain ⟨q0, q1, q2⟩ := HGB2.out.cells
    go_wp2_with fail
    cases hs : g.has s with
    | false =>
      refine (ghas_is HGB2.out.at_ s false hs).mono ?_
      rintro e w3 ⟨rfl, hb3⟩
      have HA3 := Lib.hid (below_then HA2.out HA2.out.size hb3)
      clear hb3 q0 q1 q2 hs
      go_wp2
      go_ret
      exact ⟨rfl, HA3.out⟩
    | true =>
      refine (ghas_is HGB2.out.at_ s true hs).mono ?_
      rintro e w3 ⟨rfl, hb3⟩
      have HGB3 := Lib.hid (HGB2.out.below hb3)
      have HA3 := Lib.hid (below_then HA2.out HA2.out.size hb3)
      have HS := Lib.hid hs
      clear hb3 q0 q1 q2 hs
      obtain ⟨q0, q1, q2⟩ := HGB3.out.cells
      obtain ⟨d, c, hr⟩ : ∃ d c, dres g s key b = (d, c) := ⟨_, _, rfl⟩
      have HR := Lib.hid hr
      clear hr
      by_cases hk : (20 : Int) < (key.size : Int)
      · have dk : decide ((20 : Int) < (key.size : Int)) = true := decide_eq_true hk
        clear hk
        go_wp2
        go_ret
        exact ⟨rfl, HA3.out⟩
      have dk : decide ((20 : Int) < (key.size : Int)) = false := decide_eq_false hk
      clear hk
      go_wp2_with fail
      refine (ldist_is HGB3.out.at_ HL.out s HS.out key b d c HR.out).mono ?_
      rintro en w4 ⟨rfl, hb4⟩
      have HGB4 := Lib.hid (HGB3.out.below hb4)
      have HA4 := Lib.hid (below_then HA3.out HA3.out.size hb4)
      clear hb4 q0 q1 q2
      obtain ⟨q0, q1, q2⟩ := HGB4.out.cells
      go_wp2_with fail
      refine (rdist_is HL.out (start_ga HGB4.out.at_) (start_ok HGB4.out.at_ rfl) s HS.out b d c HR.out).mono ?_
      rintro en w6 ⟨A6, n6, d6, rfl, hc6⟩
      have hb46 := hc6.below ((Below.refl w4.heap.size w4).alloc (Nat.le_refl _) _) (by simp) (fun i _ e => by omega)
      have HA6 := Lib.hid (below_then HA4.out HA4.out.size hb46)
      have HA8 := Lib.hid (below_then HA6.out HA6.out.size ((Below.refl _ _).alloc (Nat.le_refl _) (.cells #[.slice A6 n6 d6, .int .i64 d] 37)))
      clear hc6 hb46 q0 q1 q2
      go_wp2
      go_ret
      exact ⟨by simp, HA8.out⟩
end Go.Proofs.Ytipdejalohmkpaa.Gr

namespace Go.Proofs.Ytipdejalohmkpaa.bestfirstDistance
open Go.ChangeShapes Go.WideShapes Go.ChangeAt Go.RowKit
open Go.ChangeMaps (open_string shut_string)
set_option linter.unusedVariables false
theorem own : ownKnob Try.prog.godebug = none := by kernel_rfl
theorem laidOut : laidOutB Try.prog = true := by kernel_rfl
set_option maxRecDepth 100000 in
theorem lifted (os : Os) (started : os.Started) (H : Type) (enc : TypeId × Value → H) :
    ReturnsInHanded {} Try.checked os 5 .any (Rows.bestfirstDistanceSpec.pre6 enc Try.prog Try.f5 Rows.bestfirstDistanceRow.domain false) (Rows.bestfirstDistanceSpec.post enc Try.prog Try.f5 false true false false) := by
  refine returnsInHanded_of_change_sized (C := Try.checked) own started (by kernel_rfl) Try.func5
    (ChangeSpec.witness6 (enc := enc) (C := Try.checked) false ⟨#[], #[.agg #[.slice none 0 0, .slice none 0 0, .slice none 0 0], .int .i64 0, .string ByteArray.empty, .int .i64 0], []⟩ 8 (by kernel_rfl) (by kernel_rfl) (by kernel_rfl) (by kernel_rfl)) ?_
  intro W base args ds gs before hval0 hW hcnd hsz0 _
  have hsz : (DataW.weightsEach Try.prog (Try.f5.params.toList ++ Rows.bestfirstDistanceSpec.plain.varTypes Try.prog) (ds ++ gs)).all (· ≤ reachBytes) = true := hsz0
  have hval : ∀ (j : Nat) t v, Try.f5.params[j]? = some t → args[j]? = some v → Value.okWide Try.prog W .any base t v := hval0
  have hW' := hW
  obtain ⟨p, q, hA0, hV, rfl, hfz, hnd⟩ := hW
  have hA : DataW.TrodAll enc Try.prog W 0 (fun _ => true) true Try.f5.params.toList args.toList ds p := hA0
  rw [Try.params5] at hA hval hsz
  obtain ⟨v0, vs0, d0, ds0, p0, q0, hargs, rfl, rfl, h0, r0⟩ := trodAll_cons hA
  obtain ⟨v1, vs1, d1, ds1, p1, q1, rfl, rfl, rfl, h1, r1⟩ := trodAll_cons r0
  obtain ⟨v2, vs2, d2, ds2, p2, q2, rfl, rfl, rfl, h2, r2⟩ := trodAll_cons r1
  obtain ⟨v3, vs3, d3, ds3, p3, q3, rfl, rfl, rfl, h3, r3⟩ := trodAll_cons r2
  obtain ⟨rfl, rfl, rfl⟩ := trodAll_nil r3
  obtain rfl : args = #[v0, v1, v2, v3] := by cases args; simp_all
  obtain ⟨rfl, rfl⟩ := trodVars_none hV
  obtain ⟨g0, A0, B0, C0, D0, E0, F0, rfl, w0⟩ := Gr.open_graph (hval 0 26 v0 rfl rfl) h0
  have k0 := h0
  have lt0 : ∀ x ∈ p0, x.block < W.heap.size := by obtain ⟨m, hm⟩ := k0; exact DataW.trod_lt m _ _ _ hm
  obtain ⟨a1, rfl, rfl, rfl, w1⟩ := open_int Try.underlying3 (hval 1 3 v1 rfl rfl) h1
  obtain ⟨a2, rfl, rfl, rfl, y2⟩ := open_string Try.underlying9 (hval 2 9 v2 rfl rfl) h2
  obtain ⟨a3, rfl, rfl, rfl, w3⟩ := open_int Try.underlying3 (hval 3 3 v3 rfl rfl) h3
  clear hA0 hval0 hsz0 hsz
  refine (Gr.dist_law w0 a1 a2 a3).mono fun e W' ⟨he, bel⟩ => ?_
  subst he
  exact ⟨_, rfl, _, _, _, [], _, [], hW', trodAll_mk1 (shut_bool Try.underlying4 _), (trodAll_cons_mk (Below.trod laidOut (by kernel_rfl) (of_decide_eq_true (by kernel_rfl)) k0 bel lt0) (trodAll_cons_mk (shut_int Try.underlying3 w1) (trodAll_cons_mk (shut_string Try.underlying9 y2) (trodAll_cons_mk (shut_int Try.underlying3 w3) trodAll_mk0)))), rfl, bel.frame _, fun h => by cases h⟩
theorem over : Rows.bestfirstDistanceRow.holds Try.pinned (OpenSpec.ofChange Rows.bestfirstDistanceSpec) :=
  OpenClaim.holds_of_wide 5 Try.f5 rfl rfl rfl rfl rfl rfl rfl ⟨rfl, rfl, rfl, rfl, rfl⟩ rfl rfl rfl rfl rfl (by kernel_rfl) Try.func5 (by kernel_rfl)
    (of_decide_eq_true (by kernel_rfl)) (by unfold Func.isWrapper; first | (rw [if_pos (by decide +kernel)]; kernel_rfl) | (rw [if_neg (by decide +kernel)]; exact ⟨rfl, rfl⟩))
    (fun os started H enc _ => lifted os started H enc)
end Go.Proofs.Ytipdejalohmkpaa.bestfirstDistance
namespace Go.Proofs.Ytipdejalohmkpaa
/-- The row, under a short name, for the claim. -/
theorem bestfirstDistance_holds : Rows.BestfirstDistanceSaid := bestfirstDistance.over
#print axioms bestfirstDistance_holds
end Go.Proofs.Ytipdejalohmkpaa
