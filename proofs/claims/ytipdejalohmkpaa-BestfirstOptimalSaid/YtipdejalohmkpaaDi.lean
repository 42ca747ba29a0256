/- Distances are least costs: the statement's function answers true. -/
import Derived.Test.YtipdejalohmkpaaOp
import Derived.Test.YtipdejalohmkpaaLa
import Derived.Test.YtipdejalohmkpaaAw
namespace Go.Proofs.Ytipdejalohmkpaa.Gr
open Go.RowKit Go.Proofs.YtipdejalohmkpaaW.PrintWords Go.Proofs.YtipdejalohmkpaaW.PrintLast Go.Proofs.YtipdejalohmkpaaW.PrintMore PBestfirstDistances
variable {g : Gph} {w : World} {A0 A1 A2 : Option Addr} {c0 c1 c2 : Nat}
theorem ldists_is (h : GAt g w A0 c0 A1 c1 A2 c2) (hl : g.large = false) (s : Int) (hs : g.has s = true) :
    Calls Try.prog 20 #[.agg #[.slice A0 g.E.length c0, .slice A1 g.K.length c1, .slice A2 g.Gs.length c2], .int .i64 s] w fun e w' => ∃ (B : Option Addr) (d : Nat), e = .returned (.slice B (dists g s).length d) ∧ (dists g s).length ≤ d ∧ (Kd.int .i64).C w' B (dists g s).length (dists g s) ∧ Below w.heap.size w w' := by
  obtain ⟨k, hk⟩ := dists_f hl hs
  refine (pentaglotlaw40_distances.calls k A0 c0 g.E A1 c1 g.K A2 c2 g.Gs s (dists g s) w h.h0 h.l0 h.h1 h.l1 h.h2 h.l2 hk).mono ?_
  rintro e w' ⟨v, rfl, hv, hb⟩
  obtain ⟨B, d, rfl, m1, g1⟩ := Kd.R_reads hv
  exact ⟨B, d, rfl, m1, g1, hb⟩

set_option maxRecDepth 1000000 in
set_option maxHeartbeats 4000000 in
theorem dlaw_out (h : GAt g w A0 c0 A1 c1 A2 c2) (s tg : Int) (hg : g.large = true ∨ g.has s = false ∨ g.has tg = false ∨ g.plain = false) :
    Calls Try.prog 7 #[.agg #[.slice A0 g.E.length c0, .slice A1 g.K.length c1, .slice A2 g.Gs.length c2], .int .i64 s, .int .i64 tg] w fun e w' => e = .returned (.bool true) ∧ Below w.heap.size w w' := by
  have HA := Lib.hid (show Below w.heap.size w (w.alloc (.cells #[.slice A0 g.E.length c0, .slice A1 g.K.length c1, .slice A2 g.Gs.length c2] 26)) from (Below.refl _ _).alloc (Nat.le_refl _) _)
  have HGB := Lib.hid (GB.make h)
  clear h
  go_enter Try.func7, Try.ntmps7
  go_wp2_with fail
  refine (awake_any _).mono ?_
  rintro e w1 ⟨rfl, hb1⟩
  have HGB1 := Lib.hid (HGB.out.below hb1)
  have HA1 := Lib.hid (below_then HA.out HA.out.size hb1)
  obtain ⟨q0, q1, q2⟩ := HGB1.out.cells
  clear hb1 HGB
  go_wp2_with fail
  cases hl : g.large with
  | true =>
    refine (glarge_is HGB1.out.at_ true hl).mono ?_
    rintro e w2 ⟨rfl, hb2⟩
    have HA2 := Lib.hid (below_then HA1.out HA1.out.size hb2)
    clear hb2 q0 q1 q2 hg hl
    go_wp2
    go_ret
    exact ⟨rfl, HA2.out⟩
  | false =>
    refine (glarge_is HGB1.out.at_ false hl).mono ?_
    rintro e w2 ⟨rfl, hb2⟩
    have HGB2 := Lib.hid (HGB1.out.below hb2)
    have HA2 := Lib.hid (below_then HA1.out HA1.out.size hb2)
    clear hb2 q0 q1 q2
    obtain ⟨q0, q1, q2⟩ := HGB2.out.cells
    go_wp2_with fail
    cases hs : g.has s with
    | false =>
      refine (ghas_is HGB2.out.at_ s false hs).mono ?_
      rintro e w3 ⟨rfl, hb3⟩
      have HA3 := Lib.hid (below_then HA2.out HA2.out.size hb3)
      clear hb3 q0 q1 q2 hg hl hs
      go_wp2
      go_ret
      exact ⟨rfl, HA3.out⟩
    | true =>
      refine (ghas_is HGB2.out.at_ s true hs).mono ?_
      rintro e w3 ⟨rfl, hb3⟩
      have HGB3 := Lib.hid (HGB2.out.below hb3)
      have HA3 := Lib.hid (below_then HA2.out HA2.out.size hb3)
      clear hb3 q0 q1 q2
      obtain ⟨q0, q1, q2⟩ := HGB3.out.cells
      go_wp2_with fail
      cases ht : g.has tg with
      | false =>
        refine (ghas_is HGB3.out.at_ tg false ht).mono ?_
        rintro e w4 ⟨rfl, hb4⟩
        have HA4 := Lib.hid (below_then HA3.out HA3.out.size hb4)
        clear hb4 q0 q1 q2 hg hl hs ht
        go_wp2
        go_ret
        exact ⟨rfl, HA4.out⟩
      | true =>
        refine (ghas_is HGB3.out.at_ tg true ht).mono ?_
        rintro e w4 ⟨rfl, hb4⟩
        have HGB4 := Lib.hid (HGB3.out.below hb4)
        have HA4 := Lib.hid (below_then HA3.out HA3.out.size hb4)
        clear hb4 q0 q1 q2
        obtain ⟨q0, q1, q2⟩ := HGB4.out.cells
        have hpl : g.plain = false := by rw [hl, hs, ht] at hg; simpa using hg
        clear hg hl hs ht
        go_wp2_with fail
        refine (gplain_is HGB4.out.at_ false hpl).mono ?_
        rintro e w5 ⟨rfl, hb5⟩
        have HA5 := Lib.hid (below_then HA4.out HA4.out.size hb5)
        clear hb5 q0 q1 q2 hpl
        go_wp2
        go_ret
        exact ⟨rfl, HA5.out⟩

set_option maxRecDepth 1000000 in
set_option maxHeartbeats 8000000 in
theorem dlaw_in (h : GAt g w A0 c0 A1 c1 A2 c2) (s tg : Int) (hl : g.large = false) (hs : g.has s = true) (ht : g.has tg = true) (hp : g.plain = true) :
    Calls Try.prog 7 #[.agg #[.slice A0 g.E.length c0, .slice A1 g.K.length c1, .slice A2 g.Gs.length c2], .int .i64 s, .int .i64 tg] w fun e w' => e = .returned (.bool true) ∧ Below w.heap.size w w' := by
  have HA := Lib.hid (show Below w.heap.size w (w.alloc (.cells #[.slice A0 g.E.length c0, .slice A1 g.K.length c1, .slice A2 g.Gs.length c2] 26)) from (Below.refl _ _).alloc (Nat.le_refl _) _)
  have HGB := Lib.hid (GB.make h)
  clear h
  obtain ⟨d, e, hr⟩ : ∃ d e, dres g s (g.key tg) 100 = (d, e) := ⟨_, _, rfl⟩
  have HPU := Lib.hid (dist_pure hl hp hs ht hr)
  have HR := Lib.hid hr
  have HL := Lib.hid hl
  have HS := Lib.hid hs
  have HT := Lib.hid ht
  have HP := Lib.hid hp
  have HLE := Lib.hid (dists_spec hs).1.len
  have HTG := Lib.hid (has_iff.1 ht)
  clear hr hl hs ht hp
  go_enter Try.func7, Try.ntmps7
  go_wp2_with fail
  refine (awake_any _).mono ?_
  rintro en w1 ⟨rfl, hb1⟩
  have HGB1 := Lib.hid (HGB.out.below hb1)
  have HA1 := Lib.hid (below_then HA.out HA.out.size hb1)
  obtain ⟨q0, q1, q2⟩ := HGB1.out.cells
  clear hb1 HGB
  go_wp2_with fail
  refine (glarge_is HGB1.out.at_ false HL.out).mono ?_
  rintro en w2 ⟨rfl, hb2⟩
  have HGB2 := Lib.hid (HGB1.out.below hb2)
  have HA2 := Lib.hid (below_then HA1.out HA1.out.size hb2)
  clear hb2 q0 q1 q2
  obtain ⟨q0, q1, q2⟩ := HGB2.out.cells
  go_wp2_with fail
  refine (ghas_is HGB2.out.at_ s true HS.out).mono ?_
  rintro en w3 ⟨rfl, hb3⟩
  have HGB3 := Lib.hid (HGB2.out.below hb3)
  have HA3 := Lib.hid (below_then HA2.out HA2.out.size hb3)
  clear hb3 q0 q1 q2
  obtain ⟨q0, q1, q2⟩ := HGB3.out.cells
  go_wp2_with fail
  refine (ghas_is HGB3.out.at_ tg true HT.out).mono ?_
  rintro en w4 ⟨rfl, hb4⟩
  have HGB4 := Lib.hid (HGB3.out.below hb4)
  have HA4 := Lib.hid (below_then HA3.out HA3.out.size hb4)
  clear hb4 q0 q1 q2
  obtain ⟨q0, q1, q2⟩ := HGB4.out.cells
  go_wp2_with fail
  refine (gplain_is HGB4.out.at_ true HP.out).mono ?_
  rintro en w5 ⟨rfl, hb5⟩
  have HGB5 := Lib.hid ((HGB4.out.below hb5).below (Below.drew (Below.refl _ _)))
  have HA5 := Lib.hid (Below.drew (below_then HA4.out HA4.out.size hb5))
  clear hb5 q0 q1 q2
  obtain ⟨q0, q1, q2⟩ := HGB5.out.cells
  go_wp2
  refine start_ (n := 11) (S := fun w' => w'.cell? ⟨w.heap.size, 0, none⟩ = some (.slice A0 g.E.length c0) ∧ w'.cell? ⟨w.heap.size, 1, none⟩ = some (.slice A1 g.K.length c1) ∧ w'.cell? ⟨w.heap.size, 2, none⟩ = some (.slice A2 g.Gs.length c2)) (ds := []) #[false, false, false, false, false, false, false, false, false, false, false] (by kernel_rfl) rfl rfl ⟨q0, q1, q2⟩ (fun hHeld => ?_)
  clear q0 q1 q2
  generalize w5.drew = w6 at HGB5 HA5 hHeld ⊢
  refine take_ (i := 0) (N := (some 32)) (v := ?_) (a' := ?_) #[true, false, false, false, false, false, false, false, false, false, false] rfl rfl (by kernel_rfl) (fun _ _ _ h => h) (Or.inl ⟨by rfl, ?_⟩) hHeld ?_ ?_
  rotate_left
  · rintro w' ⟨s0, s1, s2⟩
    go_simp
    with_reducible rfl
  rotate_left
  · simp only [Act.put, List.setIfInBounds_toArray, List.set_cons_zero, List.set_cons_succ]
    rfl
  refine pure_ (i := 1) (N := (some 33)) (v := ?_) (a' := ?_) #[true, true, false, false, false, false, false, false, false, false, false] rfl rfl (by kernel_rfl) (fun _ _ _ h => h) (Or.inl ⟨by rfl, ?_⟩) ?_ ?_
  rotate_left
  · intro w'
    go_simp
    with_reducible rfl
  rotate_left
  · simp only [Act.put, List.setIfInBounds_toArray, List.set_cons_zero, List.set_cons_succ]
    rfl
  refine take_ (i := 2) (N := (some 34)) (v := ?_) (a' := ?_) #[true, true, true, false, false, false, false, false, false, false, false] rfl rfl (by kernel_rfl) (fun _ _ _ h => h) (Or.inl ⟨by rfl, ?_⟩) hHeld ?_ ?_
  rotate_left
  · rintro w' ⟨s0, s1, s2⟩
    go_simp
    with_reducible rfl
  rotate_left
  · simp only [Act.put, List.setIfInBounds_toArray, List.set_cons_zero, List.set_cons_succ]
    rfl
  refine pure_ (i := 3) (N := (some 35)) (v := ?_) (a' := ?_) #[true, true, true, true, false, false, false, false, false, false, false] rfl rfl (by kernel_rfl) (fun _ _ _ h => h) (Or.inl ⟨by rfl, ?_⟩) ?_ ?_
  rotate_left
  · intro w'
    go_simp
    with_reducible rfl
  rotate_left
  · simp only [Act.put, List.setIfInBounds_toArray, List.set_cons_zero, List.set_cons_succ]
    rfl
  refine one_ (i := 4) (N := (some 36)) #[true, true, true, true, true, false, false, false, false, false, false] rfl rfl (by kernel_rfl) (by decide) (fun K hK => ?_)
  go_simp
  refine (gkey_any HGB5.out.at_ tg (by have := HTG.out; have := HLE.out; have := len12 HL.out; omega)).mono ?_
  rintro en w7 ⟨rfl, hb7⟩
  have HGB7 := Lib.hid (HGB5.out.below hb7)
  have HA7 := Lib.hid (below_then HA5.out HA5.out.size hb7)
  clear hb7
  refine hK.out _ _ HGB7.out.cells (fun hHeld => ?_)
  clear hK K
  (try simp only [Act.put, List.setIfInBounds_toArray, List.set_cons_zero, List.set_cons_succ])
  refine one_ (i := 5) (N := (some 37)) #[true, true, true, true, true, true, false, false, false, false, false] rfl rfl (by kernel_rfl) (by decide) (fun K hK => ?_)
  go_simp
  refine (ldist_is HGB7.out.at_ HL.out s HS.out (g.key tg) 100 d e HR.out).mono ?_
  rintro en w8 ⟨rfl, hb8⟩
  have HGB8 := Lib.hid (HGB7.out.below hb8)
  have HA8 := Lib.hid (below_then HA7.out HA7.out.size hb8)
  clear hb8
  refine hK.out _ _ HGB8.out.cells (fun hHeld => ?_)
  clear hK K
  (try simp only [Act.put, List.setIfInBounds_toArray, List.set_cons_zero, List.set_cons_succ])
  refine pure_ (i := 6) (N := (some 31)) (v := ?_) (a' := ?_) #[true, true, true, true, true, true, true, false, false, false, false] rfl rfl (by kernel_rfl) (fun _ _ _ h => h) (Or.inl ⟨by rfl, ?_⟩) ?_ ?_
  rotate_left
  · intro w'
    go_simp
    with_reducible rfl
  rotate_left
  · simp only [Act.put, List.setIfInBounds_toArray, List.set_cons_zero, List.set_cons_succ]
    rfl
  refine pure_ (i := 7) (N := (some 38)) (v := ?_) (a' := ?_) #[true, true, true, true, true, true, true, true, false, false, false] rfl rfl (by kernel_rfl) (fun _ _ _ h => h) (Or.inl ⟨by rfl, ?_⟩) ?_ ?_
  rotate_left
  · intro w'
    go_simp
    with_reducible rfl
  rotate_left
  · simp only [Act.put, List.setIfInBounds_toArray, List.set_cons_zero, List.set_cons_succ]
    rfl
  refine pure_ (i := 8) (N := (some 39)) (v := ?_) (a' := ?_) #[true, true, true, true, true, true, true, true, true, false, false] rfl rfl (by kernel_rfl) (fun _ _ _ h => h) (Or.inl ⟨by rfl, ?_⟩) ?_ ?_
  rotate_left
  · intro w'
    go_simp
    with_reducible rfl
  rotate_left
  · simp only [Act.put, List.setIfInBounds_toArray, List.set_cons_zero, List.set_cons_succ]
    rfl
  refine pure_ (i := 9) (N := (some 7)) (v := ?_) (a' := ?_) #[true, true, true, true, true, true, true, true, true, true, false] rfl rfl (by kernel_rfl) (fun _ _ _ h => h) (Or.inl ⟨by rfl, ?_⟩) ?_ ?_
  rotate_left
  · intro w'
    go_simp
    with_reducible rfl
  rotate_left
  · simp only [Act.put, List.setIfInBounds_toArray, List.set_cons_zero, List.set_cons_succ]
    rfl
  refine pure_ (i := 10) (N := (some 8)) (v := ?_) (a' := ?_) #[true, true, true, true, true, true, true, true, true, true, true] rfl rfl (by kernel_rfl) (fun _ _ _ h => h) (Or.inl ⟨by rfl, ?_⟩) ?_ ?_
  rotate_left
  · intro w'
    go_simp
    with_reducible rfl
  rotate_left
  · simp only [Act.put, List.setIfInBounds_toArray, List.set_cons_zero, List.set_cons_succ]
    rfl
  refine done_ (by kernel_rfl) ?_
  obtain ⟨q0, q1, q2⟩ := HGB8.out.cells
  go_wp2_with fail
  refine (ldists_is HGB8.out.at_ HL.out s HS.out).mono ?_
  rintro en w9 ⟨B, dd, rfl, hm, hC, hb9⟩
  have HA9 := Lib.hid (below_then HA8.out HA8.out.size hb9)
  have h0 : 0 ≤ tg := HTG.out.1
  have h1 : tg < ((dists g s).length : Int) := by rw [HLE.out]; exact HTG.out.2
  obtain ⟨ad, rfl, hcell⟩ := Kd.at_int hC tg h0 h1
  clear hb9 hC hm q0 q1 q2
  replace h0 := eq_true h0
  replace h1 := eq_true h1
  have HX := HPU.out
  generalize rd (dists g s) tg = q at HX hcell
  clear HPU HR
  rcases HX with ⟨rfl, rfl⟩ | ⟨rfl, rfl⟩
  all_goals
    go_wp2
    go_ret
    exact ⟨by simp, HA9.out⟩
theorem distances_law (h : GAt g w A0 c0 A1 c1 A2 c2) (s tg : Int) :
    Calls Try.prog 7 #[.agg #[.slice A0 g.E.length c0, .slice A1 g.K.length c1, .slice A2 g.Gs.length c2], .int .i64 s, .int .i64 tg] w fun e w' => e = .returned (.bool true) ∧ Below w.heap.size w w' := by
  by_cases hg : g.large = true ∨ g.has s = false ∨ g.has tg = false ∨ g.plain = false
  · exact dlaw_out h s tg hg
  · simp only [not_or, Bool.not_eq_true, Bool.not_eq_false] at hg
    exact dlaw_in h s tg hg.1 hg.2.1 hg.2.2.1 hg.2.2.2
end Go.Proofs.Ytipdejalohmkpaa.Gr
