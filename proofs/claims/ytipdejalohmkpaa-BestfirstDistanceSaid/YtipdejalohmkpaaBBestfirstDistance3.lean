/- Part 3 of the proof of BestfirstDistance: ISb, IFn, ISeN, ISeK, ILw. -/
import Derived.Test.YtipdejalohmkpaaBBestfirstDistance2
import Derived.Deep.RegionWith
import Derived.RegionCalls
/- The search at a budget that is none. -/
namespace Go.Proofs.Ytipdejalohmkpaa.I
open Go.RowKit Hp Go.Proofs.YtipdejalohmkpaaW.PrintWords

set_option maxRecDepth 1000000 in
set_option maxHeartbeats 400000 in
theorem search_low (v0 v1 gv : Value) (budget : Int) (w : World) (h : budget < 1) :
    Calls Try.prog 35 #[v0, v1, .int .i64 budget, gv] w fun e w' => e = .returned (.tuple #[.pointer none, .slice none 0 0, .int .i64 1]) ∧ w = w' := by
  have d1 : decide (budget < 1) = true := decide_eq_true h
  go_enter Try.func35, Try.ntmps35
  go_wp2
  go_ret3
  exact ⟨rfl, rfl⟩
set_option maxRecDepth 1000000 in
set_option maxHeartbeats 400000 in
theorem search_high (v0 v1 gv : Value) (budget : Int) (w : World) (h : 1048576 < budget) :
    Calls Try.prog 35 #[v0, v1, .int .i64 budget, gv] w fun e w' => e = .returned (.tuple #[.pointer none, .slice none 0 0, .int .i64 1]) ∧ w = w' := by
  have d1 : decide (budget < 1) = false := decide_eq_false (by omega)
  have d2 : decide (1048576 < budget) = true := decide_eq_true h
  go_enter Try.func35, Try.ntmps35
  go_wp2
  go_ret3
  exact ⟨rfl, rfl⟩
theorem search_bad (v0 v1 gv : Value) (budget : Int) (w : World) (h : budget < 1 ∨ 1048576 < budget) :
    Calls Try.prog 35 #[v0, v1, .int .i64 budget, gv] w fun e w' => e = .returned (.tuple #[.pointer none, .slice none 0 0, .int .i64 1]) ∧ w = w' := by
  rcases h with h | h
  · exact search_low v0 v1 gv budget w h
  · exact search_high v0 v1 gv budget w h
end Go.Proofs.Ytipdejalohmkpaa.I

/- Search: the path, its cost, or the error. -/
namespace Go.Proofs.Ytipdejalohmkpaa.I
open Go.RowKit Hp Go.Proofs.YtipdejalohmkpaaW.PrintWords Go.Proofs.YtipdejalohmkpaaW.PrintLast

/-- What Search hands back. -/
def FnPost (W0 : World) (out : Sr.Out ST) (e : Ending) (w' : World) : Prop :=
  Below W0.heap.size W0 w' ∧ ∃ v : Value, match out with
  | .notFound _ => e = .returned (.tuple #[v, .int .i64 0, .int .i64 4]) ∧ v = .slice none 0 0
  | .budget _ => e = .returned (.tuple #[v, .int .i64 0, .int .i64 7]) ∧ v = .slice none 0 0
  | .found x _ => e = .returned (.tuple #[v, .int .i64 x.cost, .int .i64 0]) ∧ (Kd.int .i64).R 3 w' W0.heap.size (fun _ => True) v x.rp.reverse

set_option linter.unusedVariables false
set_option maxHeartbeats 1000000 in
theorem fsearch_any (p : Sr.Prob ST) (ok : ST → Prop) (goal : ST → Bool) (pr : Value) (s0 : ST) (budget : Nat) (W0 : World) (hp : PrC p ok pr W0) (hb1 : 1 ≤ budget) (hb2 : budget ≤ 1048576) (hok : ok s0)
    (hgoal : ∀ (w : World) (s : ST), ok s → Below W0.heap.size W0 w → Calls Try.prog 68 #[pr, stV s] w fun e w' => e = .returned (.bool (goal s)) ∧ Below w.heap.size w w') (k : Nat) (out : Sr.Out ST)
    (hrun : Sr.run p goal budget k [⟨s0, [], 0, 0⟩] [] 1 = some out) (hlen : ∀ x o, out = .found x o → x.rp.length < 1000000000) :
    Calls Try.prog 26 #[.iface 62 pr, stV s0, .int .i64 (budget : Int)] W0 (FnPost W0 out) := by
  show Calls Try.prog 26 #[.iface 62 pr, .int .i64 s0, .int .i64 (budget : Int)] W0 _
  have HC := Lib.hid (search_G p ok goal pr ⟨0, 0, none⟩ ⟨0, 0, none⟩ s0 budget W0 hp hb1 hb2 hok hgoal k out hrun)
  have HL := Lib.hid hlen
  clear hp hgoal hrun hlen
  cases out with
  | notFound order =>
    go_enter Try.func26, Try.ntmps26
    go_wp2_with (go_at_call 35; refine HC.out.mono ?_; rintro e w1 ⟨hb, vo, rfl, ho⟩; have HB := Lib.hid hb; clear hb ho)
    go_ret3
    exact ⟨HB.out, _, rfl, rfl⟩
  | budget order =>
    go_enter Try.func26, Try.ntmps26
    go_wp2_with (go_at_call 35; refine HC.out.mono ?_; rintro e w1 ⟨hb, rfl⟩; have HB := Lib.hid hb; clear hb)
    go_ret3
    exact ⟨HB.out, _, rfl, rfl⟩
  | found x order =>
    go_enter Try.func26, Try.ntmps26
    go_wp2_with fail
    refine HC.out.mono ?_
    rintro e w1 ⟨hb, b, vo, d, rfl, hent, hst, hcost, hpath⟩
    have hc2 := hent.c2
    rw [hcost] at hc2
    have HB := Lib.hid hb
    have HPATH := Lib.hid (show EPath w1 x.rp (some ⟨b, 0, none⟩) from ⟨b, d, rfl, hent, hst, hpath⟩)
    have HLT := Lib.hid hent.lt
    clear hb hent hst hcost hpath HC
    go_wp2_with fail
    have HPX := Lib.hid (show EPath w1.drew x.rp (some ⟨b, 0, none⟩) from HPATH.out.keep (EK.below (Below.drew (Below.refl _ _))))
    have HBX := Lib.hid (HB.out.drew)
    refine start_ (n := 9) (S := fun w' => w'.cell? ⟨b, 2, none⟩ = some (.int .i64 x.cost)) (ds := []) #[false, false, false, false, false, false, false, false, false] (by kernel_rfl) rfl rfl hc2 (fun hHeld => ?_)
    have HLX : Hid (b < w1.drew.heap.size) := HLT.out
    clear hc2 HB HPATH HLT
    generalize w1.drew = w2 at HPX HBX HLX hHeld ⊢
    refine pure_ (i := 0) (N := (some 26)) (v := ?_) (a' := ?_) #[true, false, false, false, false, false, false, false, false] rfl rfl (by kernel_rfl) (fun _ _ _ h => h) (Or.inl ⟨by rfl, ?_⟩) ?_ ?_
    rotate_left
    · intro w'
      go_simp
      with_reducible rfl
    rotate_left
    · simp only [Act.put, List.setIfInBounds_toArray, List.set_cons_zero, List.set_cons_succ]
      rfl
    refine pure_ (i := 2) (N := (some 28)) (v := ?_) (a' := ?_) #[true, false, true, false, false, false, false, false, false] rfl rfl (by kernel_rfl) (fun _ _ _ h => h) (Or.inl ⟨by rfl, ?_⟩) ?_ ?_
    rotate_left
    · intro w'
      go_simp
      with_reducible rfl
    rotate_left
    · simp only [Act.put, List.setIfInBounds_toArray, List.set_cons_zero, List.set_cons_succ]
      rfl
    refine pure_ (i := 3) (N := (some 29)) (v := ?_) (a' := ?_) #[true, false, true, true, false, false, false, false, false] rfl rfl (by kernel_rfl) (fun _ _ _ h => h) (Or.inl ⟨by rfl, ?_⟩) ?_ ?_
    rotate_left
    · intro w'
      go_simp
      with_reducible rfl
    rotate_left
    · simp only [Act.put, List.setIfInBounds_toArray, List.set_cons_zero, List.set_cons_succ]
      rfl
    refine pure_ (i := 4) (N := (some 30)) (v := ?_) (a' := ?_) #[true, false, true, true, true, false, false, false, false] rfl rfl (by kernel_rfl) (fun _ _ _ h => h) (Or.inl ⟨by rfl, ?_⟩) ?_ ?_
    rotate_left
    · intro w'
      go_simp
      with_reducible rfl
    rotate_left
    · simp only [Act.put, List.setIfInBounds_toArray, List.set_cons_zero, List.set_cons_succ]
      rfl
    refine take_ (i := 5) (N := (some 31)) (v := ?_) (a' := ?_) #[true, false, true, true, true, true, false, false, false] rfl rfl (by kernel_rfl) (fun _ _ _ h => h) (Or.inl ⟨by rfl, ?_⟩) hHeld ?_ ?_
    rotate_left
    · rintro w' s0
      go_simp
      with_reducible rfl
    rotate_left
    · simp only [Act.put, List.setIfInBounds_toArray, List.set_cons_zero, List.set_cons_succ]
      rfl
    refine one_ (i := 1) (N := (some 27)) #[true, true, true, true, true, true, false, false, false] rfl rfl (by kernel_rfl) (by decide) (fun K hK => ?_)
    go_simp
    refine (path_any w2 x.rp _ HPX.out (HL.out x order rfl)).mono ?_
    rintro e w3 ⟨v, rfl, hv, hb3⟩
    have HV := Lib.hid hv
    have HB3 := Lib.hid hb3
    clear hv hb3
    refine hK.out _ _ ((HB3.out.cell HLX.out).trans hHeld) (fun hHeld => ?_)
    clear hK K
    (try simp only [Act.put, List.setIfInBounds_toArray, List.set_cons_zero, List.set_cons_succ])
    refine pure_ (i := 6) (N := (some 6)) (v := ?_) (a' := ?_) #[true, true, true, true, true, true, true, false, false] rfl rfl (by kernel_rfl) (fun _ _ _ h => h) (Or.inl ⟨by rfl, ?_⟩) ?_ ?_
    rotate_left
    · intro w'
      go_simp
      with_reducible rfl
    rotate_left
    · simp only [Act.put, List.setIfInBounds_toArray, List.set_cons_zero, List.set_cons_succ]
      rfl
    refine pure_ (i := 7) (N := (some 7)) (v := ?_) (a' := ?_) #[true, true, true, true, true, true, true, true, false] rfl rfl (by kernel_rfl) (fun _ _ _ h => h) (Or.inl ⟨by rfl, ?_⟩) ?_ ?_
    rotate_left
    · intro w'
      go_simp
      with_reducible rfl
    rotate_left
    · simp only [Act.put, List.setIfInBounds_toArray, List.set_cons_zero, List.set_cons_succ]
      rfl
    refine pure_ (i := 8) (N := (some 8)) (v := ?_) (a' := ?_) #[true, true, true, true, true, true, true, true, true] rfl rfl (by kernel_rfl) (fun _ _ _ h => h) (Or.inl ⟨by rfl, ?_⟩) ?_ ?_
    rotate_left
    · intro w'
      go_simp
      with_reducible rfl
    rotate_left
    · simp only [Act.put, List.setIfInBounds_toArray, List.set_cons_zero, List.set_cons_succ]
      rfl
    refine done_ (by kernel_rfl) ?_
    go_wp2
    go_ret3
    exact ⟨HBX.out.trans (HB3.out.mono HBX.out.size), _, rfl, Kd.R_lower HV.out HBX.out.size⟩
end Go.Proofs.Ytipdejalohmkpaa.I

/- The search, walked, with one kind of goal function (N). -/
namespace Go.Proofs.Ytipdejalohmkpaa.I
open Go.RowKit Hp Go.Proofs.YtipdejalohmkpaaW.PrintWords Go.Proofs.YtipdejalohmkpaaW.PrintLast

set_option linter.unusedVariables false
set_option maxRecDepth 1000000 in
set_option maxHeartbeats 4000000 in
theorem search_N (p : Sr.Prob ST) (ok : ST → Prop) (goal : ST → Bool) (pr : Value) (ga gb : Addr) (s0 : ST) (budget : Nat) (W0 : World) (hp : PrC p ok pr W0) (hb1 : 1 ≤ budget) (hb2 : budget ≤ 1048576) (hok : ok s0) (hgoal : ∀ (w : World) (s : ST), ok s → Below W0.heap.size W0 w → Calls Try.prog 37 #[stV s] w fun e w' => e = .returned (.bool (goal s)) ∧ Below w.heap.size w w') (k : Nat) (out : Sr.Out ST)
    (hrun : Sr.run p goal budget k [⟨s0, [], 0, 0⟩] [] 1 = some out) :
    Calls Try.prog 35 #[.iface 62 pr, stV s0, .int .i64 (budget : Int), .func (.func 37) #[] #[]] W0 (SPost W0 out) := by
  show Calls Try.prog 35 #[.iface 62 pr, .int .i64 s0, .int .i64 (budget : Int), .func (.func 37) #[] #[]] W0 _
  have HS := Lib.hid (start_rel p ok goal budget W0 s0 out k hok hrun)
  have HP := Lib.hid hp
  have HG := Lib.hid hgoal
  have hmg := hp.mgoal
  clear hrun hp hok hgoal
  have hmm := @run_makeMap Try.prog
  have d1 : decide ((budget : Int) < 1) = false := decide_eq_false (by omega)
  have d2 : decide (1048576 < (budget : Int)) = false := decide_eq_false (by omega)
  go_enter Try.func35, Try.ntmps35
  go_wp2
  generalize W0.heap.size + 1 + 1 + 1 = M at HS ⊢
  generalize W0.heap.size + 1 + 1 = q at HS ⊢
  go_loopg [13, 14] k (fun kq vo va wr => SRelV p ok goal budget W0 q M out kq vo va wr)
  case atStart => exact ⟨[], [⟨s0, [], 0, 0⟩], 1, [W0.heap.size], _, rfl, rfl, HS.out⟩
  case round =>
    clear HS
    obtain ⟨order, L, added, l, vo, rfl, rfl, hrel⟩ := hrel
    cases gk with
    | zero => exact absurd hrel.2.2.2.2 (by simp [Sr.run])
    | succ k1 =>
    obtain ⟨⟨pe, bf, hsi⟩, hoks, hob, hadd, hrun⟩ := hrel
    obtain ⟨v, hq, hr⟩ := hsi.heap.ex
    obtain ⟨A, c, rfl⟩ := own_slice hr
    obtain ⟨Ao, co, rfl⟩ := own_slice hsi.ord
    have hqc := hq.cell
    have hlen := hsi.len
    have hlen2 := hsi.rise.length
    have HSI := Lib.hid hsi
    have HRUN := Lib.hid hrun
    have HOK := Lib.hid hoks
    have hl9 : (l.length : Int) < 1000000000 := by omega
    have HLEN := Lib.hid hlen
    clear hsi hrun hoks hq hr hlen
    by_cases hl : l.length = 0
    · have HPOST : SPost W0 out (.returned (.tuple #[.pointer none, (.slice Ao order.length co), .int .i64 4])) wr := by
        have hL : L = [] := List.eq_nil_of_length_eq_zero (by rw [← HLEN.out]; exact hl)
        have h1 := HRUN.out
        subst hL
        simp only [Sr.run, List.getElem?_nil, Option.some.injEq] at h1
        subst h1
        exact ⟨HSI.out.below, _, rfl, HSI.out.ord⟩
      rw [hl] at hqc
      have HP2 := Lib.hid HPOST
      clear HPOST hl hl9
      go_wp2_with (first | (go_at_call 43; refine (len_any _ _ _ _).mono ?_; rintro e w' ⟨rfl, rfl⟩))
      go_ret3
      exact HP2.out
    · obtain ⟨n, hn⟩ : ∃ n, l.length = n + 1 := ⟨l.length - 1, by omega⟩
      obtain ⟨b0, x, hx, hpop⟩ := pop_popped HSI.out hn (by omega)
      have HX := Lib.hid hx
      have HPOP := Lib.hid hpop
      have hpos : 0 < l.length := by omega
      have hta := I_assert
      have HN := Lib.hid hn
      have hokx : ok x.st := (HOK.out x (List.mem_of_getElem? hx)).1
      have HCX := Lib.hid (HOK.out x (List.mem_of_getElem? hx)).2
      clear hx hpop hn hl
      go_wp2_with (first | (go_at_call 43; refine (len_any _ _ _ _).mono ?_; rintro e w' ⟨rfl, rfl⟩) | (go_at_call 40; refine HPOP.out.mono ?_; rintro e w1 ⟨rfl, hp1⟩))
      have hc0 := hp1.c0
      have hmk := HP.out.mkey
      have hnk := HP.out.nkey
      simp only [stV] at hc0
      have HP1 := Lib.hid hp1
      clear hp1 hta hqc
      go_still_tail 8, (by kernel_rfl)
      have hp2 := HP1.out.step (Below.drew (Below.refl w1.heap.size w1))
      change wpList _ _ _ _ _ w1.drew
      clear HP1 HPOP
      generalize w1.drew = w2 at hp2 ⊢
      have HP2 := Lib.hid hp2
      clear hp2 hc0
      go_wp2_with fail
      refine (HP.out.key w2 x.st hokx HP2.out.below).mono ?_
      rintro e w3 ⟨rfl, hb3⟩
      have HP3 := Lib.hid (HP2.out.step hb3)
      have hlk := HP3.out.set.lookup (p.key x.st)
      rw [Sr.was_any] at hlk
      clear hb3 HP2 hmk hnk
      cases hw : Sr.was p order x.st with
      | true =>
        rw [hw] at hlk
        have HR := Lib.hid (Sr.run_was HX.out hw HRUN.out)
        clear hw
        go_wp2
        go_roundg k1
        case measure => omega
        case rel =>
          obtain ⟨pe2, bf2, l2, h1, _⟩ := HP3.out
          exact ⟨order, L.eraseIdx (Sr.minIdx L), added, l2, _, rfl, rfl, ⟨pe2, bf2, h1⟩, fun e he => HOK.out e ((List.eraseIdx_sublist ..).subset he), hob, hadd, HR.out⟩
      | false =>
        rw [hw] at hlk
        have HW := Lib.hid hw
        clear hw
        have hc3 := HP3.out.c0
        simp only [stV] at hc3
        go_wp2_with fail
        refine (HG.out w3 x.st hokx HP3.out.below).mono ?_
        rintro e w4 ⟨rfl, hb4⟩
        have HP4 := Lib.hid (HP3.out.step hb4)
        clear hb4 hc3 hlk HP3
        cases hg : goal x.st with
        | true =>
          have HPOST : SPost W0 out (.returned (.tuple #[.pointer (some ⟨b0, 0, none⟩), .slice Ao order.length co, .int .i64 0])) w4 := by
            rw [Sr.run_goal HX.out HW.out hg HRUN.out]
            obtain ⟨pe2, bf2, l2, h1, h2, h3, h4⟩ := HP4.out
            exact ⟨h1.below, b0, _, _, rfl, h3, by show stV (pe2 b0).st = _; rw [h2], by show (pe2 b0).cost = _; rw [h2], h4⟩
          have HPO := Lib.hid HPOST
          clear HPOST hg
          go_wp2
          go_ret3
          exact HPO.out
        | false =>
          have HGF := Lib.hid hg
          clear hg
          by_cases hbe : order.length = budget
          · have HPOST : SPost W0 out (.returned (.tuple #[.pointer none, .slice none 0 0, .int .i64 7])) w4 := by
              rw [Sr.run_budget HX.out HW.out HGF.out hbe HRUN.out]
              exact ⟨HP4.out.below, rfl⟩
            have HPO := Lib.hid HPOST
            have e1 : ((order.length : Int) == (budget : Int)) = true := by simp [hbe]
            have e2 : (order.length == budget) = true := by simp [hbe]
            clear HPOST hbe
            go_wp2
            go_ret3
            exact HPO.out
          · have HE := Lib.hid (Sr.run_expand HX.out HW.out HGF.out hbe HRUN.out)
            have e1 : ((order.length : Int) == (budget : Int)) = false := by rw [beq_eq_false_iff_ne]; omega
            have e2 : (order.length == budget) = false := by rw [beq_eq_false_iff_ne]; exact hbe
            have HBE : order.length < budget := by omega
            clear hbe
            obtain ⟨w5, hup, hset5, hg5⟩ := HP4.out.set.add (p.key x.st) (by rw [Sr.was_any]; exact HW.out)
            have HSET5 := Lib.hid hset5
            have HG5 := Lib.hid hg5
            have HM := Lib.hid (mark_c0 HP4.out hset5 hg5)
            have HORD : Hid (w5.ownsRow W0.heap.size 3 1 (.slice Ao order.length co) (order.map stV).length (order.map stV)) := by rw [List.length_map]; exact HM.out.2.1
            have hc5 := HM.out.1
            simp only [stV] at hc5
            clear hset5 hg5
            go_wp2_with (first | (at_builtin; go_loud (refine print_append (w0 := W0) (W := w5) W0.heap.size rfl (.tmp 66) (.tmp 71) 24 3 (.int .i64 0) 8 rfl Try.underlying24 info_st rfl (by decide) (.slice Ao order.length co) (order.map stV) (stV x.st) rfl rfl rfl HORD.out HM.out.2.2 HM.out.2.2.size (by rw [List.length_map]; omega) ?_); intro v1 w6 hrow6 hB6 hg6 _; have HP6 := Lib.hid (mark_append HP4.out HSET5.out HG5.out (by simpa using hrow6) hB6 hg6); clear hrow6 hB6 hg6) | fail)
            have hc6 := HP6.out.c0
            simp only [stV] at hc6
            have hmn := HP.out.mnext
            have hnn := HP.out.nnext
            clear hc5 hup
            have hp7 := HP6.out.step (Below.drew (Below.refl w6.heap.size w6))
            clear HM HSET5 HG5 HP4
            have HP7 := Lib.hid hp7
            clear hp7
            refine start_ (n := 11) (S := fun w' => w'.cell? ⟨b0, 0, none⟩ = some (Value.int .i64 x.st)) (ds := [8]) #[false, false, false, false, false, false, false, false, false, false, false] (by kernel_rfl) rfl rfl hc6 (fun hHeld => ?_)
            generalize w6.drew = w7 at HP7 hHeld ⊢
            refine pure_ (i := 0) (N := (some 73)) (v := ?_) (a' := ?_) #[true, false, false, false, false, false, false, false, false, false, false] rfl rfl (by kernel_rfl) (fun _ _ _ h => h) (Or.inl ⟨by rfl, ?_⟩) ?_ ?_
            rotate_left
            · intro w'
              go_simp
              with_reducible rfl
            rotate_left
            · simp only [Act.put, List.setIfInBounds_toArray, List.set_cons_zero, List.set_cons_succ]
              rfl
            refine pure_ (i := 1) (N := (some 74)) (v := ?_) (a' := ?_) #[true, true, false, false, false, false, false, false, false, false, false] rfl rfl (by kernel_rfl) (fun _ _ _ h => h) (Or.inl ⟨by rfl, ?_⟩) ?_ ?_
            rotate_left
            · intro w'
              go_simp
              with_reducible rfl
            rotate_left
            · simp only [Act.put, List.setIfInBounds_toArray, List.set_cons_zero, List.set_cons_succ]
              rfl
            refine pure_ (i := 2) (N := (some 75)) (v := ?_) (a' := ?_) #[true, true, true, false, false, false, false, false, false, false, false] rfl rfl (by kernel_rfl) (fun _ _ _ h => h) (Or.inl ⟨by rfl, ?_⟩) ?_ ?_
            rotate_left
            · intro w'
              go_simp
              with_reducible rfl
            rotate_left
            · simp only [Act.put, List.setIfInBounds_toArray, List.set_cons_zero, List.set_cons_succ]
              rfl
            refine pure_ (i := 3) (N := (some 76)) (v := ?_) (a' := ?_) #[true, true, true, true, false, false, false, false, false, false, false] rfl rfl (by kernel_rfl) (fun _ _ _ h => h) (Or.inl ⟨by rfl, ?_⟩) ?_ ?_
            rotate_left
            · intro w'
              go_simp
              with_reducible rfl
            rotate_left
            · simp only [Act.put, List.setIfInBounds_toArray, List.set_cons_zero, List.set_cons_succ]
              rfl
            refine take_ (i := 4) (N := (some 77)) (v := ?_) (a' := ?_) #[true, true, true, true, true, false, false, false, false, false, false] rfl rfl (by kernel_rfl) (fun _ _ _ h => h) (Or.inl ⟨by rfl, ?_⟩) hHeld ?_ ?_
            rotate_left
            · rintro w' s0
              go_simp
              with_reducible rfl
            rotate_left
            · simp only [Act.put, List.setIfInBounds_toArray, List.set_cons_zero, List.set_cons_succ]
              rfl
            refine pure_ (i := 5) (N := (some 78)) (v := ?_) (a' := ?_) #[true, true, true, true, true, true, false, false, false, false, false] rfl rfl (by kernel_rfl) (fun _ _ _ h => h) (Or.inl ⟨by rfl, ?_⟩) ?_ ?_
            rotate_left
            · intro w'
              go_simp
              with_reducible rfl
            rotate_left
            · simp only [Act.put, List.setIfInBounds_toArray, List.set_cons_zero, List.set_cons_succ]
              rfl
            refine pure_ (i := 6) (N := (some 79)) (v := ?_) (a' := ?_) #[true, true, true, true, true, true, true, false, false, false, false] rfl rfl (by kernel_rfl) (fun _ _ _ h => h) (Or.inl ⟨by rfl, ?_⟩) ?_ ?_
            rotate_left
            · intro w'
              go_simp
              with_reducible rfl
            rotate_left
            · simp only [Act.put, List.setIfInBounds_toArray, List.set_cons_zero, List.set_cons_succ]
              rfl
            refine pure_ (i := 7) (N := (some 80)) (v := ?_) (a' := ?_) #[true, true, true, true, true, true, true, true, false, false, false] rfl rfl (by kernel_rfl) (fun _ _ _ h => h) (Or.inl ⟨by rfl, ?_⟩) ?_ ?_
            rotate_left
            · intro w'
              go_simp
              with_reducible rfl
            rotate_left
            · simp only [Act.put, List.setIfInBounds_toArray, List.set_cons_zero, List.set_cons_succ]
              rfl
            refine pure_ (i := 10) (N := (some 83)) (v := ?_) (a' := ?_) #[true, true, true, true, true, true, true, true, false, false, true] rfl rfl (by kernel_rfl) (fun _ _ _ h => h) (Or.inl ⟨by rfl, ?_⟩) ?_ ?_
            rotate_left
            · intro w'
              go_simp
              with_reducible rfl
            rotate_left
            · simp only [Act.put, List.setIfInBounds_toArray, List.set_cons_zero, List.set_cons_succ]
              rfl
            refine last_ (i := 8) (N := (some 81)) #[true, true, true, true, true, true, true, true, true, false, true] rfl rfl (by kernel_rfl) (by decide) (fun K hK => ?_)
            go_simp
            refine (HP.out.next w7 x.st hokx HP7.out.below).mono ?_
            rintro e w8 ⟨vs, rfl, hvs, hb8⟩
            obtain ⟨As, cs, rfl, hlc, hCs⟩ := Kd.R_reads hvs
            refine hK.out _ _ ?_
            clear hK K
            (try simp only [Act.put, List.setIfInBounds_toArray, List.set_cons_zero, List.set_cons_succ])
            refine pure_ (i := 9) (N := (some 82)) (v := ?_) (a' := ?_) #[true, true, true, true, true, true, true, true, true, true, true] rfl rfl (by kernel_rfl) (fun _ _ _ h => h) (Or.inl ⟨by rfl, ?_⟩) ?_ ?_
            rotate_left
            · intro w'
              go_simp
              with_reducible rfl
            rotate_left
            · simp only [Act.put, List.setIfInBounds_toArray, List.set_cons_zero, List.set_cons_succ]
              rfl
            refine done_ (by kernel_rfl) ?_
            clear hc6 hHeld
            have HP8 := Lib.hid (HP7.out.step hb8)
            have HVS := Lib.hid hvs
            have hfew := HP.out.few x.st
            have HNS := Lib.hid (show ∀ y ∈ p.next x.st, ok y.1 from fun y hy => HP.out.oks x.st y hokx hy)
            clear hvs hb8 hCs HP7 hmn hnn HP6
            go_wp2_with fail
            have HI0 : Hid (IRel p W0 q M (order ++ [x.st]) v1 b0 x (p.next x.st) (L.eraseIdx (Sr.minIdx L) ++ Sr.pushes x (p.next x.st) added) (added + (Sr.pushes x (p.next x.st) added).length) w8 (.int .i64 (added : Int)) (.int .i64 0) w8) :=
              ⟨0, _, added, rfl, Nat.zero_le _, rfl, HP8.out, rfl, rfl, Chg.refl _ _⟩
            have HAF := pushes_len x (p.next x.st) added
            have HAF2 : added + (Sr.pushes x (p.next x.st) added).length ≤ 200000000 := by omega
            obtain ⟨Lf, hLf⟩ : ∃ Lf, L.eraseIdx (Sr.minIdx L) ++ Sr.pushes x (p.next x.st) added = Lf := ⟨_, rfl⟩
            obtain ⟨addf, haddf⟩ : ∃ addf, added + (Sr.pushes x (p.next x.st) added).length = addf := ⟨_, rfl⟩
            have HLOK : Hid (∀ e ∈ Lf, ok e.st ∧ 0 ≤ e.cost ∧ e.cost ≤ Sr.maxCount) := by
              rw [← hLf]
              intro e he
              rcases List.mem_append.1 he with he | he
              · exact HOK.out e ((List.eraseIdx_sublist ..).subset he)
              · exact pushes_ok x HCX.out _ _ HNS.out e he
            have HADD2 : addf ≤ 1 + 100 * (order ++ [x.st]).length := by rw [← haddf]; simp; omega
            rw [hLf, haddf] at HE HI0
            rw [haddf] at HAF2
            have HADDF := Lib.hid HADD2
            clear hLf haddf HAF HADD2 hadd
            go_loopw [14, 83] (fun va vj wr2 => IRel p W0 q M (order ++ [x.st]) v1 b0 x (p.next x.st) Lf addf w8 va vj wr2) (fun _ vj _ => (p.next x.st).length - (intOf vj).toNat)
            case atStart => exact HI0.out
            case round =>
              clear HI0
              obtain ⟨j, Lc, addc, rfl, hj, rfl, hpc, hLc, haddc, hchg⟩ := hrel
              have hac : addc ≤ 200000000 := by omega
              have HPC := Lib.hid hpc
              have HLC := Lib.hid hLc
              have HADC := Lib.hid haddc
              have HCHG := Lib.hid hchg
              clear hpc hLc haddc hchg
              by_cases hlt : j < (p.next x.st).length
              · obtain ⟨y, hy⟩ : ∃ y, (p.next x.st)[j]? = some y := ⟨_, List.getElem?_eq_getElem hlt⟩
                obtain ⟨t, c⟩ := y
                obtain ⟨u, hqa⟩ := HP8.out.qat
                obtain ⟨ad, eA, hx0, hx1⟩ := at_step (Kd.R_reads' (steps_keep HVS.out hqa HCHG.out)).2.2 j hlt _ hy
                subst eA
                have hc2 := HPC.out.c2
                have hb0l := HPC.out.lt
                have HY := Lib.hid hy
                have hj0 : 0 ≤ (j : Int) := by omega
                have hjl : (j : Int) < ((p.next x.st).length : Int) := by omega
                simp only [stV] at hx0
                have hc0x := HCX.out.1
                have hc1x : x.cost ≤ 1099511627776 := HCX.out.2
                clear hqa hy
                by_cases hneg : c < 0
                · have g1 : decide (c < 0) = true := decide_eq_true hneg
                  have HSK := Lib.hid (pushes_skip x (t, c) ((p.next x.st).drop (j + 1)) addc (.inl hneg))
                  go_wp2_with fail
                  go_quiet (fail)
                  go_wp2
                  go_roundw
                  case rel => exact IRel.skip HY.out HPC.out HLC.out HADC.out HCHG.out HSK.out (below_new _ _ _)
                  case measure => simp [intOf]; omega
                · have g1 : decide (c < 0) = false := decide_eq_false hneg
                  have g2 : 0 ≤ c := by omega
                  by_cases hbig : 1099511627776 - x.cost < c
                  · have g3 : decide (1099511627776 - x.cost < c) = true := decide_eq_true hbig
                    have HSK := Lib.hid (pushes_skip x (t, c) ((p.next x.st).drop (j + 1)) addc (.inr hbig))
                    go_wp2_with fail
                    go_quiet (fail)
                    go_wp2
                    go_roundw
                    case rel => exact IRel.skip HY.out HPC.out HLC.out HADC.out HCHG.out HSK.out (below_new _ _ _)
                    case measure => simp [intOf]; omega
                  · have g3 : decide (1099511627776 - x.cost < c) = false := decide_eq_false hbig
                    have HSK := Lib.hid (pushes_take x (t, c) ((p.next x.st).drop (j + 1)) addc (by rintro (h | h); exact hneg h; exact hbig h))
                    go_wp2_with fail
                    go_quiet (fail)
                    go_wp2_with fail
                    have hs := new_cells wr (Value.int .i64 t) (.int .i64 c) 102 nq
                    have HC29 := Lib.hid ((Below.cell (below_new wr (.cells #[Value.int .i64 t, .int .i64 c] 102) nq) (p := ⟨b0, 2, none⟩) hb0l).trans hc2)
                    have HBA := Lib.hid (below_new wr (.cells #[Value.int .i64 t, .int .i64 c] 102) nq).drew
                    have HPA := Lib.hid (HPC.out.step HBA.out)
                    have HHS := Lib.hid hs
                    clear hs hx0 hx1 hc2
                    have hac2 : addc < 900000000 := by omega
                    have hwr : IntKind.i64.wrap (x.cost + c) = x.cost + c := by rw [i64_w]; unfold wrap64; omega
                    generalize (World.alloc wr (.cells #[Value.int .i64 t, .int .i64 c] 102)).drewN nq = W9 at HHS HC29 HBA HPA ⊢
                    refine start_ (n := 17) (S := fun w' => w'.cell? ⟨wr.heap.size, 0, none⟩ = some (Value.int .i64 t) ∧ w'.cell? ⟨b0, 2, none⟩ = some (.int .i64 x.cost) ∧ w'.cell? ⟨wr.heap.size, 1, none⟩ = some (.int .i64 c)) (ds := [14, 16]) #[false, false, false, false, false, false, false, false, false, false, false, false, false, false, false, false, false] (by kernel_rfl) rfl rfl ⟨HHS.out.1, HC29.out, HHS.out.2⟩ (fun hHeld => ?_)
                    clear HHS HC29
                    generalize W9.drew = WA at HBA HPA hHeld ⊢
                    refine pure_ (i := 0) (N := (some 100)) (v := ?_) (a' := ?_) #[true, false, false, false, false, false, false, false, false, false, false, false, false, false, false, false, false] rfl rfl (by kernel_rfl) (fun _ _ _ h => h) (Or.inl ⟨by rfl, ?_⟩) ?_ ?_
                    rotate_left
                    · intro w'
                      go_simp
                      with_reducible rfl
                    rotate_left
                    · simp only [Act.put, List.setIfInBounds_toArray, List.set_cons_zero, List.set_cons_succ]
                      rfl
                    refine pure_ (i := 1) (N := (some 101)) (v := ?_) (a' := ?_) #[true, true, false, false, false, false, false, false, false, false, false, false, false, false, false, false, false] rfl rfl (by kernel_rfl) (fun _ _ _ h => h) (Or.inl ⟨by rfl, ?_⟩) ?_ ?_
                    rotate_left
                    · intro w'
                      go_simp
                      with_reducible rfl
                    rotate_left
                    · simp only [Act.put, List.setIfInBounds_toArray, List.set_cons_zero, List.set_cons_succ]
                      rfl
                    refine pure_ (i := 2) (N := (some 102)) (v := ?_) (a' := ?_) #[true, true, true, false, false, false, false, false, false, false, false, false, false, false, false, false, false] rfl rfl (by kernel_rfl) (fun _ _ _ h => h) (Or.inl ⟨by rfl, ?_⟩) ?_ ?_
                    rotate_left
                    · intro w'
                      go_simp
                      with_reducible rfl
                    rotate_left
                    · simp only [Act.put, List.setIfInBounds_toArray, List.set_cons_zero, List.set_cons_succ]
                      rfl
                    refine take_ (i := 3) (N := (some 103)) (v := ?_) (a' := ?_) #[true, true, true, true, false, false, false, false, false, false, false, false, false, false, false, false, false] rfl rfl (by kernel_rfl) (fun _ _ _ h => h) (Or.inl ⟨by rfl, ?_⟩) hHeld ?_ ?_
                    rotate_left
                    · rintro w' ⟨s0, s1, s2⟩
                      go_simp
                      with_reducible rfl
                    rotate_left
                    · simp only [Act.put, List.setIfInBounds_toArray, List.set_cons_zero, List.set_cons_succ]
                      rfl
                    refine pure_ (i := 4) (N := (some 104)) (v := ?_) (a' := ?_) #[true, true, true, true, true, false, false, false, false, false, false, false, false, false, false, false, false] rfl rfl (by kernel_rfl) (fun _ _ _ h => h) (Or.inl ⟨by rfl, ?_⟩) ?_ ?_
                    rotate_left
                    · intro w'
                      go_simp
                      with_reducible rfl
                    rotate_left
                    · simp only [Act.put, List.setIfInBounds_toArray, List.set_cons_zero, List.set_cons_succ]
                      rfl
                    refine pure_ (i := 5) (N := (some 105)) (v := ?_) (a' := ?_) #[true, true, true, true, true, true, false, false, false, false, false, false, false, false, false, false, false] rfl rfl (by kernel_rfl) (fun _ _ _ h => h) (Or.inl ⟨by rfl, ?_⟩) ?_ ?_
                    rotate_left
                    · intro w'
                      go_simp
                      with_reducible rfl
                    rotate_left
                    · simp only [Act.put, List.setIfInBounds_toArray, List.set_cons_zero, List.set_cons_succ]
                      rfl
                    refine pure_ (i := 6) (N := (some 106)) (v := ?_) (a' := ?_) #[true, true, true, true, true, true, true, false, false, false, false, false, false, false, false, false, false] rfl rfl (by kernel_rfl) (fun _ _ _ h => h) (Or.inl ⟨by rfl, ?_⟩) ?_ ?_
                    rotate_left
                    · intro w'
                      go_simp
                      with_reducible rfl
                    rotate_left
                    · simp only [Act.put, List.setIfInBounds_toArray, List.set_cons_zero, List.set_cons_succ]
                      rfl
                    refine pure_ (i := 7) (N := (some 107)) (v := ?_) (a' := ?_) #[true, true, true, true, true, true, true, true, false, false, false, false, false, false, false, false, false] rfl rfl (by kernel_rfl) (fun _ _ _ h => h) (Or.inl ⟨by rfl, ?_⟩) ?_ ?_
                    rotate_left
                    · intro w'
                      go_simp
                      with_reducible rfl
                    rotate_left
                    · simp only [Act.put, List.setIfInBounds_toArray, List.set_cons_zero, List.set_cons_succ]
                      rfl
                    refine take_ (i := 8) (N := (some 108)) (v := ?_) (a' := ?_) #[true, true, true, true, true, true, true, true, true, false, false, false, false, false, false, false, false] rfl rfl (by kernel_rfl) (fun _ _ _ h => h) (Or.inl ⟨by rfl, ?_⟩) hHeld ?_ ?_
                    rotate_left
                    · rintro w' ⟨s0, s1, s2⟩
                      go_simp
                      with_reducible rfl
                    rotate_left
                    · simp only [Act.put, List.setIfInBounds_toArray, List.set_cons_zero, List.set_cons_succ]
                      rfl
                    refine pure_ (i := 9) (N := (some 109)) (v := ?_) (a' := ?_) #[true, true, true, true, true, true, true, true, true, true, false, false, false, false, false, false, false] rfl rfl (by kernel_rfl) (fun _ _ _ h => h) (Or.inl ⟨by rfl, ?_⟩) ?_ ?_
                    rotate_left
                    · intro w'
                      go_simp
                      with_reducible rfl
                    rotate_left
                    · simp only [Act.put, List.setIfInBounds_toArray, List.set_cons_zero, List.set_cons_succ]
                      rfl
                    refine take_ (i := 10) (N := (some 110)) (v := ?_) (a' := ?_) #[true, true, true, true, true, true, true, true, true, true, true, false, false, false, false, false, false] rfl rfl (by kernel_rfl) (fun _ _ _ h => h) (Or.inl ⟨by rfl, ?_⟩) hHeld ?_ ?_
                    rotate_left
                    · rintro w' ⟨s0, s1, s2⟩
                      go_simp
                      with_reducible rfl
                    rotate_left
                    · simp only [Act.put, List.setIfInBounds_toArray, List.set_cons_zero, List.set_cons_succ]
                      rfl
                    refine pure_ (i := 11) (N := (some 111)) (v := ?_) (a' := ?_) #[true, true, true, true, true, true, true, true, true, true, true, true, false, false, false, false, false] rfl rfl (by kernel_rfl) (fun _ _ _ h => h) (Or.inl ⟨by rfl, ?_⟩) ?_ ?_
                    rotate_left
                    · intro w'
                      go_simp
                      with_reducible rfl
                    rotate_left
                    · simp only [Act.put, List.setIfInBounds_toArray, List.set_cons_zero, List.set_cons_succ]
                      rfl
                    refine pure_ (i := 12) (N := (some 112)) (v := ?_) (a' := ?_) #[true, true, true, true, true, true, true, true, true, true, true, true, true, false, false, false, false] rfl rfl (by kernel_rfl) (fun _ _ _ h => h) (Or.inl ⟨by rfl, ?_⟩) ?_ ?_
                    rotate_left
                    · intro w'
                      go_simp
                      with_reducible rfl
                    rotate_left
                    · simp only [Act.put, List.setIfInBounds_toArray, List.set_cons_zero, List.set_cons_succ]
                      rfl
                    refine pure_ (i := 13) (N := (some 113)) (v := ?_) (a' := ?_) #[true, true, true, true, true, true, true, true, true, true, true, true, true, true, false, false, false] rfl rfl (by kernel_rfl) (fun _ _ _ h => h) (Or.inl ⟨by rfl, ?_⟩) ?_ ?_
                    rotate_left
                    · intro w'
                      go_simp
                      with_reducible rfl
                    rotate_left
                    · simp only [Act.put, List.setIfInBounds_toArray, List.set_cons_zero, List.set_cons_succ]
                      rfl
                    refine last_ (i := 14) (N := (some 114)) #[true, true, true, true, true, true, true, true, true, true, true, true, true, true, true, false, false] rfl rfl (by kernel_rfl) (by decide) (fun K hK => ?_)
                    go_simp
                    refine hK.out _ _ ?_
                    clear hK K
                    (try simp only [Act.put, List.setIfInBounds_toArray, List.set_cons_zero, List.set_cons_succ])
                    refine pure_ (i := 15) (N := (some 115)) (v := ?_) (a' := ?_) #[true, true, true, true, true, true, true, true, true, true, true, true, true, true, true, true, false] rfl rfl (by kernel_rfl) (fun _ _ _ h => h) (Or.inl ⟨by rfl, ?_⟩) ?_ ?_
                    rotate_left
                    · intro w'
                      go_simp
                      with_reducible rfl
                    rotate_left
                    · simp only [Act.put, List.setIfInBounds_toArray, List.set_cons_zero, List.set_cons_succ]
                      rfl
                    refine last_ (i := 16) (N := (some 116)) #[true, true, true, true, true, true, true, true, true, true, true, true, true, true, true, true, true] rfl rfl (by kernel_rfl) (by decide) (fun K hK => ?_)
                    go_simp
                    refine (push_popped HPA.out t c hac2).mono ?_
                    rintro e w10 ⟨rfl, hpp, hcp⟩
                    have HPP := Lib.hid hpp
                    have HCP := Lib.hid hcp
                    clear hpp hcp
                    refine hK.out _ _ ?_
                    clear hK K
                    (try simp only [Act.put, List.setIfInBounds_toArray, List.set_cons_zero, List.set_cons_succ])
                    refine done_ (by kernel_rfl) ?_
                    clear hwr hHeld
                    go_wp2_with fail
                    go_roundw
                    case rel => exact IRel.take HY.out HLC.out HADC.out HCHG.out HSK.out HBA.out HPP.out HCP.out
                    case measure => simp [intOf]; omega
              · obtain rfl : j = (p.next x.st).length := by omega
                have hL := HLC.out
                have hA := HADC.out
                rw [List.drop_length] at hL hA
                simp only [Sr.pushes, List.append_nil, List.length_nil, Nat.add_zero] at hL hA
                have HL := Lib.hid hL
                have HA := Lib.hid hA
                clear hL hA
                go_wp2_with fail
                go_roundg k1
                case measure => omega
                case rel =>
                  obtain ⟨pe2, bf2, l2, h1, _⟩ := HPC.out
                  rw [HL.out, HA.out] at h1
                  exact ⟨order ++ [x.st], Lf, addf, l2, _, by rw [HA.out], rfl, ⟨pe2, bf2, h1⟩, HLOK.out, by simp; omega, HADDF.out, HE.out⟩
end Go.Proofs.Ytipdejalohmkpaa.I

/- The search, walked, with one kind of goal function (K). -/
namespace Go.Proofs.Ytipdejalohmkpaa.I
open Go.RowKit Hp Go.Proofs.YtipdejalohmkpaaW.PrintWords Go.Proofs.YtipdejalohmkpaaW.PrintLast

set_option linter.unusedVariables false
set_option maxRecDepth 1000000 in
set_option maxHeartbeats 4000000 in
theorem search_K (p : Sr.Prob ST) (ok : ST → Prop) (goal : ST → Bool) (pr : Value) (ga gb : Addr) (s0 : ST) (budget : Nat) (W0 : World) (hp : PrC p ok pr W0) (hb1 : 1 ≤ budget) (hb2 : budget ≤ 1048576) (hok : ok s0) (hgoal : ∀ (w : World) (s : ST), ok s → Below W0.heap.size W0 w → Calls Try.prog 38 #[stV s, .pointer (some ga), .pointer (some gb)] w fun e w' => e = .returned (.bool (goal s)) ∧ Below w.heap.size w w') (k : Nat) (out : Sr.Out ST)
    (hrun : Sr.run p goal budget k [⟨s0, [], 0, 0⟩] [] 1 = some out) :
    Calls Try.prog 35 #[.iface 62 pr, stV s0, .int .i64 (budget : Int), .func (.func 38) #[] #[.pointer (some ga), .pointer (some gb)]] W0 (SPost W0 out) := by
  show Calls Try.prog 35 #[.iface 62 pr, .int .i64 s0, .int .i64 (budget : Int), .func (.func 38) #[] #[.pointer (some ga), .pointer (some gb)]] W0 _
  have HS := Lib.hid (start_rel p ok goal budget W0 s0 out k hok hrun)
  have HP := Lib.hid hp
  have HG := Lib.hid hgoal
  have hmg := hp.mgoal
  clear hrun hp hok hgoal
  have hmm := @run_makeMap Try.prog
  have d1 : decide ((budget : Int) < 1) = false := decide_eq_false (by omega)
  have d2 : decide (1048576 < (budget : Int)) = false := decide_eq_false (by omega)
  go_enter Try.func35, Try.ntmps35
  go_wp2
  generalize W0.heap.size + 1 + 1 + 1 = M at HS ⊢
  generalize W0.heap.size + 1 + 1 = q at HS ⊢
  go_loopg [13, 14] k (fun kq vo va wr => SRelV p ok goal budget W0 q M out kq vo va wr)
  case atStart => exact ⟨[], [⟨s0, [], 0, 0⟩], 1, [W0.heap.size], _, rfl, rfl, HS.out⟩
  case round =>
    clear HS
    obtain ⟨order, L, added, l, vo, rfl, rfl, hrel⟩ := hrel
    cases gk with
    | zero => exact absurd hrel.2.2.2.2 (by simp [Sr.run])
    | succ k1 =>
    obtain ⟨⟨pe, bf, hsi⟩, hoks, hob, hadd, hrun⟩ := hrel
    obtain ⟨v, hq, hr⟩ := hsi.heap.ex
    obtain ⟨A, c, rfl⟩ := own_slice hr
    obtain ⟨Ao, co, rfl⟩ := own_slice hsi.ord
    have hqc := hq.cell
    have hlen := hsi.len
    have hlen2 := hsi.rise.length
    have HSI := Lib.hid hsi
    have HRUN := Lib.hid hrun
    have HOK := Lib.hid hoks
    have hl9 : (l.length : Int) < 1000000000 := by omega
    have HLEN := Lib.hid hlen
    clear hsi hrun hoks hq hr hlen
    by_cases hl : l.length = 0
    · have HPOST : SPost W0 out (.returned (.tuple #[.pointer none, (.slice Ao order.length co), .int .i64 4])) wr := by
        have hL : L = [] := List.eq_nil_of_length_eq_zero (by rw [← HLEN.out]; exact hl)
        have h1 := HRUN.out
        subst hL
        simp only [Sr.run, List.getElem?_nil, Option.some.injEq] at h1
        subst h1
        exact ⟨HSI.out.below, _, rfl, HSI.out.ord⟩
      rw [hl] at hqc
      have HP2 := Lib.hid HPOST
      clear HPOST hl hl9
      go_wp2_with (first | (go_at_call 43; refine (len_any _ _ _ _).mono ?_; rintro e w' ⟨rfl, rfl⟩))
      go_ret3
      exact HP2.out
    · obtain ⟨n, hn⟩ : ∃ n, l.length = n + 1 := ⟨l.length - 1, by omega⟩
      obtain ⟨b0, x, hx, hpop⟩ := pop_popped HSI.out hn (by omega)
      have HX := Lib.hid hx
      have HPOP := Lib.hid hpop
      have hpos : 0 < l.length := by omega
      have hta := I_assert
      have HN := Lib.hid hn
      have hokx : ok x.st := (HOK.out x (List.mem_of_getElem? hx)).1
      have HCX := Lib.hid (HOK.out x (List.mem_of_getElem? hx)).2
      clear hx hpop hn hl
      go_wp2_with (first | (go_at_call 43; refine (len_any _ _ _ _).mono ?_; rintro e w' ⟨rfl, rfl⟩) | (go_at_call 40; refine HPOP.out.mono ?_; rintro e w1 ⟨rfl, hp1⟩))
      have hc0 := hp1.c0
      have hmk := HP.out.mkey
      have hnk := HP.out.nkey
      simp only [stV] at hc0
      have HP1 := Lib.hid hp1
      clear hp1 hta hqc
      go_still_tail 8, (by kernel_rfl)
      have hp2 := HP1.out.step (Below.drew (Below.refl w1.heap.size w1))
      change wpList _ _ _ _ _ w1.drew
      clear HP1 HPOP
      generalize w1.drew = w2 at hp2 ⊢
      have HP2 := Lib.hid hp2
      clear hp2 hc0
      go_wp2_with fail
      refine (HP.out.key w2 x.st hokx HP2.out.below).mono ?_
      rintro e w3 ⟨rfl, hb3⟩
      have HP3 := Lib.hid (HP2.out.step hb3)
      have hlk := HP3.out.set.lookup (p.key x.st)
      rw [Sr.was_any] at hlk
      clear hb3 HP2 hmk hnk
      cases hw : Sr.was p order x.st with
      | true =>
        rw [hw] at hlk
        have HR := Lib.hid (Sr.run_was HX.out hw HRUN.out)
        clear hw
        go_wp2
        go_roundg k1
        case measure => omega
        case rel =>
          obtain ⟨pe2, bf2, l2, h1, _⟩ := HP3.out
          exact ⟨order, L.eraseIdx (Sr.minIdx L), added, l2, _, rfl, rfl, ⟨pe2, bf2, h1⟩, fun e he => HOK.out e ((List.eraseIdx_sublist ..).subset he), hob, hadd, HR.out⟩
      | false =>
        rw [hw] at hlk
        have HW := Lib.hid hw
        clear hw
        have hc3 := HP3.out.c0
        simp only [stV] at hc3
        go_wp2_with fail
        refine (HG.out w3 x.st hokx HP3.out.below).mono ?_
        rintro e w4 ⟨rfl, hb4⟩
        have HP4 := Lib.hid (HP3.out.step hb4)
        clear hb4 hc3 hlk HP3
        cases hg : goal x.st with
        | true =>
          have HPOST : SPost W0 out (.returned (.tuple #[.pointer (some ⟨b0, 0, none⟩), .slice Ao order.length co, .int .i64 0])) w4 := by
            rw [Sr.run_goal HX.out HW.out hg HRUN.out]
            obtain ⟨pe2, bf2, l2, h1, h2, h3, h4⟩ := HP4.out
            exact ⟨h1.below, b0, _, _, rfl, h3, by show stV (pe2 b0).st = _; rw [h2], by show (pe2 b0).cost = _; rw [h2], h4⟩
          have HPO := Lib.hid HPOST
          clear HPOST hg
          go_wp2
          go_ret3
          exact HPO.out
        | false =>
          have HGF := Lib.hid hg
          clear hg
          by_cases hbe : order.length = budget
          · have HPOST : SPost W0 out (.returned (.tuple #[.pointer none, .slice none 0 0, .int .i64 7])) w4 := by
              rw [Sr.run_budget HX.out HW.out HGF.out hbe HRUN.out]
              exact ⟨HP4.out.below, rfl⟩
            have HPO := Lib.hid HPOST
            have e1 : ((order.length : Int) == (budget : Int)) = true := by simp [hbe]
            have e2 : (order.length == budget) = true := by simp [hbe]
            clear HPOST hbe
            go_wp2
            go_ret3
            exact HPO.out
          · have HE := Lib.hid (Sr.run_expand HX.out HW.out HGF.out hbe HRUN.out)
            have e1 : ((order.length : Int) == (budget : Int)) = false := by rw [beq_eq_false_iff_ne]; omega
            have e2 : (order.length == budget) = false := by rw [beq_eq_false_iff_ne]; exact hbe
            have HBE : order.length < budget := by omega
            clear hbe
            obtain ⟨w5, hup, hset5, hg5⟩ := HP4.out.set.add (p.key x.st) (by rw [Sr.was_any]; exact HW.out)
            have HSET5 := Lib.hid hset5
            have HG5 := Lib.hid hg5
            have HM := Lib.hid (mark_c0 HP4.out hset5 hg5)
            have HORD : Hid (w5.ownsRow W0.heap.size 3 1 (.slice Ao order.length co) (order.map stV).length (order.map stV)) := by rw [List.length_map]; exact HM.out.2.1
            have hc5 := HM.out.1
            simp only [stV] at hc5
            clear hset5 hg5
            go_wp2_with (first | (at_builtin; go_loud (refine print_append (w0 := W0) (W := w5) W0.heap.size rfl (.tmp 66) (.tmp 71) 24 3 (.int .i64 0) 8 rfl Try.underlying24 info_st rfl (by decide) (.slice Ao order.length co) (order.map stV) (stV x.st) rfl rfl rfl HORD.out HM.out.2.2 HM.out.2.2.size (by rw [List.length_map]; omega) ?_); intro v1 w6 hrow6 hB6 hg6 _; have HP6 := Lib.hid (mark_append HP4.out HSET5.out HG5.out (by simpa using hrow6) hB6 hg6); clear hrow6 hB6 hg6) | fail)
            have hc6 := HP6.out.c0
            simp only [stV] at hc6
            have hmn := HP.out.mnext
            have hnn := HP.out.nnext
            clear hc5 hup
            have hp7 := HP6.out.step (Below.drew (Below.refl w6.heap.size w6))
            clear HM HSET5 HG5 HP4
            have HP7 := Lib.hid hp7
            clear hp7
            refine start_ (n := 11) (S := fun w' => w'.cell? ⟨b0, 0, none⟩ = some (Value.int .i64 x.st)) (ds := [8]) #[false, false, false, false, false, false, false, false, false, false, false] (by kernel_rfl) rfl rfl hc6 (fun hHeld => ?_)
            generalize w6.drew = w7 at HP7 hHeld ⊢
            refine pure_ (i := 0) (N := (some 73)) (v := ?_) (a' := ?_) #[true, false, false, false, false, false, false, false, false, false, false] rfl rfl (by kernel_rfl) (fun _ _ _ h => h) (Or.inl ⟨by rfl, ?_⟩) ?_ ?_
            rotate_left
            · intro w'
              go_simp
              with_reducible rfl
            rotate_left
            · simp only [Act.put, List.setIfInBounds_toArray, List.set_cons_zero, List.set_cons_succ]
              rfl
            refine pure_ (i := 1) (N := (some 74)) (v := ?_) (a' := ?_) #[true, true, false, false, false, false, false, false, false, false, false] rfl rfl (by kernel_rfl) (fun _ _ _ h => h) (Or.inl ⟨by rfl, ?_⟩) ?_ ?_
            rotate_left
            · intro w'
              go_simp
              with_reducible rfl
            rotate_left
            · simp only [Act.put, List.setIfInBounds_toArray, List.set_cons_zero, List.set_cons_succ]
              rfl
            refine pure_ (i := 2) (N := (some 75)) (v := ?_) (a' := ?_) #[true, true, true, false, false, false, false, false, false, false, false] rfl rfl (by kernel_rfl) (fun _ _ _ h => h) (Or.inl ⟨by rfl, ?_⟩) ?_ ?_
            rotate_left
            · intro w'
              go_simp
              with_reducible rfl
            rotate_left
            · simp only [Act.put, List.setIfInBounds_toArray, List.set_cons_zero, List.set_cons_succ]
              rfl
            refine pure_ (i := 3) (N := (some 76)) (v := ?_) (a' := ?_) #[true, true, true, true, false, false, false, false, false, false, false] rfl rfl (by kernel_rfl) (fun _ _ _ h => h) (Or.inl ⟨by rfl, ?_⟩) ?_ ?_
            rotate_left
            · intro w'
              go_simp
              with_reducible rfl
            rotate_left
            · simp only [Act.put, List.setIfInBounds_toArray, List.set_cons_zero, List.set_cons_succ]
              rfl
            refine take_ (i := 4) (N := (some 77)) (v := ?_) (a' := ?_) #[true, true, true, true, true, false, false, false, false, false, false] rfl rfl (by kernel_rfl) (fun _ _ _ h => h) (Or.inl ⟨by rfl, ?_⟩) hHeld ?_ ?_
            rotate_left
            · rintro w' s0
              go_simp
              with_reducible rfl
            rotate_left
            · simp only [Act.put, List.setIfInBounds_toArray, List.set_cons_zero, List.set_cons_succ]
              rfl
            refine pure_ (i := 5) (N := (some 78)) (v := ?_) (a' := ?_) #[true, true, true, true, true, true, false, false, false, false, false] rfl rfl (by kernel_rfl) (fun _ _ _ h => h) (Or.inl ⟨by rfl, ?_⟩) ?_ ?_
            rotate_left
            · intro w'
              go_simp
              with_reducible rfl
            rotate_left
            · simp only [Act.put, List.setIfInBounds_toArray, List.set_cons_zero, List.set_cons_succ]
              rfl
            refine pure_ (i := 6) (N := (some 79)) (v := ?_) (a' := ?_) #[true, true, true, true, true, true, true, false, false, false, false] rfl rfl (by kernel_rfl) (fun _ _ _ h => h) (Or.inl ⟨by rfl, ?_⟩) ?_ ?_
            rotate_left
            · intro w'
              go_simp
              with_reducible rfl
            rotate_left
            · simp only [Act.put, List.setIfInBounds_toArray, List.set_cons_zero, List.set_cons_succ]
              rfl
            refine pure_ (i := 7) (N := (some 80)) (v := ?_) (a' := ?_) #[true, true, true, true, true, true, true, true, false, false, false] rfl rfl (by kernel_rfl) (fun _ _ _ h => h) (Or.inl ⟨by rfl, ?_⟩) ?_ ?_
            rotate_left
            · intro w'
              go_simp
              with_reducible rfl
            rotate_left
            · simp only [Act.put, List.setIfInBounds_toArray, List.set_cons_zero, List.set_cons_succ]
              rfl
            refine pure_ (i := 10) (N := (some 83)) (v := ?_) (a' := ?_) #[true, true, true, true, true, true, true, true, false, false, true] rfl rfl (by kernel_rfl) (fun _ _ _ h => h) (Or.inl ⟨by rfl, ?_⟩) ?_ ?_
            rotate_left
            · intro w'
              go_simp
              with_reducible rfl
            rotate_left
            · simp only [Act.put, List.setIfInBounds_toArray, List.set_cons_zero, List.set_cons_succ]
              rfl
            refine last_ (i := 8) (N := (some 81)) #[true, true, true, true, true, true, true, true, true, false, true] rfl rfl (by kernel_rfl) (by decide) (fun K hK => ?_)
            go_simp
            refine (HP.out.next w7 x.st hokx HP7.out.below).mono ?_
            rintro e w8 ⟨vs, rfl, hvs, hb8⟩
            obtain ⟨As, cs, rfl, hlc, hCs⟩ := Kd.R_reads hvs
            refine hK.out _ _ ?_
            clear hK K
            (try simp only [Act.put, List.setIfInBounds_toArray, List.set_cons_zero, List.set_cons_succ])
            refine pure_ (i := 9) (N := (some 82)) (v := ?_) (a' := ?_) #[true, true, true, true, true, true, true, true, true, true, true] rfl rfl (by kernel_rfl) (fun _ _ _ h => h) (Or.inl ⟨by rfl, ?_⟩) ?_ ?_
            rotate_left
            · intro w'
              go_simp
              with_reducible rfl
            rotate_left
            · simp only [Act.put, List.setIfInBounds_toArray, List.set_cons_zero, List.set_cons_succ]
              rfl
            refine done_ (by kernel_rfl) ?_
            clear hc6 hHeld
            have HP8 := Lib.hid (HP7.out.step hb8)
            have HVS := Lib.hid hvs
            have hfew := HP.out.few x.st
            have HNS := Lib.hid (show ∀ y ∈ p.next x.st, ok y.1 from fun y hy => HP.out.oks x.st y hokx hy)
            clear hvs hb8 hCs HP7 hmn hnn HP6
            go_wp2_with fail
            have HI0 : Hid (IRel p W0 q M (order ++ [x.st]) v1 b0 x (p.next x.st) (L.eraseIdx (Sr.minIdx L) ++ Sr.pushes x (p.next x.st) added) (added + (Sr.pushes x (p.next x.st) added).length) w8 (.int .i64 (added : Int)) (.int .i64 0) w8) :=
              ⟨0, _, added, rfl, Nat.zero_le _, rfl, HP8.out, rfl, rfl, Chg.refl _ _⟩
            have HAF := pushes_len x (p.next x.st) added
            have HAF2 : added + (Sr.pushes x (p.next x.st) added).length ≤ 200000000 := by omega
            obtain ⟨Lf, hLf⟩ : ∃ Lf, L.eraseIdx (Sr.minIdx L) ++ Sr.pushes x (p.next x.st) added = Lf := ⟨_, rfl⟩
            obtain ⟨addf, haddf⟩ : ∃ addf, added + (Sr.pushes x (p.next x.st) added).length = addf := ⟨_, rfl⟩
            have HLOK : Hid (∀ e ∈ Lf, ok e.st ∧ 0 ≤ e.cost ∧ e.cost ≤ Sr.maxCount) := by
              rw [← hLf]
              intro e he
              rcases List.mem_append.1 he with he | he
              · exact HOK.out e ((List.eraseIdx_sublist ..).subset he)
              · exact pushes_ok x HCX.out _ _ HNS.out e he
            have HADD2 : addf ≤ 1 + 100 * (order ++ [x.st]).length := by rw [← haddf]; simp; omega
            rw [hLf, haddf] at HE HI0
            rw [haddf] at HAF2
            have HADDF := Lib.hid HADD2
            clear hLf haddf HAF HADD2 hadd
            go_loopw [14, 83] (fun va vj wr2 => IRel p W0 q M (order ++ [x.st]) v1 b0 x (p.next x.st) Lf addf w8 va vj wr2) (fun _ vj _ => (p.next x.st).length - (intOf vj).toNat)
            case atStart => exact HI0.out
            case round =>
              clear HI0
              obtain ⟨j, Lc, addc, rfl, hj, rfl, hpc, hLc, haddc, hchg⟩ := hrel
              have hac : addc ≤ 200000000 := by omega
              have HPC := Lib.hid hpc
              have HLC := Lib.hid hLc
              have HADC := Lib.hid haddc
              have HCHG := Lib.hid hchg
              clear hpc hLc haddc hchg
              by_cases hlt : j < (p.next x.st).length
              · obtain ⟨y, hy⟩ : ∃ y, (p.next x.st)[j]? = some y := ⟨_, List.getElem?_eq_getElem hlt⟩
                obtain ⟨t, c⟩ := y
                obtain ⟨u, hqa⟩ := HP8.out.qat
                obtain ⟨ad, eA, hx0, hx1⟩ := at_step (Kd.R_reads' (steps_keep HVS.out hqa HCHG.out)).2.2 j hlt _ hy
                subst eA
                have hc2 := HPC.out.c2
                have hb0l := HPC.out.lt
                have HY := Lib.hid hy
                have hj0 : 0 ≤ (j : Int) := by omega
                have hjl : (j : Int) < ((p.next x.st).length : Int) := by omega
                simp only [stV] at hx0
                have hc0x := HCX.out.1
                have hc1x : x.cost ≤ 1099511627776 := HCX.out.2
                clear hqa hy
                by_cases hneg : c < 0
                · have g1 : decide (c < 0) = true := decide_eq_true hneg
                  have HSK := Lib.hid (pushes_skip x (t, c) ((p.next x.st).drop (j + 1)) addc (.inl hneg))
                  go_wp2_with fail
                  go_quiet (fail)
                  go_wp2
                  go_roundw
                  case rel => exact IRel.skip HY.out HPC.out HLC.out HADC.out HCHG.out HSK.out (below_new _ _ _)
                  case measure => simp [intOf]; omega
                · have g1 : decide (c < 0) = false := decide_eq_false hneg
                  have g2 : 0 ≤ c := by omega
                  by_cases hbig : 1099511627776 - x.cost < c
                  · have g3 : decide (1099511627776 - x.cost < c) = true := decide_eq_true hbig
                    have HSK := Lib.hid (pushes_skip x (t, c) ((p.next x.st).drop (j + 1)) addc (.inr hbig))
                    go_wp2_with fail
                    go_quiet (fail)
                    go_wp2
                    go_roundw
                    case rel => exact IRel.skip HY.out HPC.out HLC.out HADC.out HCHG.out HSK.out (below_new _ _ _)
                    case measure => simp [intOf]; omega
                  · have g3 : decide (1099511627776 - x.cost < c) = false := decide_eq_false hbig
                    have HSK := Lib.hid (pushes_take x (t, c) ((p.next x.st).drop (j + 1)) addc (by rintro (h | h); exact hneg h; exact hbig h))
                    go_wp2_with fail
                    go_quiet (fail)
                    go_wp2_with fail
                    have hs := new_cells wr (Value.int .i64 t) (.int .i64 c) 102 nq
                    have HC29 := Lib.hid ((Below.cell (below_new wr (.cells #[Value.int .i64 t, .int .i64 c] 102) nq) (p := ⟨b0, 2, none⟩) hb0l).trans hc2)
                    have HBA := Lib.hid (below_new wr (.cells #[Value.int .i64 t, .int .i64 c] 102) nq).drew
                    have HPA := Lib.hid (HPC.out.step HBA.out)
                    have HHS := Lib.hid hs
                    clear hs hx0 hx1 hc2
                    have hac2 : addc < 900000000 := by omega
                    have hwr : IntKind.i64.wrap (x.cost + c) = x.cost + c := by rw [i64_w]; unfold wrap64; omega
                    generalize (World.alloc wr (.cells #[Value.int .i64 t, .int .i64 c] 102)).drewN nq = W9 at HHS HC29 HBA HPA ⊢
                    refine start_ (n := 17) (S := fun w' => w'.cell? ⟨wr.heap.size, 0, none⟩ = some (Value.int .i64 t) ∧ w'.cell? ⟨b0, 2, none⟩ = some (.int .i64 x.cost) ∧ w'.cell? ⟨wr.heap.size, 1, none⟩ = some (.int .i64 c)) (ds := [14, 16]) #[false, false, false, false, false, false, false, false, false, false, false, false, false, false, false, false, false] (by kernel_rfl) rfl rfl ⟨HHS.out.1, HC29.out, HHS.out.2⟩ (fun hHeld => ?_)
                    clear HHS HC29
                    generalize W9.drew = WA at HBA HPA hHeld ⊢
                    refine pure_ (i := 0) (N := (some 100)) (v := ?_) (a' := ?_) #[true, false, false, false, false, false, false, false, false, false, false, false, false, false, false, false, false] rfl rfl (by kernel_rfl) (fun _ _ _ h => h) (Or.inl ⟨by rfl, ?_⟩) ?_ ?_
                    rotate_left
                    · intro w'
                      go_simp
                      with_reducible rfl
                    rotate_left
                    · simp only [Act.put, List.setIfInBounds_toArray, List.set_cons_zero, List.set_cons_succ]
                      rfl
                    refine pure_ (i := 1) (N := (some 101)) (v := ?_) (a' := ?_) #[true, true, false, false, false, false, false, false, false, false, false, false, false, false, false, false, false] rfl rfl (by kernel_rfl) (fun _ _ _ h => h) (Or.inl ⟨by rfl, ?_⟩) ?_ ?_
                    rotate_left
                    · intro w'
                      go_simp
                      with_reducible rfl
                    rotate_left
                    · simp only [Act.put, List.setIfInBounds_toArray, List.set_cons_zero, List.set_cons_succ]
                      rfl
                    refine pure_ (i := 2) (N := (some 102)) (v := ?_) (a' := ?_) #[true, true, true, false, false, false, false, false, false, false, false, false, false, false, false, false, false] rfl rfl (by kernel_rfl) (fun _ _ _ h => h) (Or.inl ⟨by rfl, ?_⟩) ?_ ?_
                    rotate_left
                    · intro w'
                      go_simp
                      with_reducible rfl
                    rotate_left
                    · simp only [Act.put, List.setIfInBounds_toArray, List.set_cons_zero, List.set_cons_succ]
                      rfl
                    refine take_ (i := 3) (N := (some 103)) (v := ?_) (a' := ?_) #[true, true, true, true, false, false, false, false, false, false, false, false, false, false, false, false, false] rfl rfl (by kernel_rfl) (fun _ _ _ h => h) (Or.inl ⟨by rfl, ?_⟩) hHeld ?_ ?_
                    rotate_left
                    · rintro w' ⟨s0, s1, s2⟩
                      go_simp
                      with_reducible rfl
                    rotate_left
                    · simp only [Act.put, List.setIfInBounds_toArray, List.set_cons_zero, List.set_cons_succ]
                      rfl
                    refine pure_ (i := 4) (N := (some 104)) (v := ?_) (a' := ?_) #[true, true, true, true, true, false, false, false, false, false, false, false, false, false, false, false, false] rfl rfl (by kernel_rfl) (fun _ _ _ h => h) (Or.inl ⟨by rfl, ?_⟩) ?_ ?_
                    rotate_left
                    · intro w'
                      go_simp
                      with_reducible rfl
                    rotate_left
                    · simp only [Act.put, List.setIfInBounds_toArray, List.set_cons_zero, List.set_cons_succ]
                      rfl
                    refine pure_ (i := 5) (N := (some 105)) (v := ?_) (a' := ?_) #[true, true, true, true, true, true, false, false, false, false, false, false, false, false, false, false, false] rfl rfl (by kernel_rfl) (fun _ _ _ h => h) (Or.inl ⟨by rfl, ?_⟩) ?_ ?_
                    rotate_left
                    · intro w'
                      go_simp
                      with_reducible rfl
                    rotate_left
                    · simp only [Act.put, List.setIfInBounds_toArray, List.set_cons_zero, List.set_cons_succ]
                      rfl
                    refine pure_ (i := 6) (N := (some 106)) (v := ?_) (a' := ?_) #[true, true, true, true, true, true, true, false, false, false, false, false, false, false, false, false, false] rfl rfl (by kernel_rfl) (fun _ _ _ h => h) (Or.inl ⟨by rfl, ?_⟩) ?_ ?_
                    rotate_left
                    · intro w'
                      go_simp
                      with_reducible rfl
                    rotate_left
                    · simp only [Act.put, List.setIfInBounds_toArray, List.set_cons_zero, List.set_cons_succ]
                      rfl
                    refine pure_ (i := 7) (N := (some 107)) (v := ?_) (a' := ?_) #[true, true, true, true, true, true, true, true, false, false, false, false, false, false, false, false, false] rfl rfl (by kernel_rfl) (fun _ _ _ h => h) (Or.inl ⟨by rfl, ?_⟩) ?_ ?_
                    rotate_left
                    · intro w'
                      go_simp
                      with_reducible rfl
                    rotate_left
                    · simp only [Act.put, List.setIfInBounds_toArray, List.set_cons_zero, List.set_cons_succ]
                      rfl
                    refine take_ (i := 8) (N := (some 108)) (v := ?_) (a' := ?_) #[true, true, true, true, true, true, true, true, true, false, false, false, false, false, false, false, false] rfl rfl (by kernel_rfl) (fun _ _ _ h => h) (Or.inl ⟨by rfl, ?_⟩) hHeld ?_ ?_
                    rotate_left
                    · rintro w' ⟨s0, s1, s2⟩
                      go_simp
                      with_reducible rfl
                    rotate_left
                    · simp only [Act.put, List.setIfInBounds_toArray, List.set_cons_zero, List.set_cons_succ]
                      rfl
                    refine pure_ (i := 9) (N := (some 109)) (v := ?_) (a' := ?_) #[true, true, true, true, true, true, true, true, true, true, false, false, false, false, false, false, false] rfl rfl (by kernel_rfl) (fun _ _ _ h => h) (Or.inl ⟨by rfl, ?_⟩) ?_ ?_
                    rotate_left
                    · intro w'
                      go_simp
                      with_reducible rfl
                    rotate_left
                    · simp only [Act.put, List.setIfInBounds_toArray, List.set_cons_zero, List.set_cons_succ]
                      rfl
                    refine take_ (i := 10) (N := (some 110)) (v := ?_) (a' := ?_) #[true, true, true, true, true, true, true, true, true, true, true, false, false, false, false, false, false] rfl rfl (by kernel_rfl) (fun _ _ _ h => h) (Or.inl ⟨by rfl, ?_⟩) hHeld ?_ ?_
                    rotate_left
                    · rintro w' ⟨s0, s1, s2⟩
                      go_simp
                      with_reducible rfl
                    rotate_left
                    · simp only [Act.put, List.setIfInBounds_toArray, List.set_cons_zero, List.set_cons_succ]
                      rfl
                    refine pure_ (i := 11) (N := (some 111)) (v := ?_) (a' := ?_) #[true, true, true, true, true, true, true, true, true, true, true, true, false, false, false, false, false] rfl rfl (by kernel_rfl) (fun _ _ _ h => h) (Or.inl ⟨by rfl, ?_⟩) ?_ ?_
                    rotate_left
                    · intro w'
                      go_simp
                      with_reducible rfl
                    rotate_left
                    · simp only [Act.put, List.setIfInBounds_toArray, List.set_cons_zero, List.set_cons_succ]
                      rfl
                    refine pure_ (i := 12) (N := (some 112)) (v := ?_) (a' := ?_) #[true, true, true, true, true, true, true, true, true, true, true, true, true, false, false, false, false] rfl rfl (by kernel_rfl) (fun _ _ _ h => h) (Or.inl ⟨by rfl, ?_⟩) ?_ ?_
                    rotate_left
                    · intro w'
                      go_simp
                      with_reducible rfl
                    rotate_left
                    · simp only [Act.put, List.setIfInBounds_toArray, List.set_cons_zero, List.set_cons_succ]
                      rfl
                    refine pure_ (i := 13) (N := (some 113)) (v := ?_) (a' := ?_) #[true, true, true, true, true, true, true, true, true, true, true, true, true, true, false, false, false] rfl rfl (by kernel_rfl) (fun _ _ _ h => h) (Or.inl ⟨by rfl, ?_⟩) ?_ ?_
                    rotate_left
                    · intro w'
                      go_simp
                      with_reducible rfl
                    rotate_left
                    · simp only [Act.put, List.setIfInBounds_toArray, List.set_cons_zero, List.set_cons_succ]
                      rfl
                    refine last_ (i := 14) (N := (some 114)) #[true, true, true, true, true, true, true, true, true, true, true, true, true, true, true, false, false] rfl rfl (by kernel_rfl) (by decide) (fun K hK => ?_)
                    go_simp
                    refine hK.out _ _ ?_
                    clear hK K
                    (try simp only [Act.put, List.setIfInBounds_toArray, List.set_cons_zero, List.set_cons_succ])
                    refine pure_ (i := 15) (N := (some 115)) (v := ?_) (a' := ?_) #[true, true, true, true, true, true, true, true, true, true, true, true, true, true, true, true, false] rfl rfl (by kernel_rfl) (fun _ _ _ h => h) (Or.inl ⟨by rfl, ?_⟩) ?_ ?_
                    rotate_left
                    · intro w'
                      go_simp
                      with_reducible rfl
                    rotate_left
                    · simp only [Act.put, List.setIfInBounds_toArray, List.set_cons_zero, List.set_cons_succ]
                      rfl
                    refine last_ (i := 16) (N := (some 116)) #[true, true, true, true, true, true, true, true, true, true, true, true, true, true, true, true, true] rfl rfl (by kernel_rfl) (by decide) (fun K hK => ?_)
                    go_simp
                    refine (push_popped HPA.out t c hac2).mono ?_
                    rintro e w10 ⟨rfl, hpp, hcp⟩
                    have HPP := Lib.hid hpp
                    have HCP := Lib.hid hcp
                    clear hpp hcp
                    refine hK.out _ _ ?_
                    clear hK K
                    (try simp only [Act.put, List.setIfInBounds_toArray, List.set_cons_zero, List.set_cons_succ])
                    refine done_ (by kernel_rfl) ?_
                    clear hwr hHeld
                    go_wp2_with fail
                    go_roundw
                    case rel => exact IRel.take HY.out HLC.out HADC.out HCHG.out HSK.out HBA.out HPP.out HCP.out
                    case measure => simp [intOf]; omega
              · obtain rfl : j = (p.next x.st).length := by omega
                have hL := HLC.out
                have hA := HADC.out
                rw [List.drop_length] at hL hA
                simp only [Sr.pushes, List.append_nil, List.length_nil, Nat.add_zero] at hL hA
                have HL := Lib.hid hL
                have HA := Lib.hid hA
                clear hL hA
                go_wp2_with fail
                go_roundg k1
                case measure => omega
                case rel =>
                  obtain ⟨pe2, bf2, l2, h1, _⟩ := HPC.out
                  rw [HL.out, HA.out] at h1
                  exact ⟨order ++ [x.st], Lf, addf, l2, _, by rw [HA.out], rfl, ⟨pe2, bf2, h1⟩, HLOK.out, by simp; omega, HADDF.out, HE.out⟩
end Go.Proofs.Ytipdejalohmkpaa.I

/- Reachable and Distance. -/
namespace Go.Proofs.Ytipdejalohmkpaa.I
open Go.RowKit Hp Go.Proofs.YtipdejalohmkpaaW.PrintWords Go.Proofs.YtipdejalohmkpaaW.PrintLast
set_option linter.unusedVariables false

set_option maxHeartbeats 400000 in
theorem fsearch_bad (v0 v1 : Value) (pr : Value) (budget : Int) (w : World) (h : budget < 1 ∨ 1048576 < budget) :
    Calls Try.prog 26 #[.iface 62 pr, v1, .int .i64 budget] w fun e w' => e = .returned (.tuple #[.slice none 0 0, .int .i64 0, .int .i64 1]) ∧ w = w' := by
  go_enter Try.func26, Try.ntmps26
  go_wp2_with (go_at_call 35; refine (search_bad _ _ _ budget _ h).mono ?_; rintro e w' ⟨rfl, rfl⟩)
  go_ret3
  exact ⟨rfl, rfl⟩

theorem none_any (s : ST) (w : World) : Calls Try.prog 37 #[stV s] w fun e w' => e = .returned (.bool false) ∧ Below w.heap.size w w' := by
  go_enter Try.func37, Try.ntmps37
  go_wp2
  go_ret
  exact ⟨rfl, Below.refl _ _⟩

/-- What Reachable hands back. -/
def RcPost (W0 : World) (out : Sr.Out ST) (e : Ending) (w' : World) : Prop :=
  Below W0.heap.size W0 w' ∧ ∃ v : Value, match out with
  | .notFound order => e = .returned (.tuple #[v, .int .i64 0]) ∧ w'.ownsRow W0.heap.size 3 1 v order.length (order.map stV)
  | .budget _ => e = .returned (.tuple #[v, .int .i64 7]) ∧ v = .slice none 0 0
  | .found _ _ => False
theorem no_found (p : Sr.Prob ST) (budget : Nat) : ∀ (k : Nat) (L : List (Sr.Ent ST)) (order : List ST) (added : Nat) (x : Sr.Ent ST) (o : List ST), Sr.run p (fun _ => false) budget k L order added ≠ some (.found x o) := by
  intro k
  induction k with
  | zero => intro L order added x o h; simp [Sr.run] at h
  | succ k ih =>
    intro L order added x o h
    rw [Sr.run] at h
    split at h
    · cases h
    · split at h
      · exact ih _ _ _ _ _ h
      · rw [if_neg (by simp)] at h
        split at h
        · cases h
        · exact ih _ _ _ _ _ h
set_option maxHeartbeats 400000 in
theorem reach_any (p : Sr.Prob ST) (ok : ST → Prop) (pr : Value) (s0 : ST) (budget : Nat) (W0 : World) (hp : PrC p ok pr W0) (hb1 : 1 ≤ budget) (hb2 : budget ≤ 1048576) (hok : ok s0) (k : Nat) (out : Sr.Out ST)
    (hrun : Sr.run p (fun _ => false) budget k [⟨s0, [], 0, 0⟩] [] 1 = some out) :
    Calls Try.prog 30 #[.iface 62 pr, stV s0, .int .i64 (budget : Int)] W0 (RcPost W0 out) := by
  show Calls Try.prog 30 #[.iface 62 pr, .int .i64 s0, .int .i64 (budget : Int)] W0 _
  have HC := Lib.hid (search_N p ok (fun _ => false) pr ⟨0, 0, none⟩ ⟨0, 0, none⟩ s0 budget W0 hp hb1 hb2 hok (fun w s _ _ => none_any s w) k out hrun)
  have HNF := Lib.hid (fun x o (e : out = .found x o) => no_found p budget k [⟨s0, [], 0, 0⟩] [] 1 x o (by rw [hrun, e]))
  clear hp hrun
  cases out with
  | notFound order =>
    go_enter Try.func30, Try.ntmps30
    go_wp2_with (go_at_call 35; refine HC.out.mono ?_; rintro e w1 ⟨hb, vo, rfl, ho⟩; have HB := Lib.hid hb; have HO := Lib.hid ho; clear hb ho)
    go_ret2
    exact ⟨HB.out, _, rfl, HO.out⟩
  | budget order =>
    go_enter Try.func30, Try.ntmps30
    go_wp2_with (go_at_call 35; refine HC.out.mono ?_; rintro e w1 ⟨hb, rfl⟩; have HB := Lib.hid hb; clear hb)
    go_ret2
    exact ⟨HB.out, _, rfl, rfl⟩
  | found x order => exact absurd rfl (HNF.out x order)
set_option maxHeartbeats 400000 in
theorem reach_bad (v1 : Value) (pr : Value) (budget : Int) (w : World) (h : budget < 1 ∨ 1048576 < budget) :
    Calls Try.prog 30 #[.iface 62 pr, v1, .int .i64 budget] w fun e w' => e = .returned (.tuple #[.slice none 0 0, .int .i64 1]) ∧ w = w' := by
  go_enter Try.func30, Try.ntmps30
  go_wp2_with (go_at_call 35; refine (search_bad _ _ _ budget _ h).mono ?_; rintro e w' ⟨rfl, rfl⟩)
  go_ret2
  exact ⟨rfl, rfl⟩

theorem PrC.mono {p : Sr.Prob ST} {ok : ST → Prop} {pr : Value} {W0 W1 : World} (h : PrC p ok pr W0) (hb : Below W0.heap.size W0 W1) : PrC p ok pr W1 :=
  ⟨fun w s hs hw => h.key w s hs (hb.trans (hw.mono hb.size)), fun w s hs hw => h.next w s hs (hb.trans (hw.mono hb.size)), h.few, h.oks, h.mkey, h.mnext, h.nkey, h.nnext, h.mgoal⟩

set_option maxHeartbeats 1000000 in
theorem isgoal_any (p : Sr.Prob ST) (ok : ST → Prop) (pr : Value) (ga gb : Addr) (key : ByteArray) (s : ST) (w : World) (hok : ok s) (hp : PrC p ok pr w) (ha : w.cell? ga = some (.iface 62 pr)) (hk : w.cell? gb = some (.string key)) (hla : ga.block < w.heap.size) (hlb : gb.block < w.heap.size) :
    Calls Try.prog 38 #[stV s, .pointer (some ga), .pointer (some gb)] w fun e w' => e = .returned (.bool (p.key s == key)) ∧ Below w.heap.size w w' := by
  show Calls Try.prog 38 #[Value.int .i64 s, .pointer (some ga), .pointer (some gb)] w _
  have HP := Lib.hid hp
  have hmk := hp.mkey
  clear hp
  go_enter Try.func38, Try.ntmps38
  go_wp2
  have HX := Lib.hid (show Below w.heap.size w w.drew from Below.drew (Below.refl _ _))
  have HLA := Lib.hid (show ga.block < w.drew.heap.size from hla)
  have HLB := Lib.hid (show gb.block < w.drew.heap.size from hlb)
  refine start_ (n := 6) (S := fun w' => w'.cell? ga = some (.iface 62 pr) ∧ w'.cell? gb = some (.string key)) (ds := []) #[false, false, false, false, false, false] (by kernel_rfl) rfl rfl ⟨ha, hk⟩ (fun hHeld => ?_)
  clear ha hk
  generalize w.drew = w2 at HX HLA HLB hHeld ⊢
  refine take_ (i := 0) (N := (some 5)) (v := ?_) (a' := ?_) #[true, false, false, false, false, false] rfl rfl (by kernel_rfl) (fun _ _ _ h => h) (Or.inl ⟨by rfl, ?_⟩) hHeld ?_ ?_
  rotate_left
  · rintro w' ⟨s0, s1⟩
    go_simp
    with_reducible rfl
  rotate_left
  · simp only [Act.put, List.setIfInBounds_toArray, List.set_cons_zero, List.set_cons_succ]
    rfl
  refine pure_ (i := 1) (N := (some 6)) (v := ?_) (a' := ?_) #[true, true, false, false, false, false] rfl rfl (by kernel_rfl) (fun _ _ _ h => h) (Or.inl ⟨by rfl, ?_⟩) ?_ ?_
  rotate_left
  · intro w'
    go_simp
    with_reducible rfl
  rotate_left
  · simp only [Act.put, List.setIfInBounds_toArray, List.set_cons_zero, List.set_cons_succ]
    rfl
  refine take_ (i := 3) (N := (some 8)) (v := ?_) (a' := ?_) #[true, true, false, true, false, false] rfl rfl (by kernel_rfl) (fun _ _ _ h => h) (Or.inl ⟨by rfl, ?_⟩) hHeld ?_ ?_
  rotate_left
  · rintro w' ⟨s0, s1⟩
    go_simp
    with_reducible rfl
  rotate_left
  · simp only [Act.put, List.setIfInBounds_toArray, List.set_cons_zero, List.set_cons_succ]
    rfl
  refine one_ (i := 2) (N := (some 7)) #[true, true, true, true, false, false] rfl rfl (by kernel_rfl) (by decide) (fun K hK => ?_)
  go_simp
  refine (HP.out.key w2 s hok HX.out).mono ?_
  rintro e w3 ⟨rfl, hb3⟩
  have HB3 := Lib.hid hb3
  clear hb3
  refine hK.out _ _ ⟨(HB3.out.cell HLA.out).trans hHeld.1, (HB3.out.cell HLB.out).trans hHeld.2⟩ (fun hHeld => ?_)
  clear hK K
  (try simp only [Act.put, List.setIfInBounds_toArray, List.set_cons_zero, List.set_cons_succ])
  refine pure_ (i := 4) (N := (some 9)) (v := ?_) (a' := ?_) #[true, true, true, true, true, false] rfl rfl (by kernel_rfl) (fun _ _ _ h => h) (Or.inl ⟨by rfl, ?_⟩) ?_ ?_
  rotate_left
  · intro w'
    go_simp
    with_reducible rfl
  rotate_left
  · simp only [Act.put, List.setIfInBounds_toArray, List.set_cons_zero, List.set_cons_succ]
    rfl
  refine pure_ (i := 5) (N := (some 4)) (v := ?_) (a' := ?_) #[true, true, true, true, true, true] rfl rfl (by kernel_rfl) (fun _ _ _ h => h) (Or.inl ⟨by rfl, ?_⟩) ?_ ?_
  rotate_left
  · intro w'
    go_simp
    with_reducible rfl
  rotate_left
  · simp only [Act.put, List.setIfInBounds_toArray, List.set_cons_zero, List.set_cons_succ]
    rfl
  refine done_ (by kernel_rfl) ?_
  go_wp2
  go_ret
  exact ⟨by rw [beq_toListBytes]; rfl, HX.out.trans (HB3.out.mono HX.out.size)⟩

/-- What Distance hands back. -/
def DsPost (W0 : World) (out : Sr.Out ST) (e : Ending) (w' : World) : Prop :=
  Below W0.heap.size W0 w' ∧ match out with
  | .notFound _ => e = .returned (.tuple #[.int .i64 0, .int .i64 4])
  | .budget _ => e = .returned (.tuple #[.int .i64 0, .int .i64 7])
  | .found x _ => e = .returned (.tuple #[.int .i64 x.cost, .int .i64 0])
set_option maxHeartbeats 1000000 in
theorem dist_any (p : Sr.Prob ST) (ok : ST → Prop) (pr : Value) (s0 : ST) (key : ByteArray) (budget : Nat) (W0 : World) (hp : PrC p ok pr W0) (hb1 : 1 ≤ budget) (hb2 : budget ≤ 1048576) (hok : ok s0) (k : Nat) (out : Sr.Out ST)
    (hrun : Sr.run p (fun s => p.key s == key) budget k [⟨s0, [], 0, 0⟩] [] 1 = some out) :
    Calls Try.prog 31 #[.iface 62 pr, stV s0, .string key, .int .i64 (budget : Int)] W0 (DsPost W0 out) := by
  show Calls Try.prog 31 #[.iface 62 pr, .int .i64 s0, .string key, .int .i64 (budget : Int)] W0 _
  have HB1 := Lib.hid (((Below.refl W0.heap.size W0).alloc (Nat.le_refl _) (.cells #[.iface 62 pr] 76)).alloc (by simp) (.cells #[.string key] 9))
  have HCL := Lib.hid (show ((W0.alloc (.cells #[.iface 62 pr] 76)).alloc (.cells #[.string key] 9)).cell? ⟨W0.heap.size, 0, none⟩ = some (.iface 62 pr) ∧ ((W0.alloc (.cells #[.iface 62 pr] 76)).alloc (.cells #[.string key] 9)).cell? ⟨W0.heap.size + 1, 0, none⟩ = some (.string key) from ⟨by simp, by simp⟩)
  have HC := Lib.hid (search_K p ok (fun s => p.key s == key) pr ⟨W0.heap.size, 0, none⟩ ⟨W0.heap.size + 1, 0, none⟩ s0 budget ((W0.alloc (.cells #[.iface 62 pr] 76)).alloc (.cells #[.string key] 9)) (hp.mono HB1.out) hb1 hb2 hok (fun w s hs hw => isgoal_any p ok pr _ _ key s w hs ((hp.mono HB1.out).mono hw) ((hw.cell (by first | (simp; done) | (simp; omega))).trans HCL.out.1) ((hw.cell (by first | (simp; done) | (simp; omega))).trans HCL.out.2) (by have := hw.size; simp at this; simp; omega) (by have := hw.size; simp at this; simp; omega)) k out hrun)
  clear hp hrun
  cases out with
  | notFound order =>
    go_enter Try.func31, Try.ntmps31
    go_wp2_with (go_at_call 35; refine HC.out.mono ?_; rintro e w1 ⟨hb, vo, rfl, ho⟩; have HB := Lib.hid hb; clear hb ho)
    go_ret2
    exact ⟨HB1.out.trans (HB.out.mono (by simp; omega)), rfl⟩
  | budget order =>
    go_enter Try.func31, Try.ntmps31
    go_wp2_with (go_at_call 35; refine HC.out.mono ?_; rintro e w1 ⟨hb, rfl⟩; have HB := Lib.hid hb; clear hb)
    go_ret2
    exact ⟨HB1.out.trans (HB.out.mono (by simp; omega)), rfl⟩
  | found x order =>
    go_enter Try.func31, Try.ntmps31
    go_wp2_with (go_at_call 35; refine HC.out.mono ?_; rintro e w1 ⟨hb, b, vo, d, rfl, hent, hst, hcost, hpath⟩; have hc2 := hent.c2; rw [hcost] at hc2; have HB := Lib.hid hb; clear hb hent hst hcost hpath)
    go_ret2
    exact ⟨HB1.out.trans (HB.out.mono (by simp; omega)), rfl⟩
set_option maxHeartbeats 400000 in
theorem dist_bad (v1 : Value) (pr : Value) (key : ByteArray) (budget : Int) (w : World) (h : budget < 1 ∨ 1048576 < budget) :
    Calls Try.prog 31 #[.iface 62 pr, v1, .string key, .int .i64 budget] w fun e w' => e = .returned (.tuple #[.int .i64 0, .int .i64 1]) ∧ Below w.heap.size w w' := by
  go_enter Try.func31, Try.ntmps31
  go_wp2_with (go_at_call 35; refine (search_bad _ _ _ budget _ h).mono ?_; rintro e w' ⟨rfl, rfl⟩)
  go_ret2
  exact ⟨rfl, ((Below.refl _ _).alloc (Nat.le_refl _) _).alloc (by simp) _⟩
end Go.Proofs.Ytipdejalohmkpaa.I
