/- Part 4 of the proof of Order: ISeK, ILw, Lf, Bf, Op, Aw, Rd. -/
import Derived.Test.YtipdejalohmkpaaBOrder3
import Derived.Test.YtipdejalohmkpaaBOrder2
import Derived.Deep.RegionWith
import Derived.RegionCalls
import Derived.Test.YtipdejalohmkpaaBOrder1
import Derived.KernelRfl
import Derived.Test.YtipdejalohmkpaaWMore
import Derived.ChangeArms
import Derived.DataReads
import Derived.ChangeSame
import Derived.Deep.Strs
/- The search, walked, with one kind of goal function (K). -/
namespace Go.Proofs.Ytipdejalohmkpaa.I
open Go.RowKit Hp Go.Proofs.YtipdejalohmkpaaW.PrintWords Go.Proofs.YtipdejalohmkpaaW.PrintLast

set_option linter.unusedVariables false
set_option maxRecDepth 1000000 in
set_option maxHeartbeats 4000000 in
theorem search_K (p : Sr.Prob ST) (ok : ST → Prop) (goal : ST → Bool) (pr : Value) (ga gb : Addr) (s0 : ST) (budget : Nat) (W0 : World) (hp : PrC p ok pr W0) (hb1 : 1 ≤ budget) (hb2 : budget ≤ 1048576) (hok : ok s0) (hgoal : ∀ (w : World) (s : ST), ok s → Below W0.heap.size W0 w → Calls Try.prog 38 #[stV s, .pointer (some ga), .pointer (some gb)] w fun e w' => e = .returned (.bool (goal s)) ∧ Below w.heap.size w w') (k : Nat) (out : Sr.Out ST)
    (hrun : Sr.run p goal budget k [⟨s0, [], 0, 0⟩] [] 1 = some out) :
    Calls Try.prog 35 #[.iface 62 pr, stV s0, .int .i64 (budget : Int), .func (.func 38) #[] #[.pointer (some ga), .pointer (some gb)]] W0 (SPost W0 out) := by
  show Calls Try.prog 35 #[.iface 62 pr, .int .i64 s0, .int .i64 (budget : Int), .func (.func 38) #[] #[.pointer (some ga), .pointer (some gb)]] W0 _
  have HS := Lib.hid (start_rel p ok goal budget W0 s0 out k hok hrun)
  have HP := Lib.hid hp
  have HG := Lib.hid hgoal
  have hmg := hp.mgoal
  clear hrun hp hok hgoal
  have hmm := @run_makeMap Try.prog
  have d1 : decide ((budget : Int) < 1) = false := decide_eq_false (by omega)
  have d2 : decide (1048576 < (budget : Int)) = false := decide_eq_false (by omega)
  go_enter Try.func35, Try.ntmps35
  go_wp2
  generalize W0.heap.size + 1 + 1 + 1 = M at HS ⊢
  generalize W0.heap.size + 1 + 1 = q at HS ⊢
  go_loopg [13, 14] k (fun kq vo va wr => SRelV p ok goal budget W0 q M out kq vo va wr)
  case atStart => exact ⟨[], [⟨s0, [], 0, 0⟩], 1, [W0.heap.size], _, rfl, rfl, HS.out⟩
  case round =>
    clear HS
    obtain ⟨order, L, added, l, vo, rfl, rfl, hrel⟩ := hrel
    cases gk with
    | zero => exact absurd hrel.2.2.2.2 (by simp [Sr.run])
    | succ k1 =>
    obtain ⟨⟨pe, bf, hsi⟩, hoks, hob, hadd, hrun⟩ := hrel
    obtain ⟨v, hq, hr⟩ := hsi.heap.ex
    obtain ⟨A, c, rfl⟩ := own_slice hr
    obtain ⟨Ao, co, rfl⟩ := own_slice hsi.ord
    have hqc := hq.cell
    have hlen := hsi.len
    have hlen2 := hsi.rise.length
    have HSI := Lib.hid hsi
    have HRUN := Lib.hid hrun
    have HOK := Lib.hid hoks
    have hl9 : (l.length : Int) < 1000000000 := by omega
    have HLEN := Lib.hid hlen
    clear hsi hrun hoks hq hr hlen
    by_cases hl : l.length = 0
    · have HPOST : SPost W0 out (.returned (.tuple #[.pointer none, (.slice Ao order.length co), .int .i64 4])) wr := by
        have hL : L = [] := List.eq_nil_of_length_eq_zero (by rw [← HLEN.out]; exact hl)
        have h1 := HRUN.out
        subst hL
        simp only [Sr.run, List.getElem?_nil, Option.some.injEq] at h1
        subst h1
        exact ⟨HSI.out.below, _, rfl, HSI.out.ord⟩
      rw [hl] at hqc
      have HP2 := Lib.hid HPOST
      clear HPOST hl hl9
      go_wp2_with (first | (go_at_call 43; refine (len_any _ _ _ _).mono ?_; rintro e w' ⟨rfl, rfl⟩))
      go_ret3
      exact HP2.out
    · obtain ⟨n, hn⟩ : ∃ n, l.length = n + 1 := ⟨l.length - 1, by omega⟩
      obtain ⟨b0, x, hx, hpop⟩ := pop_popped HSI.out hn (by omega)
      have HX := Lib.hid hx
      have HPOP := Lib.hid hpop
      have hpos : 0 < l.length := by omega
      have hta := I_assert
      have HN := Lib.hid hn
      have hokx : ok x.st := (HOK.out x (List.mem_of_getElem? hx)).1
      have HCX := Lib.hid (HOK.out x (List.mem_of_getElem? hx)).2
      clear hx hpop hn hl
      go_wp2_with (first | (go_at_call 43; refine (len_any _ _ _ _).mono ?_; rintro e w' ⟨rfl, rfl⟩) | (go_at_call 40; refine HPOP.out.mono ?_; rintro e w1 ⟨rfl, hp1⟩))
      have hc0 := hp1.c0
      have hmk := HP.out.mkey
      have hnk := HP.out.nkey
      simp only [stV] at hc0
      have HP1 := Lib.hid hp1
      clear hp1 hta hqc
      go_still_tail 8, (by kernel_rfl)
      have hp2 := HP1.out.step (Below.drew (Below.refl w1.heap.size w1))
      change wpList _ _ _ _ _ w1.drew
      clear HP1 HPOP
      generalize w1.drew = w2 at hp2 ⊢
      have HP2 := Lib.hid hp2
      clear hp2 hc0
      go_wp2_with fail
      refine (HP.out.key w2 x.st hokx HP2.out.below).mono ?_
      rintro e w3 ⟨rfl, hb3⟩
      have HP3 := Lib.hid (HP2.out.step hb3)
      have hlk := HP3.out.set.lookup (p.key x.st)
      rw [Sr.was_any] at hlk
      clear hb3 HP2 hmk hnk
      cases hw : Sr.was p order x.st with
      | true =>
        rw [hw] at hlk
        have HR := Lib.hid (Sr.run_was HX.out hw HRUN.out)
        clear hw
        go_wp2
        go_roundg k1
        case measure => omega
        case rel =>
          obtain ⟨pe2, bf2, l2, h1, _⟩ := HP3.out
          exact ⟨order, L.eraseIdx (Sr.minIdx L), added, l2, _, rfl, rfl, ⟨pe2, bf2, h1⟩, fun e he => HOK.out e ((List.eraseIdx_sublist ..).subset he), hob, hadd, HR.out⟩
      | false =>
        rw [hw] at hlk
        have HW := Lib.hid hw
        clear hw
        have hc3 := HP3.out.c0
        simp only [stV] at hc3
        go_wp2_with fail
        refine (HG.out w3 x.st hokx HP3.out.below).mono ?_
        rintro e w4 ⟨rfl, hb4⟩
        have HP4 := Lib.hid (HP3.out.step hb4)
        clear hb4 hc3 hlk HP3
        cases hg : goal x.st with
        | true =>
          have HPOST : SPost W0 out (.returned (.tuple #[.pointer (some ⟨b0, 0, none⟩), .slice Ao order.length co, .int .i64 0])) w4 := by
            rw [Sr.run_goal HX.out HW.out hg HRUN.out]
            obtain ⟨pe2, bf2, l2, h1, h2, h3, h4⟩ := HP4.out
            exact ⟨h1.below, b0, _, _, rfl, h3, by show stV (pe2 b0).st = _; rw [h2], by show (pe2 b0).cost = _; rw [h2], h4⟩
          have HPO := Lib.hid HPOST
          clear HPOST hg
          go_wp2
          go_ret3
          exact HPO.out
        | false =>
          have HGF := Lib.hid hg
          clear hg
          by_cases hbe : order.length = budget
          · have HPOST : SPost W0 out (.returned (.tuple #[.pointer none, .slice none 0 0, .int .i64 7])) w4 := by
              rw [Sr.run_budget HX.out HW.out HGF.out hbe HRUN.out]
              exact ⟨HP4.out.below, rfl⟩
            have HPO := Lib.hid HPOST
            have e1 : ((order.length : Int) == (budget : Int)) = true := by simp [hbe]
            have e2 : (order.length == budget) = true := by simp [hbe]
            clear HPOST hbe
            go_wp2
            go_ret3
            exact HPO.out
          · have HE := Lib.hid (Sr.run_expand HX.out HW.out HGF.out hbe HRUN.out)
            have e1 : ((order.length : Int) == (budget : Int)) = false := by rw [beq_eq_false_iff_ne]; omega
            have e2 : (order.length == budget) = false := by rw [beq_eq_false_iff_ne]; exact hbe
            have HBE : order.length < budget := by omega
            clear hbe
            obtain ⟨w5, hup, hset5, hg5⟩ := HP4.out.set.add (p.key x.st) (by rw [Sr.was_any]; exact HW.out)
            have HSET5 := Lib.hid hset5
            have HG5 := Lib.hid hg5
            have HM := Lib.hid (mark_c0 HP4.out hset5 hg5)
            have HORD : Hid (w5.ownsRow W0.heap.size 3 1 (.slice Ao order.length co) (order.map stV).length (order.map stV)) := by rw [List.length_map]; exact HM.out.2.1
            have hc5 := HM.out.1
            simp only [stV] at hc5
            clear hset5 hg5
            go_wp2_with (first | (at_builtin; go_loud (refine print_append (w0 := W0) (W := w5) W0.heap.size rfl (.tmp 66) (.tmp 71) 24 3 (.int .i64 0) 8 rfl Try.underlying24 info_st rfl (by decide) (.slice Ao order.length co) (order.map stV) (stV x.st) rfl rfl rfl HORD.out HM.out.2.2 HM.out.2.2.size (by rw [List.length_map]; omega) ?_); intro v1 w6 hrow6 hB6 hg6 _; have HP6 := Lib.hid (mark_append HP4.out HSET5.out HG5.out (by simpa using hrow6) hB6 hg6); clear hrow6 hB6 hg6) | fail)
            have hc6 := HP6.out.c0
            simp only [stV] at hc6
            have hmn := HP.out.mnext
            have hnn := HP.out.nnext
            clear hc5 hup
            have hp7 := HP6.out.step (Below.drew (Below.refl w6.heap.size w6))
            clear HM HSET5 HG5 HP4
            have HP7 := Lib.hid hp7
            clear hp7
            refine start_ (n := 11) (S := fun w' => w'.cell? ⟨b0, 0, none⟩ = some (Value.int .i64 x.st)) (ds := [8]) #[false, false, false, false, false, false, false, false, false, false, false] (by kernel_rfl) rfl rfl hc6 (fun hHeld => ?_)
            generalize w6.drew = w7 at HP7 hHeld ⊢
            refine pure_ (i := 0) (N := (some 73)) (v := ?_) (a' := ?_) #[true, false, false, false, false, false, false, false, false, false, false] rfl rfl (by kernel_rfl) (fun _ _ _ h => h) (Or.inl ⟨by rfl, ?_⟩) ?_ ?_
            rotate_left
            · intro w'
              go_simp
              with_reducible rfl
            rotate_left
            · simp only [Act.put, List.setIfInBounds_toArray, List.set_cons_zero, List.set_cons_succ]
              rfl
            refine pure_ (i := 1) (N := (some 74)) (v := ?_) (a' := ?_) #[true, true, false, false, false, false, false, false, false, false, false] rfl rfl (by kernel_rfl) (fun _ _ _ h => h) (Or.inl ⟨by rfl, ?_⟩) ?_ ?_
            rotate_left
            · intro w'
              go_simp
              with_reducible rfl
            rotate_left
            · simp only [Act.put, List.setIfInBounds_toArray, List.set_cons_zero, List.set_cons_succ]
              rfl
            refine pure_ (i := 2) (N := (some 75)) (v := ?_) (a' := ?_) #[true, true, true, false, false, false, false, false, false, false, false] rfl rfl (by kernel_rfl) (fun _ _ _ h => h) (Or.inl ⟨by rfl, ?_⟩) ?_ ?_
            rotate_left
            · intro w'
              go_simp
              with_reducible rfl
            rotate_left
            · simp only [Act.put, List.setIfInBounds_toArray, List.set_cons_zero, List.set_cons_succ]
              rfl
            refine pure_ (i := 3) (N := (some 76)) (v := ?_) (a' := ?_) #[true, true, true, true, false, false, false, false, false, false, false] rfl rfl (by kernel_rfl) (fun _ _ _ h => h) (Or.inl ⟨by rfl, ?_⟩) ?_ ?_
            rotate_left
            · intro w'
              go_simp
              with_reducible rfl
            rotate_left
            · simp only [Act.put, List.setIfInBounds_toArray, List.set_cons_zero, List.set_cons_succ]
              rfl
            refine take_ (i := 4) (N := (some 77)) (v := ?_) (a' := ?_) #[true, true, true, true, true, false, false, false, false, false, false] rfl rfl (by kernel_rfl) (fun _ _ _ h => h) (Or.inl ⟨by rfl, ?_⟩) hHeld ?_ ?_
            rotate_left
            · rintro w' s0
              go_simp
              with_reducible rfl
            rotate_left
            · simp only [Act.put, List.setIfInBounds_toArray, List.set_cons_zero, List.set_cons_succ]
              rfl
            refine pure_ (i := 5) (N := (some 78)) (v := ?_) (a' := ?_) #[true, true, true, true, true, true, false, false, false, false, false] rfl rfl (by kernel_rfl) (fun _ _ _ h => h) (Or.inl ⟨by rfl, ?_⟩) ?_ ?_
            rotate_left
            · intro w'
              go_simp
              with_reducible rfl
            rotate_left
            · simp only [Act.put, List.setIfInBounds_toArray, List.set_cons_zero, List.set_cons_succ]
              rfl
            refine pure_ (i := 6) (N := (some 79)) (v := ?_) (a' := ?_) #[true, true, true, true, true, true, true, false, false, false, false] rfl rfl (by kernel_rfl) (fun _ _ _ h => h) (Or.inl ⟨by rfl, ?_⟩) ?_ ?_
            rotate_left
            · intro w'
              go_simp
              with_reducible rfl
            rotate_left
            · simp only [Act.put, List.setIfInBounds_toArray, List.set_cons_zero, List.set_cons_succ]
              rfl
            refine pure_ (i := 7) (N := (some 80)) (v := ?_) (a' := ?_) #[true, true, true, true, true, true, true, true, false, false, false] rfl rfl (by kernel_rfl) (fun _ _ _ h => h) (Or.inl ⟨by rfl, ?_⟩) ?_ ?_
            rotate_left
            · intro w'
              go_simp
              with_reducible rfl
            rotate_left
            · simp only [Act.put, List.setIfInBounds_toArray, List.set_cons_zero, List.set_cons_succ]
              rfl
            refine pure_ (i := 10) (N := (some 83)) (v := ?_) (a' := ?_) #[true, true, true, true, true, true, true, true, false, false, true] rfl rfl (by kernel_rfl) (fun _ _ _ h => h) (Or.inl ⟨by rfl, ?_⟩) ?_ ?_
            rotate_left
            · intro w'
              go_simp
              with_reducible rfl
            rotate_left
            · simp only [Act.put, List.setIfInBounds_toArray, List.set_cons_zero, List.set_cons_succ]
              rfl
            refine last_ (i := 8) (N := (some 81)) #[true, true, true, true, true, true, true, true, true, false, true] rfl rfl (by kernel_rfl) (by decide) (fun K hK => ?_)
            go_simp
            refine (HP.out.next w7 x.st hokx HP7.out.below).mono ?_
            rintro e w8 ⟨vs, rfl, hvs, hb8⟩
            obtain ⟨As, cs, rfl, hlc, hCs⟩ := Kd.R_reads hvs
            refine hK.out _ _ ?_
            clear hK K
            (try simp only [Act.put, List.setIfInBounds_toArray, List.set_cons_zero, List.set_cons_succ])
            refine pure_ (i := 9) (N := (some 82)) (v := ?_) (a' := ?_) #[true, true, true, true, true, true, true, true, true, true, true] rfl rfl (by kernel_rfl) (fun _ _ _ h => h) (Or.inl ⟨by rfl, ?_⟩) ?_ ?_
            rotate_left
            · intro w'
              go_simp
              with_reducible rfl
            rotate_left
            · simp only [Act.put, List.setIfInBounds_toArray, List.set_cons_zero, List.set_cons_succ]
              rfl
            refine done_ (by kernel_rfl) ?_
            clear hc6 hHeld
            have HP8 := Lib.hid (HP7.out.step hb8)
            have HVS := Lib.hid hvs
            have hfew := HP.out.few x.st
            have HNS := Lib.hid (show ∀ y ∈ p.next x.st, ok y.1 from fun y hy => HP.out.oks x.st y hokx hy)
            clear hvs hb8 hCs HP7 hmn hnn HP6
            go_wp2_with fail
            have HI0 : Hid (IRel p W0 q M (order ++ [x.st]) v1 b0 x (p.next x.st) (L.eraseIdx (Sr.minIdx L) ++ Sr.pushes x (p.next x.st) added) (added + (Sr.pushes x (p.next x.st) added).length) w8 (.int .i64 (added : Int)) (.int .i64 0) w8) :=
              ⟨0, _, added, rfl, Nat.zero_le _, rfl, HP8.out, rfl, rfl, Chg.refl _ _⟩
            have HAF := pushes_len x (p.next x.st) added
            have HAF2 : added + (Sr.pushes x (p.next x.st) added).length ≤ 200000000 := by omega
            obtain ⟨Lf, hLf⟩ : ∃ Lf, L.eraseIdx (Sr.minIdx L) ++ Sr.pushes x (p.next x.st) added = Lf := ⟨_, rfl⟩
            obtain ⟨addf, haddf⟩ : ∃ addf, added + (Sr.pushes x (p.next x.st) added).length = addf := ⟨_, rfl⟩
            have HLOK : Hid (∀ e ∈ Lf, ok e.st ∧ 0 ≤ e.cost ∧ e.cost ≤ Sr.maxCount) := by
              rw [← hLf]
              intro e he
              rcases List.mem_append.1 he with he | he
              · exact HOK.out e ((List.eraseIdx_sublist ..).subset he)
              · exact pushes_ok x HCX.out _ _ HNS.out e he
            have HADD2 : addf ≤ 1 + 100 * (order ++ [x.st]).length := by rw [← haddf]; simp; omega
            rw [hLf, haddf] at HE HI0
            rw [haddf] at HAF2
            have HADDF := Lib.hid HADD2
            clear hLf haddf HAF HADD2 hadd
            go_loopw [14, 83] (fun va vj wr2 => IRel p W0 q M (order ++ [x.st]) v1 b0 x (p.next x.st) Lf addf w8 va vj wr2) (fun _ vj _ => (p.next x.st).length - (intOf vj).toNat)
            case atStart => exact HI0.out
            case round =>
              clear HI0
              obtain ⟨j, Lc, addc, rfl, hj, rfl, hpc, hLc, haddc, hchg⟩ := hrel
              have hac : addc ≤ 200000000 := by omega
              have HPC := Lib.hid hpc
              have HLC := Lib.hid hLc
              have HADC := Lib.hid haddc
              have HCHG := Lib.hid hchg
              clear hpc hLc haddc hchg
              by_cases hlt : j < (p.next x.st).length
              · obtain ⟨y, hy⟩ : ∃ y, (p.next x.st)[j]? = some y := ⟨_, List.getElem?_eq_getElem hlt⟩
                obtain ⟨t, c⟩ := y
                obtain ⟨u, hqa⟩ := HP8.out.qat
                obtain ⟨ad, eA, hx0, hx1⟩ := at_step (Kd.R_reads' (steps_keep HVS.out hqa HCHG.out)).2.2 j hlt _ hy
                subst eA
                have hc2 := HPC.out.c2
                have hb0l := HPC.out.lt
                have HY := Lib.hid hy
                have hj0 : 0 ≤ (j : Int) := by omega
                have hjl : (j : Int) < ((p.next x.st).length : Int) := by omega
                simp only [stV] at hx0
                have hc0x := HCX.out.1
                have hc1x : x.cost ≤ 1099511627776 := HCX.out.2
                clear hqa hy
                by_cases hneg : c < 0
                · have g1 : decide (c < 0) = true := decide_eq_true hneg
                  have HSK := Lib.hid (pushes_skip x (t, c) ((p.next x.st).drop (j + 1)) addc (.inl hneg))
                  go_wp2_with fail
                  go_quiet (fail)
                  go_wp2
                  go_roundw
                  case rel => exact IRel.skip HY.out HPC.out HLC.out HADC.out HCHG.out HSK.out (below_new _ _ _)
                  case measure => simp [intOf]; omega
                · have g1 : decide (c < 0) = false := decide_eq_false hneg
                  have g2 : 0 ≤ c := by omega
                  by_cases hbig : 1099511627776 - x.cost < c
                  · have g3 : decide (1099511627776 - x.cost < c) = true := decide_eq_true hbig
                    have HSK := Lib.hid (pushes_skip x (t, c) ((p.next x.st).drop (j + 1)) addc (.inr hbig))
                    go_wp2_with fail
                    go_quiet (fail)
                    go_wp2
                    go_roundw
                    case rel => exact IRel.skip HY.out HPC.out HLC.out HADC.out HCHG.out HSK.out (below_new _ _ _)
                    case measure => simp [intOf]; omega
                  · have g3 : decide (1099511627776 - x.cost < c) = false := decide_eq_false hbig
                    have HSK := Lib.hid (pushes_take x (t, c) ((p.next x.st).drop (j + 1)) addc (by rintro (h | h); exact hneg h; exact hbig h))
                    go_wp2_with fail
                    go_quiet (fail)
                    go_wp2_with fail
                    have hs := new_cells wr (Value.int .i64 t) (.int .i64 c) 102 nq
                    have HC29 := Lib.hid ((Below.cell (below_new wr (.cells #[Value.int .i64 t, .int .i64 c] 102) nq) (p := ⟨b0, 2, none⟩) hb0l).trans hc2)
                    have HBA := Lib.hid (below_new wr (.cells #[Value.int .i64 t, .int .i64 c] 102) nq).drew
                    have HPA := Lib.hid (HPC.out.step HBA.out)
                    have HHS := Lib.hid hs
                    clear hs hx0 hx1 hc2
                    have hac2 : addc < 900000000 := by omega
                    have hwr : IntKind.i64.wrap (x.cost + c) = x.cost + c := by rw [i64_w]; unfold wrap64; omega
                    generalize (World.alloc wr (.cells #[Value.int .i64 t, .int .i64 c] 102)).drewN nq = W9 at HHS HC29 HBA HPA ⊢
                    refine start_ (n := 17) (S := fun w' => w'.cell? ⟨wr.heap.size, 0, none⟩ = some (Value.int .i64 t) ∧ w'.cell? ⟨b0, 2, none⟩ = some (.int .i64 x.cost) ∧ w'.cell? ⟨wr.heap.size, 1, none⟩ = some (.int .i64 c)) (ds := [14, 16]) #[false, false, false, false, false, false, false, false, false, false, false, false, false, false, false, false, false] (by kernel_rfl) rfl rfl ⟨HHS.out.1, HC29.out, HHS.out.2⟩ (fun hHeld => ?_)
                    clear HHS HC29
                    generalize W9.drew = WA at HBA HPA hHeld ⊢
                    refine pure_ (i := 0) (N := (some 100)) (v := ?_) (a' := ?_) #[true, false, false, false, false, false, false, false, false, false, false, false, false, false, false, false, false] rfl rfl (by kernel_rfl) (fun _ _ _ h => h) (Or.inl ⟨by rfl, ?_⟩) ?_ ?_
                    rotate_left
                    · intro w'
                      go_simp
                      with_reducible rfl
                    rotate_left
                    · simp only [Act.put, List.setIfInBounds_toArray, List.set_cons_zero, List.set_cons_succ]
                      rfl
                    refine pure_ (i := 1) (N := (some 101)) (v := ?_) (a' := ?_) #[true, true, false, false, false, false, false, false, false, false, false, false, false, false, false, false, false] rfl rfl (by kernel_rfl) (fun _ _ _ h => h) (Or.inl ⟨by rfl, ?_⟩) ?_ ?_
                    rotate_left
                    · intro w'
                      go_simp
                      with_reducible rfl
                    rotate_left
                    · simp only [Act.put, List.setIfInBounds_toArray, List.set_cons_zero, List.set_cons_succ]
                      rfl
                    refine pure_ (i := 2) (N := (some 102)) (v := ?_) (a' := ?_) #[true, true, true, false, false, false, false, false, false, false, false, false, false, false, false, false, false] rfl rfl (by kernel_rfl) (fun _ _ _ h => h) (Or.inl ⟨by rfl, ?_⟩) ?_ ?_
                    rotate_left
                    · intro w'
                      go_simp
                      with_reducible rfl
                    rotate_left
                    · simp only [Act.put, List.setIfInBounds_toArray, List.set_cons_zero, List.set_cons_succ]
                      rfl
                    refine take_ (i := 3) (N := (some 103)) (v := ?_) (a' := ?_) #[true, true, true, true, false, false, false, false, false, false, false, false, false, false, false, false, false] rfl rfl (by kernel_rfl) (fun _ _ _ h => h) (Or.inl ⟨by rfl, ?_⟩) hHeld ?_ ?_
                    rotate_left
                    · rintro w' ⟨s0, s1, s2⟩
                      go_simp
                      with_reducible rfl
                    rotate_left
                    · simp only [Act.put, List.setIfInBounds_toArray, List.set_cons_zero, List.set_cons_succ]
                      rfl
                    refine pure_ (i := 4) (N := (some 104)) (v := ?_) (a' := ?_) #[true, true, true, true, true, false, false, false, false, false, false, false, false, false, false, false, false] rfl rfl (by kernel_rfl) (fun _ _ _ h => h) (Or.inl ⟨by rfl, ?_⟩) ?_ ?_
                    rotate_left
                    · intro w'
                      go_simp
                      with_reducible rfl
                    rotate_left
                    · simp only [Act.put, List.setIfInBounds_toArray, List.set_cons_zero, List.set_cons_succ]
                      rfl
                    refine pure_ (i := 5) (N := (some 105)) (v := ?_) (a' := ?_) #[true, true, true, true, true, true, false, false, false, false, false, false, false, false, false, false, false] rfl rfl (by kernel_rfl) (fun _ _ _ h => h) (Or.inl ⟨by rfl, ?_⟩) ?_ ?_
                    rotate_left
                    · intro w'
                      go_simp
                      with_reducible rfl
                    rotate_left
                    · simp only [Act.put, List.setIfInBounds_toArray, List.set_cons_zero, List.set_cons_succ]
                      rfl
                    refine pure_ (i := 6) (N := (some 106)) (v := ?_) (a' := ?_) #[true, true, true, true, true, true, true, false, false, false, false, false, false, false, false, false, false] rfl rfl (by kernel_rfl) (fun _ _ _ h => h) (Or.inl ⟨by rfl, ?_⟩) ?_ ?_
                    rotate_left
                    · intro w'
                      go_simp
                      with_reducible rfl
                    rotate_left
                    · simp only [Act.put, List.setIfInBounds_toArray, List.set_cons_zero, List.set_cons_succ]
                      rfl
                    refine pure_ (i := 7) (N := (some 107)) (v := ?_) (a' := ?_) #[true, true, true, true, true, true, true, true, false, false, false, false, false, false, false, false, false] rfl rfl (by kernel_rfl) (fun _ _ _ h => h) (Or.inl ⟨by rfl, ?_⟩) ?_ ?_
                    rotate_left
                    · intro w'
                      go_simp
                      with_reducible rfl
                    rotate_left
                    · simp only [Act.put, List.setIfInBounds_toArray, List.set_cons_zero, List.set_cons_succ]
                      rfl
                    refine take_ (i := 8) (N := (some 108)) (v := ?_) (a' := ?_) #[true, true, true, true, true, true, true, true, true, false, false, false, false, false, false, false, false] rfl rfl (by kernel_rfl) (fun _ _ _ h => h) (Or.inl ⟨by rfl, ?_⟩) hHeld ?_ ?_
                    rotate_left
                    · rintro w' ⟨s0, s1, s2⟩
                      go_simp
                      with_reducible rfl
                    rotate_left
                    · simp only [Act.put, List.setIfInBounds_toArray, List.set_cons_zero, List.set_cons_succ]
                      rfl
                    refine pure_ (i := 9) (N := (some 109)) (v := ?_) (a' := ?_) #[true, true, true, true, true, true, true, true, true, true, false, false, false, false, false, false, false] rfl rfl (by kernel_rfl) (fun _ _ _ h => h) (Or.inl ⟨by rfl, ?_⟩) ?_ ?_
                    rotate_left
                    · intro w'
                      go_simp
                      with_reducible rfl
                    rotate_left
                    · simp only [Act.put, List.setIfInBounds_toArray, List.set_cons_zero, List.set_cons_succ]
                      rfl
                    refine take_ (i := 10) (N := (some 110)) (v := ?_) (a' := ?_) #[true, true, true, true, true, true, true, true, true, true, true, false, false, false, false, false, false] rfl rfl (by kernel_rfl) (fun _ _ _ h => h) (Or.inl ⟨by rfl, ?_⟩) hHeld ?_ ?_
                    rotate_left
                    · rintro w' ⟨s0, s1, s2⟩
                      go_simp
                      with_reducible rfl
                    rotate_left
                    · simp only [Act.put, List.setIfInBounds_toArray, List.set_cons_zero, List.set_cons_succ]
                      rfl
                    refine pure_ (i := 11) (N := (some 111)) (v := ?_) (a' := ?_) #[true, true, true, true, true, true, true, true, true, true, true, true, false, false, false, false, false] rfl rfl (by kernel_rfl) (fun _ _ _ h => h) (Or.inl ⟨by rfl, ?_⟩) ?_ ?_
                    rotate_left
                    · intro w'
                      go_simp
                      with_reducible rfl
                    rotate_left
                    · simp only [Act.put, List.setIfInBounds_toArray, List.set_cons_zero, List.set_cons_succ]
                      rfl
                    refine pure_ (i := 12) (N := (some 112)) (v := ?_) (a' := ?_) #[true, true, true, true, true, true, true, true, true, true, true, true, true, false, false, false, false] rfl rfl (by kernel_rfl) (fun _ _ _ h => h) (Or.inl ⟨by rfl, ?_⟩) ?_ ?_
                    rotate_left
                    · intro w'
                      go_simp
                      with_reducible rfl
                    rotate_left
                    · simp only [Act.put, List.setIfInBounds_toArray, List.set_cons_zero, List.set_cons_succ]
                      rfl
                    refine pure_ (i := 13) (N := (some 113)) (v := ?_) (a' := ?_) #[true, true, true, true, true, true, true, true, true, true, true, true, true, true, false, false, false] rfl rfl (by kernel_rfl) (fun _ _ _ h => h) (Or.inl ⟨by rfl, ?_⟩) ?_ ?_
                    rotate_left
                    · intro w'
                      go_simp
                      with_reducible rfl
                    rotate_left
                    · simp only [Act.put, List.setIfInBounds_toArray, List.set_cons_zero, List.set_cons_succ]
                      rfl
                    refine last_ (i := 14) (N := (some 114)) #[true, true, true, true, true, true, true, true, true, true, true, true, true, true, true, false, false] rfl rfl (by kernel_rfl) (by decide) (fun K hK => ?_)
                    go_simp
                    refine hK.out _ _ ?_
                    clear hK K
                    (try simp only [Act.put, List.setIfInBounds_toArray, List.set_cons_zero, List.set_cons_succ])
                    refine pure_ (i := 15) (N := (some 115)) (v := ?_) (a' := ?_) #[true, true, true, true, true, true, true, true, true, true, true, true, true, true, true, true, false] rfl rfl (by kernel_rfl) (fun _ _ _ h => h) (Or.inl ⟨by rfl, ?_⟩) ?_ ?_
                    rotate_left
                    · intro w'
                      go_simp
                      with_reducible rfl
                    rotate_left
                    · simp only [Act.put, List.setIfInBounds_toArray, List.set_cons_zero, List.set_cons_succ]
                      rfl
                    refine last_ (i := 16) (N := (some 116)) #[true, true, true, true, true, true, true, true, true, true, true, true, true, true, true, true, true] rfl rfl (by kernel_rfl) (by decide) (fun K hK => ?_)
                    go_simp
                    refine (push_popped HPA.out t c hac2).mono ?_
                    rintro e w10 ⟨rfl, hpp, hcp⟩
                    have HPP := Lib.hid hpp
                    have HCP := Lib.hid hcp
                    clear hpp hcp
                    refine hK.out _ _ ?_
                    clear hK K
                    (try simp only [Act.put, List.setIfInBounds_toArray, List.set_cons_zero, List.set_cons_succ])
                    refine done_ (by kernel_rfl) ?_
                    clear hwr hHeld
                    go_wp2_with fail
                    go_roundw
                    case rel => exact IRel.take HY.out HLC.out HADC.out HCHG.out HSK.out HBA.out HPP.out HCP.out
                    case measure => simp [intOf]; omega
              · obtain rfl : j = (p.next x.st).length := by omega
                have hL := HLC.out
                have hA := HADC.out
                rw [List.drop_length] at hL hA
                simp only [Sr.pushes, List.append_nil, List.length_nil, Nat.add_zero] at hL hA
                have HL := Lib.hid hL
                have HA := Lib.hid hA
                clear hL hA
                go_wp2_with fail
                go_roundg k1
                case measure => omega
                case rel =>
                  obtain ⟨pe2, bf2, l2, h1, _⟩ := HPC.out
                  rw [HL.out, HA.out] at h1
                  exact ⟨order ++ [x.st], Lf, addf, l2, _, by rw [HA.out], rfl, ⟨pe2, bf2, h1⟩, HLOK.out, by simp; omega, HADDF.out, HE.out⟩
end Go.Proofs.Ytipdejalohmkpaa.I

/- Reachable and Distance. -/
namespace Go.Proofs.Ytipdejalohmkpaa.I
open Go.RowKit Hp Go.Proofs.YtipdejalohmkpaaW.PrintWords Go.Proofs.YtipdejalohmkpaaW.PrintLast
set_option linter.unusedVariables false

set_option maxHeartbeats 400000 in
theorem fsearch_bad (v0 v1 : Value) (pr : Value) (budget : Int) (w : World) (h : budget < 1 ∨ 1048576 < budget) :
    Calls Try.prog 26 #[.iface 62 pr, v1, .int .i64 budget] w fun e w' => e = .returned (.tuple #[.slice none 0 0, .int .i64 0, .int .i64 1]) ∧ w = w' := by
  go_enter Try.func26, Try.ntmps26
  go_wp2_with (go_at_call 35; refine (search_bad _ _ _ budget _ h).mono ?_; rintro e w' ⟨rfl, rfl⟩)
  go_ret3
  exact ⟨rfl, rfl⟩

theorem none_any (s : ST) (w : World) : Calls Try.prog 37 #[stV s] w fun e w' => e = .returned (.bool false) ∧ Below w.heap.size w w' := by
  go_enter Try.func37, Try.ntmps37
  go_wp2
  go_ret
  exact ⟨rfl, Below.refl _ _⟩

/-- What Reachable hands back. -/
def RcPost (W0 : World) (out : Sr.Out ST) (e : Ending) (w' : World) : Prop :=
  Below W0.heap.size W0 w' ∧ ∃ v : Value, match out with
  | .notFound order => e = .returned (.tuple #[v, .int .i64 0]) ∧ w'.ownsRow W0.heap.size 3 1 v order.length (order.map stV)
  | .budget _ => e = .returned (.tuple #[v, .int .i64 7]) ∧ v = .slice none 0 0
  | .found _ _ => False
theorem no_found (p : Sr.Prob ST) (budget : Nat) : ∀ (k : Nat) (L : List (Sr.Ent ST)) (order : List ST) (added : Nat) (x : Sr.Ent ST) (o : List ST), Sr.run p (fun _ => false) budget k L order added ≠ some (.found x o) := by
  intro k
  induction k with
  | zero => intro L order added x o h; simp [Sr.run] at h
  | succ k ih =>
    intro L order added x o h
    rw [Sr.run] at h
    split at h
    · cases h
    · split at h
      · exact ih _ _ _ _ _ h
      · rw [if_neg (by simp)] at h
        split at h
        · cases h
        · exact ih _ _ _ _ _ h
set_option maxHeartbeats 400000 in
theorem reach_any (p : Sr.Prob ST) (ok : ST → Prop) (pr : Value) (s0 : ST) (budget : Nat) (W0 : World) (hp : PrC p ok pr W0) (hb1 : 1 ≤ budget) (hb2 : budget ≤ 1048576) (hok : ok s0) (k : Nat) (out : Sr.Out ST)
    (hrun : Sr.run p (fun _ => false) budget k [⟨s0, [], 0, 0⟩] [] 1 = some out) :
    Calls Try.prog 30 #[.iface 62 pr, stV s0, .int .i64 (budget : Int)] W0 (RcPost W0 out) := by
  show Calls Try.prog 30 #[.iface 62 pr, .int .i64 s0, .int .i64 (budget : Int)] W0 _
  have HC := Lib.hid (search_N p ok (fun _ => false) pr ⟨0, 0, none⟩ ⟨0, 0, none⟩ s0 budget W0 hp hb1 hb2 hok (fun w s _ _ => none_any s w) k out hrun)
  have HNF := Lib.hid (fun x o (e : out = .found x o) => no_found p budget k [⟨s0, [], 0, 0⟩] [] 1 x o (by rw [hrun, e]))
  clear hp hrun
  cases out with
  | notFound order =>
    go_enter Try.func30, Try.ntmps30
    go_wp2_with (go_at_call 35; refine HC.out.mono ?_; rintro e w1 ⟨hb, vo, rfl, ho⟩; have HB := Lib.hid hb; have HO := Lib.hid ho; clear hb ho)
    go_ret2
    exact ⟨HB.out, _, rfl, HO.out⟩
  | budget order =>
    go_enter Try.func30, Try.ntmps30
    go_wp2_with (go_at_call 35; refine HC.out.mono ?_; rintro e w1 ⟨hb, rfl⟩; have HB := Lib.hid hb; clear hb)
    go_ret2
    exact ⟨HB.out, _, rfl, rfl⟩
  | found x order => exact absurd rfl (HNF.out x order)
set_option maxHeartbeats 400000 in
theorem reach_bad (v1 : Value) (pr : Value) (budget : Int) (w : World) (h : budget < 1 ∨ 1048576 < budget) :
    Calls Try.prog 30 #[.iface 62 pr, v1, .int .i64 budget] w fun e w' => e = .returned (.tuple #[.slice none 0 0, .int .i64 1]) ∧ w = w' := by
  go_enter Try.func30, Try.ntmps30
  go_wp2_with (go_at_call 35; refine (search_bad _ _ _ budget _ h).mono ?_; rintro e w' ⟨rfl, rfl⟩)
  go_ret2
  exact ⟨rfl, rfl⟩

theorem PrC.mono {p : Sr.Prob ST} {ok : ST → Prop} {pr : Value} {W0 W1 : World} (h : PrC p ok pr W0) (hb : Below W0.heap.size W0 W1) : PrC p ok pr W1 :=
  ⟨fun w s hs hw => h.key w s hs (hb.trans (hw.mono hb.size)), fun w s hs hw => h.next w s hs (hb.trans (hw.mono hb.size)), h.few, h.oks, h.mkey, h.mnext, h.nkey, h.nnext, h.mgoal⟩

set_option maxHeartbeats 1000000 in
theorem isgoal_any (p : Sr.Prob ST) (ok : ST → Prop) (pr : Value) (ga gb : Addr) (key : ByteArray) (s : ST) (w : World) (hok : ok s) (hp : PrC p ok pr w) (ha : w.cell? ga = some (.iface 62 pr)) (hk : w.cell? gb = some (.string key)) (hla : ga.block < w.heap.size) (hlb : gb.block < w.heap.size) :
    Calls Try.prog 38 #[stV s, .pointer (some ga), .pointer (some gb)] w fun e w' => e = .returned (.bool (p.key s == key)) ∧ Below w.heap.size w w' := by
  show Calls Try.prog 38 #[Value.int .i64 s, .pointer (some ga), .pointer (some gb)] w _
  have HP := Lib.hid hp
  have hmk := hp.mkey
  clear hp
  go_enter Try.func38, Try.ntmps38
  go_wp2
  have HX := Lib.hid (show Below w.heap.size w w.drew from Below.drew (Below.refl _ _))
  have HLA := Lib.hid (show ga.block < w.drew.heap.size from hla)
  have HLB := Lib.hid (show gb.block < w.drew.heap.size from hlb)
  refine start_ (n := 6) (S := fun w' => w'.cell? ga = some (.iface 62 pr) ∧ w'.cell? gb = some (.string key)) (ds := []) #[false, false, false, false, false, false] (by kernel_rfl) rfl rfl ⟨ha, hk⟩ (fun hHeld => ?_)
  clear ha hk
  generalize w.drew = w2 at HX HLA HLB hHeld ⊢
  refine take_ (i := 0) (N := (some 5)) (v := ?_) (a' := ?_) #[true, false, false, false, false, false] rfl rfl (by kernel_rfl) (fun _ _ _ h => h) (Or.inl ⟨by rfl, ?_⟩) hHeld ?_ ?_
  rotate_left
  · rintro w' ⟨s0, s1⟩
    go_simp
    with_reducible rfl
  rotate_left
  · simp only [Act.put, List.setIfInBounds_toArray, List.set_cons_zero, List.set_cons_succ]
    rfl
  refine pure_ (i := 1) (N := (some 6)) (v := ?_) (a' := ?_) #[true, true, false, false, false, false] rfl rfl (by kernel_rfl) (fun _ _ _ h => h) (Or.inl ⟨by rfl, ?_⟩) ?_ ?_
  rotate_left
  · intro w'
    go_simp
    with_reducible rfl
  rotate_left
  · simp only [Act.put, List.setIfInBounds_toArray, List.set_cons_zero, List.set_cons_succ]
    rfl
  refine take_ (i := 3) (N := (some 8)) (v := ?_) (a' := ?_) #[true, true, false, true, false, false] rfl rfl (by kernel_rfl) (fun _ _ _ h => h) (Or.inl ⟨by rfl, ?_⟩) hHeld ?_ ?_
  rotate_left
  · rintro w' ⟨s0, s1⟩
    go_simp
    with_reducible rfl
  rotate_left
  · simp only [Act.put, List.setIfInBounds_toArray, List.set_cons_zero, List.set_cons_succ]
    rfl
  refine one_ (i := 2) (N := (some 7)) #[true, true, true, true, false, false] rfl rfl (by kernel_rfl) (by decide) (fun K hK => ?_)
  go_simp
  refine (HP.out.key w2 s hok HX.out).mono ?_
  rintro e w3 ⟨rfl, hb3⟩
  have HB3 := Lib.hid hb3
  clear hb3
  refine hK.out _ _ ⟨(HB3.out.cell HLA.out).trans hHeld.1, (HB3.out.cell HLB.out).trans hHeld.2⟩ (fun hHeld => ?_)
  clear hK K
  (try simp only [Act.put, List.setIfInBounds_toArray, List.set_cons_zero, List.set_cons_succ])
  refine pure_ (i := 4) (N := (some 9)) (v := ?_) (a' := ?_) #[true, true, true, true, true, false] rfl rfl (by kernel_rfl) (fun _ _ _ h => h) (Or.inl ⟨by rfl, ?_⟩) ?_ ?_
  rotate_left
  · intro w'
    go_simp
    with_reducible rfl
  rotate_left
  · simp only [Act.put, List.setIfInBounds_toArray, List.set_cons_zero, List.set_cons_succ]
    rfl
  refine pure_ (i := 5) (N := (some 4)) (v := ?_) (a' := ?_) #[true, true, true, true, true, true] rfl rfl (by kernel_rfl) (fun _ _ _ h => h) (Or.inl ⟨by rfl, ?_⟩) ?_ ?_
  rotate_left
  · intro w'
    go_simp
    with_reducible rfl
  rotate_left
  · simp only [Act.put, List.setIfInBounds_toArray, List.set_cons_zero, List.set_cons_succ]
    rfl
  refine done_ (by kernel_rfl) ?_
  go_wp2
  go_ret
  exact ⟨by rw [beq_toListBytes]; rfl, HX.out.trans (HB3.out.mono HX.out.size)⟩

/-- What Distance hands back. -/
def DsPost (W0 : World) (out : Sr.Out ST) (e : Ending) (w' : World) : Prop :=
  Below W0.heap.size W0 w' ∧ match out with
  | .notFound _ => e = .returned (.tuple #[.int .i64 0, .int .i64 4])
  | .budget _ => e = .returned (.tuple #[.int .i64 0, .int .i64 7])
  | .found x _ => e = .returned (.tuple #[.int .i64 x.cost, .int .i64 0])
set_option maxHeartbeats 1000000 in
theorem dist_any (p : Sr.Prob ST) (ok : ST → Prop) (pr : Value) (s0 : ST) (key : ByteArray) (budget : Nat) (W0 : World) (hp : PrC p ok pr W0) (hb1 : 1 ≤ budget) (hb2 : budget ≤ 1048576) (hok : ok s0) (k : Nat) (out : Sr.Out ST)
    (hrun : Sr.run p (fun s => p.key s == key) budget k [⟨s0, [], 0, 0⟩] [] 1 = some out) :
    Calls Try.prog 31 #[.iface 62 pr, stV s0, .string key, .int .i64 (budget : Int)] W0 (DsPost W0 out) := by
  show Calls Try.prog 31 #[.iface 62 pr, .int .i64 s0, .string key, .int .i64 (budget : Int)] W0 _
  have HB1 := Lib.hid (((Below.refl W0.heap.size W0).alloc (Nat.le_refl _) (.cells #[.iface 62 pr] 76)).alloc (by simp) (.cells #[.string key] 9))
  have HCL := Lib.hid (show ((W0.alloc (.cells #[.iface 62 pr] 76)).alloc (.cells #[.string key] 9)).cell? ⟨W0.heap.size, 0, none⟩ = some (.iface 62 pr) ∧ ((W0.alloc (.cells #[.iface 62 pr] 76)).alloc (.cells #[.string key] 9)).cell? ⟨W0.heap.size + 1, 0, none⟩ = some (.string key) from ⟨by simp, by simp⟩)
  have HC := Lib.hid (search_K p ok (fun s => p.key s == key) pr ⟨W0.heap.size, 0, none⟩ ⟨W0.heap.size + 1, 0, none⟩ s0 budget ((W0.alloc (.cells #[.iface 62 pr] 76)).alloc (.cells #[.string key] 9)) (hp.mono HB1.out) hb1 hb2 hok (fun w s hs hw => isgoal_any p ok pr _ _ key s w hs ((hp.mono HB1.out).mono hw) ((hw.cell (by first | (simp; done) | (simp; omega))).trans HCL.out.1) ((hw.cell (by first | (simp; done) | (simp; omega))).trans HCL.out.2) (by have := hw.size; simp at this; simp; omega) (by have := hw.size; simp at this; simp; omega)) k out hrun)
  clear hp hrun
  cases out with
  | notFound order =>
    go_enter Try.func31, Try.ntmps31
    go_wp2_with (go_at_call 35; refine HC.out.mono ?_; rintro e w1 ⟨hb, vo, rfl, ho⟩; have HB := Lib.hid hb; clear hb ho)
    go_ret2
    exact ⟨HB1.out.trans (HB.out.mono (by simp; omega)), rfl⟩
  | budget order =>
    go_enter Try.func31, Try.ntmps31
    go_wp2_with (go_at_call 35; refine HC.out.mono ?_; rintro e w1 ⟨hb, rfl⟩; have HB := Lib.hid hb; clear hb)
    go_ret2
    exact ⟨HB1.out.trans (HB.out.mono (by simp; omega)), rfl⟩
  | found x order =>
    go_enter Try.func31, Try.ntmps31
    go_wp2_with (go_at_call 35; refine HC.out.mono ?_; rintro e w1 ⟨hb, b, vo, d, rfl, hent, hst, hcost, hpath⟩; have hc2 := hent.c2; rw [hcost] at hc2; have HB := Lib.hid hb; clear hb hent hst hcost hpath)
    go_ret2
    exact ⟨HB1.out.trans (HB.out.mono (by simp; omega)), rfl⟩
set_option maxHeartbeats 400000 in
theorem dist_bad (v1 : Value) (pr : Value) (key : ByteArray) (budget : Int) (w : World) (h : budget < 1 ∨ 1048576 < budget) :
    Calls Try.prog 31 #[.iface 62 pr, v1, .string key, .int .i64 budget] w fun e w' => e = .returned (.tuple #[.int .i64 0, .int .i64 1]) ∧ Below w.heap.size w w' := by
  go_enter Try.func31, Try.ntmps31
  go_wp2_with (go_at_call 35; refine (search_bad _ _ _ budget _ h).mono ?_; rintro e w' ⟨rfl, rfl⟩)
  go_ret2
  exact ⟨rfl, ((Below.refl _ _).alloc (Nat.le_refl _) _).alloc (by simp) _⟩
end Go.Proofs.Ytipdejalohmkpaa.I

/- The law's own callers of the search over a graph. -/
namespace Go.Proofs.Ytipdejalohmkpaa.Gr
open Go.RowKit Go.Proofs.YtipdejalohmkpaaW.PrintWords Go.Proofs.YtipdejalohmkpaaW.PrintLast Go.Proofs.YtipdejalohmkpaaW.PrintMore PBestfirstDistances

def Gph.prob (g : Gph) : Sr.Prob Int := ⟨g.key, fun s => steps (g.next s)⟩
def Gph.dom (g : Gph) : List Int := (List.range g.E.length).map Int.ofNat
theorem mem_dom {g : Gph} {s : Int} : s ∈ g.dom ↔ g.has s = true := by
  unfold Gph.dom Gph.has
  simp only [List.mem_map, List.mem_range, Bool.and_eq_true, decide_eq_true_eq]
  constructor
  · rintro ⟨n, hn, rfl⟩
    simp only [Int.ofNat_eq_natCast]
    omega
  · intro h; exact ⟨s.toNat, by omega, by simp only [Int.ofNat_eq_natCast]; omega⟩
theorem has_iff {g : Gph} {s : Int} : g.has s = true ↔ 0 ≤ s ∧ s < (g.E.length : Int) := by simp [Gph.has]
theorem start_dom {g : Gph} {s : Int} (hs : g.has s = true) : ∀ e ∈ [(⟨s, [], 0, 0⟩ : Sr.Ent Int)], e.st ∈ g.dom := by
  intro e he
  obtain rfl : e = ⟨s, [], 0, 0⟩ := by simpa using he
  exact mem_dom.2 hs
theorem next_has {g : Gph} {s : Int} {x : S51} (h : x ∈ g.next s) : g.has x.f0 = true := by
  unfold Gph.next at h
  split at h
  · exact (List.mem_filter.1 h).2
  · simp at h
theorem dom_closed (g : Gph) : ∀ s ∈ g.dom, ∀ y ∈ g.prob.next s, y.1 ∈ g.dom := by
  intro s _ y hy
  obtain ⟨x, hx, rfl⟩ := List.mem_map.1 hy
  exact mem_dom.2 (next_has hx)
theorem few8 (g : Gph) (hl : g.large = false) (s : Int) : (g.prob.next s).length ≤ 8 := by
  have := next_len g hl s
  simpa [Gph.prob, steps] using this
theorem dom_len (g : Gph) (hl : g.large = false) : g.dom.length ≤ 12 := by
  simp only [Gph.large, Bool.or_eq_false_iff, decide_eq_false_iff_not] at hl
  have := hl.1.1.1.1
  simp [Gph.dom]; omega
def Gph.out (g : Gph) (goal : Int → Bool) (budget : Nat) (s : Int) : Sr.Out Int := (Sr.run g.prob goal budget 200 [⟨s, [], 0, 0⟩] [] 1).getD (.notFound [])
theorem out_run (g : Gph) (hl : g.large = false) (goal : Int → Bool) (budget : Nat) (s : Int) (hs : g.has s = true) : Sr.run g.prob goal budget 200 [⟨s, [], 0, 0⟩] [] 1 = some (g.out goal budget s) := by
  obtain ⟨o, ho⟩ := Sr.run_ends g.prob goal budget g.dom (dom_closed g) (few8 g hl) 200 [⟨s, [], 0, 0⟩] [] 1 (by have := dom_len g hl; simp; omega) (start_dom hs) (by simp) List.Pairwise.nil
  unfold Gph.out
  rw [ho]; rfl
/-- Search's, Reachable's and Distance's answers: the path (the states), the cost, the error. -/
def sres (g : Gph) (s budget : Int) : List Int × Int × Int := if budget < 1 ∨ 1048576 < budget then ([], 0, 1) else match g.out g.goal budget.toNat s with
  | .notFound _ => ([], 0, 4)
  | .budget _ => ([], 0, 7)
  | .found x _ => (x.rp.reverse, x.cost, 0)
def rres (g : Gph) (s budget : Int) : List Int × Int := if budget < 1 ∨ 1048576 < budget then ([], 1) else match g.out (fun _ => false) budget.toNat s with
  | .notFound o => (o, 0)
  | .budget _ => ([], 7)
  | .found _ _ => ([], 0)
def dres (g : Gph) (s : Int) (key : ByteArray) (budget : Int) : Int × Int := if budget < 1 ∨ 1048576 < budget then (0, 1) else match g.out (fun t => g.key t == key) budget.toNat s with
  | .notFound _ => (0, 4)
  | .budget _ => (0, 7)
  | .found x _ => (x.cost, 0)

section
variable {g : Gph} {w : World} {A0 A1 A2 : Option Addr} {c0 c1 c2 : Nat}
abbrev agg3 (g : Gph) (A0 : Option Addr) (c0 : Nat) (A1 : Option Addr) (c1 : Nat) (A2 : Option Addr) (c2 : Nat) : Value := .agg #[.slice A0 g.E.length c0, .slice A1 g.K.length c1, .slice A2 g.Gs.length c2]
theorem prc (h : GAt g w A0 c0 A1 c1 A2 c2) (hl : g.large = false) : I.PrC g.prob (fun s => g.has s = true) (agg3 g A0 c0 A1 c1 A2 c2) w where
  key w' s hs hb := pkey_any (h.below hb) s (by
    have h1 := has_iff.1 (show g.has s = true from hs)
    simp only [Gph.large, Bool.or_eq_false_iff, decide_eq_false_iff_not] at hl
    have := hl.1.1.1.1
    omega)
  next w' s _ hb := pnext_any (h.below hb) hl s
  few s := Nat.le_trans (few8 g hl s) (by omega)
  oks s x _ hx := by
    obtain ⟨y, hy, rfl⟩ := List.mem_map.1 hx
    exact next_has hy
  mkey w' := by kernel_rfl
  mnext w' := by kernel_rfl
  nkey w' := by kernel_rfl
  nnext w' := by kernel_rfl
  mgoal w' := by kernel_rfl

set_option maxHeartbeats 1000000 in
theorem lsearch_any (h : GAt g w A0 c0 A1 c1 A2 c2) (hl : g.large = false) (s : Int) (hs : g.has s = true) (budget : Int) :
    Calls Try.prog 14 #[.agg #[.slice A0 g.E.length c0, .slice A1 g.K.length c1, .slice A2 g.Gs.length c2], .int .i64 s, .int .i64 budget] w fun e w' =>
      ∃ v : Value, e = .returned (.tuple #[v, .int .i64 (sres g s budget).2.1, .int .i64 (sres g s budget).2.2]) ∧ (Kd.int .i64).R 3 w' w.heap.size (fun _ => True) v (sres g s budget).1 ∧ Below w.heap.size w w' := by
  have HA := Lib.hid (show Below w.heap.size w (w.alloc (.cells #[.slice A0 g.E.length c0, .slice A1 g.K.length c1, .slice A2 g.Gs.length c2] 26)) from (Below.refl _ _).alloc (Nat.le_refl _) _)
  by_cases hb : budget < 1 ∨ 1048576 < budget
  · have HR : Hid (sres g s budget = ([], 0, 1)) := by show sres g s budget = _; unfold sres; rw [if_pos hb]
    clear h
    go_enter Try.func14, Try.ntmps14
    go_wp2_with (go_at_call 26; refine (I.fsearch_bad (.iface 62 .nilIface) _ _ budget _ hb).mono ?_; rintro e w' ⟨rfl, rfl⟩)
    go_ret3
    exact ⟨_, by rw [HR.out]; rfl, by rw [HR.out]; exact Kd.R_nil _ _ _ _ _, HA.out⟩
  · have HP := Lib.hid (prc (h.below HA.out) hl)
    have hrun := out_run g hl g.goal budget.toNat s hs
    have HC := Lib.hid (I.fsearch_any g.prob (fun s => g.has s = true) g.goal (agg3 g A0 c0 A1 c1 A2 c2) s budget.toNat _ HP.out (by omega) (by omega) hs (fun w' t _ hw => pgoal_any ((h.below HA.out).below hw) t) 200 _ hrun (fun x o e => by
      have := Sr.run_len g.prob g.goal budget.toNat 200 [⟨s, [], 0, 0⟩] [] 1 x o (by simp) (by simp) (by rw [hrun, e])
      omega))
    have eb : ((budget.toNat : Nat) : Int) = budget := by omega
    rw [eb] at HC
    clear h HP hrun eb
    have HRES : Hid (sres g s budget = match g.out g.goal budget.toNat s with | .notFound _ => ([], 0, 4) | .budget _ => ([], 0, 7) | .found x _ => (x.rp.reverse, x.cost, 0)) := by show sres g s budget = _; unfold sres; rw [if_neg hb]
    clear hb
    generalize g.out g.goal budget.toNat s = out at HC HRES
    cases out with
    | notFound o =>
      go_enter Try.func14, Try.ntmps14
      go_wp2_with (go_at_call 26; refine HC.out.mono ?_; rintro e w' ⟨hb, v, rfl, rfl⟩; have HB := Lib.hid hb; clear hb)
      go_ret3
      exact ⟨_, by rw [HRES.out]; rfl, by rw [HRES.out]; exact Kd.R_nil _ _ _ _ _, HA.out.trans (HB.out.mono HA.out.size)⟩
    | budget o =>
      go_enter Try.func14, Try.ntmps14
      go_wp2_with (go_at_call 26; refine HC.out.mono ?_; rintro e w' ⟨hb, v, rfl, rfl⟩; have HB := Lib.hid hb; clear hb)
      go_ret3
      exact ⟨_, by rw [HRES.out]; rfl, by rw [HRES.out]; exact Kd.R_nil _ _ _ _ _, HA.out.trans (HB.out.mono HA.out.size)⟩
    | found x o =>
      go_enter Try.func14, Try.ntmps14
      go_wp2_with (go_at_call 26; refine HC.out.mono ?_; rintro e w' ⟨hb, v, rfl, hv⟩; have HB := Lib.hid hb; have HV := Lib.hid hv; clear hb hv)
      go_ret3
      exact ⟨_, by rw [HRES.out]; rfl, by rw [HRES.out]; exact Kd.R_lower HV.out HA.out.size, HA.out.trans (HB.out.mono HA.out.size)⟩
theorem lsearch_is (h : GAt g w A0 c0 A1 c1 A2 c2) (hl : g.large = false) (s : Int) (hs : g.has s = true) (budget : Int) (l : List Int) (c e : Int) (hr : sres g s budget = (l, c, e)) :
    Calls Try.prog 14 #[.agg #[.slice A0 g.E.length c0, .slice A1 g.K.length c1, .slice A2 g.Gs.length c2], .int .i64 s, .int .i64 budget] w fun en w' =>
      ∃ v : Value, en = .returned (.tuple #[v, .int .i64 c, .int .i64 e]) ∧ (Kd.int .i64).R 3 w' w.heap.size (fun _ => True) v l ∧ Below w.heap.size w w' := by
  have := lsearch_any h hl s hs budget
  rw [hr] at this
  exact this

set_option maxHeartbeats 1000000 in
theorem lreach_is (h : GAt g w A0 c0 A1 c1 A2 c2) (hl : g.large = false) (s : Int) (hs : g.has s = true) (budget : Int) (l : List Int) (c : Int) (hr : rres g s budget = (l, c)) :
    Calls Try.prog 17 #[.agg #[.slice A0 g.E.length c0, .slice A1 g.K.length c1, .slice A2 g.Gs.length c2], .int .i64 s, .int .i64 budget] w fun en w' =>
      ∃ v : Value, en = .returned (.tuple #[v, .int .i64 c]) ∧ (Kd.int .i64).R 3 w' w.heap.size (fun _ => True) v l ∧ Below w.heap.size w w' := by
  have HA := Lib.hid (show Below w.heap.size w (w.alloc (.cells #[.slice A0 g.E.length c0, .slice A1 g.K.length c1, .slice A2 g.Gs.length c2] 26)) from (Below.refl _ _).alloc (Nat.le_refl _) _)
  by_cases hb : budget < 1 ∨ 1048576 < budget
  · unfold rres at hr
    rw [if_pos hb] at hr
    cases hr
    clear h
    go_enter Try.func17, Try.ntmps17
    go_wp2_with (go_at_call 30; refine (I.reach_bad _ _ budget _ hb).mono ?_; rintro e w' ⟨rfl, rfl⟩)
    go_ret2
    exact ⟨_, rfl, Kd.R_nil _ _ _ _ _, HA.out⟩
  · have HP := Lib.hid (prc (h.below HA.out) hl)
    have hrun := out_run g hl (fun _ => false) budget.toNat s hs
    have HC := Lib.hid (I.reach_any g.prob (fun s => g.has s = true) (agg3 g A0 c0 A1 c1 A2 c2) s budget.toNat _ HP.out (by omega) (by omega) hs 200 _ hrun)
    have eb : ((budget.toNat : Nat) : Int) = budget := by omega
    rw [eb] at HC
    clear h HP hrun eb
    unfold rres at hr
    rw [if_neg hb] at hr
    clear hb
    generalize g.out (fun _ => false) budget.toNat s = out at HC hr
    cases out with
    | notFound o =>
      cases hr
      go_enter Try.func17, Try.ntmps17
      go_wp2_with (go_at_call 30; refine HC.out.mono ?_; rintro e w' ⟨hb, v, rfl, hv⟩; have HB := Lib.hid hb; have HV := Lib.hid hv; clear hb hv)
      go_ret2
      exact ⟨_, rfl, Kd.R_lower (Kd.R_of_own (enc := Value.int .i64) HV.out (fun _ _ => trivial)) HA.out.size, HA.out.trans (HB.out.mono HA.out.size)⟩
    | budget o =>
      cases hr
      go_enter Try.func17, Try.ntmps17
      go_wp2_with (go_at_call 30; refine HC.out.mono ?_; rintro e w' ⟨hb, v, rfl, rfl⟩; have HB := Lib.hid hb; clear hb)
      go_ret2
      exact ⟨_, rfl, Kd.R_nil _ _ _ _ _, HA.out.trans (HB.out.mono HA.out.size)⟩
    | found x o =>
      have h9 : False := by
        obtain ⟨_, _, _, hR, _⟩ := HC.out []
        obtain ⟨_, _, hh⟩ := hR
        exact hh
      exact h9.elim

set_option maxHeartbeats 1000000 in
theorem ldist_is (h : GAt g w A0 c0 A1 c1 A2 c2) (hl : g.large = false) (s : Int) (hs : g.has s = true) (key : ByteArray) (budget : Int) (d c : Int) (hr : dres g s key budget = (d, c)) :
    Calls Try.prog 18 #[.agg #[.slice A0 g.E.length c0, .slice A1 g.K.length c1, .slice A2 g.Gs.length c2], .int .i64 s, .string key, .int .i64 budget] w fun en w' =>
      en = .returned (.tuple #[.int .i64 d, .int .i64 c]) ∧ Below w.heap.size w w' := by
  have HA := Lib.hid (show Below w.heap.size w (w.alloc (.cells #[.slice A0 g.E.length c0, .slice A1 g.K.length c1, .slice A2 g.Gs.length c2] 26)) from (Below.refl _ _).alloc (Nat.le_refl _) _)
  by_cases hb : budget < 1 ∨ 1048576 < budget
  · unfold dres at hr
    rw [if_pos hb] at hr
    cases hr
    clear h
    go_enter Try.func18, Try.ntmps18
    go_wp2_with (go_at_call 31; refine (I.dist_bad _ _ key budget _ hb).mono ?_; rintro e w' ⟨rfl, hb2⟩; have HB := Lib.hid hb2; clear hb2)
    go_ret2
    exact ⟨rfl, HA.out.trans (HB.out.mono HA.out.size)⟩
  · have HP := Lib.hid (prc (h.below HA.out) hl)
    have hrun := out_run g hl (fun t => g.key t == key) budget.toNat s hs
    have HC := Lib.hid (I.dist_any g.prob (fun s => g.has s = true) (agg3 g A0 c0 A1 c1 A2 c2) s key budget.toNat _ HP.out (by omega) (by omega) hs 200 _ hrun)
    have eb : ((budget.toNat : Nat) : Int) = budget := by omega
    rw [eb] at HC
    clear h HP hrun eb
    unfold dres at hr
    rw [if_neg hb] at hr
    clear hb
    generalize g.out (fun t => g.key t == key) budget.toNat s = out at HC hr
    cases out with
    | notFound o =>
      cases hr
      go_enter Try.func18, Try.ntmps18
      go_wp2_with (go_at_call 31; refine HC.out.mono ?_; rintro e w' ⟨hb, rfl⟩; have HB := Lib.hid hb; clear hb)
      go_ret2
      exact ⟨rfl, HA.out.trans (HB.out.mono HA.out.size)⟩
    | budget o =>
      cases hr
      go_enter Try.func18, Try.ntmps18
      go_wp2_with (go_at_call 31; refine HC.out.mono ?_; rintro e w' ⟨hb, rfl⟩; have HB := Lib.hid hb; clear hb)
      go_ret2
      exact ⟨rfl, HA.out.trans (HB.out.mono HA.out.size)⟩
    | found x o =>
      cases hr
      go_enter Try.func18, Try.ntmps18
      go_wp2_with (go_at_call 31; refine HC.out.mono ?_; rintro e w' ⟨hb, rfl⟩; have HB := Lib.hid hb; clear hb)
      go_ret2
      exact ⟨rfl, HA.out.trans (HB.out.mono HA.out.size)⟩
theorem same_any {a b : List Int} {B0 B1 : Option Addr} {d0 d1 : Nat} (ha : (Kd.int .i64).C w B0 a.length a) (la : a.length ≤ d0) (hb : (Kd.int .i64).C w B1 b.length b) (lb : b.length ≤ d1) (hlen : a.length < 1000000000) (r : Bool) (hr : decide (a = b) = r) :
    Calls Try.prog 16 #[.slice B0 a.length d0, .slice B1 b.length d1] w fun e w' => e = .returned (.bool r) ∧ Drawn0 w w' := by
  obtain ⟨k, hk⟩ := same_f a b hlen
  rw [hr] at hk
  exact pentaglotlaw40_same.calls k B0 d0 a B1 d1 b r w ha la hb lb hk
end
end Go.Proofs.Ytipdejalohmkpaa.Gr

/- Least costs by repeated relaxation are the least costs of paths. -/
namespace Go.Proofs.Ytipdejalohmkpaa.Gr
open Go.RowKit Go.Proofs.YtipdejalohmkpaaW.PrintWords Go.Proofs.YtipdejalohmkpaaW.PrintLast Go.Proofs.YtipdejalohmkpaaW.PrintMore PBestfirstDistances

def relax (o : List Int) (s : Int) (x : S51) : List Int :=
  if 0 ≤ x.f1 ∧ x.f1 ≤ 1099511627776 ∧ rd o s < 1099511627777 ∧ rd o s + x.f1 < rd o x.f0 then o.set x.f0.toNat (rd o s + x.f1) else o
def relaxAll (o : List Int) (s : Int) : List S51 → List Int
  | [] => o
  | x :: xs => relaxAll (relax o s x) s xs
def sweep (g : Gph) : Nat → Nat → List Int → List Int
  | 0, _, o => o
  | d + 1, i, o => sweep g d (i + 1) (relaxAll o i (g.next i))
def rounds (g : Gph) : Nat → List Int → List Int
  | 0, o => o
  | d + 1, o => rounds g d (sweep g g.E.length 0 o)
def dists (g : Gph) (start : Int) : List Int := rounds g g.E.length ((List.replicate g.E.length 1099511627777).set start.toNat 0)

structure Snd (g : Gph) (start : Int) (o : List Int) : Prop where
  len : o.length = g.E.length
  ran : ∀ t, g.has t = true → 0 ≤ rd o t ∧ rd o t ≤ 1099511627777
  path : ∀ t, g.has t = true → rd o t < 1099511627777 → ∃ r, Sr.PW g.prob start (t :: r) (rd o t)

theorem rd_set {o : List Int} {i t v : Int} (h0 : 0 ≤ i) (h1 : i < (o.length : Int)) (t0 : 0 ≤ t) : rd (o.set i.toNat v) t = if t = i then v else rd o t := by
  unfold rd
  rw [List.getD_eq_getElem?_getD, List.getD_eq_getElem?_getD]
  by_cases e : t = i
  · subst e
    rw [if_pos rfl, List.getElem?_set_self (by omega)]
    rfl
  · rw [if_neg e, List.getElem?_set_ne (by omega)]

theorem prob_next {g : Gph} {s : Int} {x : S51} (h : x ∈ g.next s) : (x.f0, x.f1) ∈ g.prob.next s := List.mem_map.2 ⟨x, h, rfl⟩

variable {g : Gph} {start : Int}
theorem Snd.relax {o : List Int} (h : Snd g start o) {s : Int} (hs : g.has s = true) {x : S51} (hx : x ∈ g.next s) :
    Snd g start (relax o s x) ∧ (∀ t, g.has t = true → rd (Gr.relax o s x) t ≤ rd o t) ∧ (0 ≤ x.f1 → x.f1 ≤ 1099511627776 → rd o s < 1099511627777 → rd (Gr.relax o s x) x.f0 ≤ rd o s + x.f1) := by
  have hx0 := next_has hx
  have hi := has_iff.1 hx0
  unfold Gr.relax
  split
  · rename_i hc
    obtain ⟨c0, c1, c2, c3⟩ := hc
    have hr := fun (t : Int) (t0 : 0 ≤ t) => rd_set (o := o) (v := rd o s + x.f1) hi.1 (by rw [h.len]; exact hi.2) t0
    refine ⟨⟨by rw [List.length_set, h.len], fun t ht => ?_, fun t ht hl => ?_⟩, fun t ht => ?_, fun _ _ _ => ?_⟩
    · rw [hr t (has_iff.1 ht).1]
      have a := h.ran t ht
      have b := h.ran s hs
      have c := h.ran x.f0 hx0
      split <;> omega
    · rw [hr t (has_iff.1 ht).1] at hl ⊢
      split
      · rename_i e
        subst e
        obtain ⟨r, hr⟩ := h.path s hs c2
        have c := h.ran x.f0 hx0
        exact ⟨_, Sr.PW.step hr (prob_next hx) c0 (by unfold Sr.maxCount; omega)⟩
      · rename_i e
        rw [if_neg e] at hl
        exact h.path t ht hl
    · rw [hr t (has_iff.1 ht).1]
      split
      · rename_i e; subst e; omega
      · omega
    · rw [hr x.f0 hi.1, if_pos rfl]; omega
  · rename_i hc
    refine ⟨h, fun t _ => Int.le_refl _, fun a b c => ?_⟩
    have : ¬ rd o s + x.f1 < rd o x.f0 := fun d => hc ⟨a, b, c, d⟩
    omega
theorem Snd.relaxAll {s : Int} (hs : g.has s = true) : ∀ (xs : List S51) (o : List Int), (∀ x ∈ xs, x ∈ g.next s) → Snd g start o →
    Snd g start (relaxAll o s xs) ∧ (∀ t, g.has t = true → rd (Gr.relaxAll o s xs) t ≤ rd o t) ∧ ∀ x ∈ xs, 0 ≤ x.f1 → x.f1 ≤ 1099511627776 → rd o s < 1099511627777 → rd (Gr.relaxAll o s xs) x.f0 ≤ rd o s + x.f1 := by
  intro xs
  induction xs with
  | nil => intro o _ h; exact ⟨h, fun t _ => Int.le_refl _, fun x hx => by simp at hx⟩
  | cons y ys ih =>
    intro o hm h
    obtain ⟨h1, d1, e1⟩ := h.relax hs (hm y (by simp))
    obtain ⟨h2, d2, e2⟩ := ih (Gr.relax o s y) (fun x hx => hm x (by simp [hx])) h1
    refine ⟨h2, fun t ht => Int.le_trans (d2 t ht) (d1 t ht), fun x hx a b c => ?_⟩
    rcases List.mem_cons.1 hx with rfl | hx
    · exact Int.le_trans (d2 _ (next_has (hm x (by simp)))) (e1 a b c)
    · have p := d1 s hs
      have q := e2 x hx a b (by omega)
      show rd (Gr.relaxAll (Gr.relax o s y) s ys) x.f0 ≤ _
      omega
theorem Snd.sweep : ∀ (d i : Nat) (o : List Int), i + d = g.E.length → Snd g start o →
    Snd g start (sweep g d i o) ∧ (∀ t, g.has t = true → rd (Gr.sweep g d i o) t ≤ rd o t) ∧ ∀ s : Int, (i : Int) ≤ s → g.has s = true → ∀ x ∈ g.next s, 0 ≤ x.f1 → x.f1 ≤ 1099511627776 → rd o s < 1099511627777 → rd (Gr.sweep g d i o) x.f0 ≤ rd o s + x.f1 := by
  intro d
  induction d with
  | zero => intro i o hi h; exact ⟨h, fun t _ => Int.le_refl _, fun s h1 h2 => by have := has_iff.1 h2; omega⟩
  | succ d ih =>
    intro i o hi h
    have hs : g.has (i : Int) = true := has_iff.2 ⟨by omega, by omega⟩
    obtain ⟨h1, d1, e1⟩ := Snd.relaxAll hs (g.next i) o (fun _ h => h) h
    obtain ⟨h2, d2, e2⟩ := ih (i + 1) _ (by omega) h1
    refine ⟨h2, fun t ht => Int.le_trans (d2 t ht) (d1 t ht), fun s hle hss x hx a b c => ?_⟩
    by_cases e : s = (i : Int)
    · subst e
      exact Int.le_trans (d2 _ (next_has hx)) (e1 x hx a b c)
    · have p := d1 s hss
      have q := e2 s (by omega) hss x hx a b (by omega)
      show rd (Gr.sweep g d (i + 1) (Gr.relaxAll o i (g.next i))) x.f0 ≤ _
      omega
/-- No path with at most j steps is cheaper. -/
def Cmp (g : Gph) (start : Int) (j : Nat) (o : List Int) : Prop := ∀ t r c, Sr.PW g.prob start (t :: r) c → r.length ≤ j → rd o t ≤ c
theorem pw_has (hs : g.has start = true) {t : Int} {r : List Int} {c : Int} (h : Sr.PW g.prob start (t :: r) c) : g.has t = true :=
  mem_dom.1 (h.dom (mem_dom.2 hs) (dom_closed g) t (by simp))
theorem Cmp.sweep (hs : g.has start = true) {j : Nat} {o : List Int} (h : Snd g start o) (hc : Cmp g start j o) : Cmp g start (j + 1) (sweep g g.E.length 0 o) := by
  obtain ⟨_, d1, e1⟩ := Snd.sweep g.E.length 0 o (by omega) h
  intro t r c hw hl
  generalize hL : t :: r = L at hw
  cases hw with
  | base =>
    injection hL with h1 h2
    subst h1 h2
    exact Int.le_trans (d1 _ hs) (hc _ _ _ Sr.PW.base (by simp))
  | @step s r' c' t' w hw hn h0 hle =>
    injection hL with h1 h2
    subst h1 h2
    have hp := hc s r' c' hw (by simpa using hl)
    have hss := pw_has hs hw
    have hb := hw.bound
    unfold Sr.maxCount at hb hle
    obtain ⟨x, hx, hxe⟩ := List.mem_map.1 hn
    injection hxe with x0 x1
    subst x0 x1
    have := e1 s (by have := has_iff.1 hss; omega) hss x hx h0 (by omega) (by omega)
    omega
theorem rounds_spec (hs : g.has start = true) : ∀ (d j : Nat) (o : List Int), Snd g start o → Cmp g start j o → Snd g start (rounds g d o) ∧ Cmp g start (j + d) (rounds g d o) := by
  intro d
  induction d with
  | zero => intro j o h hc; exact ⟨h, hc⟩
  | succ d ih =>
    intro j o h hc
    have := ih (j + 1) _ (Snd.sweep g.E.length 0 o (by omega) h).1 (Cmp.sweep hs h hc)
    rw [show j + (d + 1) = j + 1 + d by omega]
    exact this
theorem rd_init (hs : g.has start = true) {t : Int} (ht : g.has t = true) : rd ((List.replicate g.E.length (1099511627777 : Int)).set start.toNat 0) t = if t = start then 0 else 1099511627777 := by
  have h1 := has_iff.1 hs
  have h2 := has_iff.1 ht
  rw [rd_set h1.1 (by simpa using h1.2) h2.1]
  split
  · rfl
  · unfold rd
    rw [List.getD_eq_getElem?_getD, List.getElem?_replicate, if_pos (by omega)]
    rfl
theorem init_snd (hs : g.has start = true) : Snd g start ((List.replicate g.E.length (1099511627777 : Int)).set start.toNat 0) where
  len := by simp
  ran t ht := by rw [rd_init hs ht]; split <;> omega
  path t ht hl := by
    rw [rd_init hs ht] at hl ⊢
    split
    · rename_i e; subst e; exact ⟨[], Sr.PW.base⟩
    · rename_i e; rw [if_neg e] at hl; omega
theorem init_cmp (hs : g.has start = true) : Cmp g start 0 ((List.replicate g.E.length (1099511627777 : Int)).set start.toNat 0) := by
  intro t r c hw hl
  obtain rfl : r = [] := List.length_eq_zero_iff.1 (by omega)
  generalize hL : [t] = L at hw
  cases hw with
  | base =>
    injection hL with h1 h2
    subst h1
    rw [rd_init hs hs, if_pos rfl]
    omega
  | step => injection hL with h1 h2; cases h2
theorem dists_spec (hs : g.has start = true) : Snd g start (dists g start) ∧ Cmp g start g.E.length (dists g start) := by
  have := rounds_spec hs g.E.length 0 _ (init_snd hs) (init_cmp hs)
  rw [Nat.zero_add] at this
  exact this

end Go.Proofs.Ytipdejalohmkpaa.Gr

/- What the search answers on a plain graph, against the least costs by relaxation. -/
namespace Go.Proofs.Ytipdejalohmkpaa.Gr
open Go.RowKit Go.Proofs.YtipdejalohmkpaaW.PrintWords Go.Proofs.YtipdejalohmkpaaW.PrintLast Go.Proofs.YtipdejalohmkpaaW.PrintMore PBestfirstDistances

theorem dig12 : ((List.range 12).all fun a => (List.range 12).all fun b => !(digits a == digits b) || a == b) = true := by kernel_rfl
theorem dig_inj {a b : Nat} (ha : a < 12) (hb : b < 12) (h : digits a = digits b) : a = b := by
  have h1 := List.all_eq_true.1 dig12 a (List.mem_range.2 ha)
  have h2 := List.all_eq_true.1 h1 b (List.mem_range.2 hb)
  rw [h] at h2
  simpa using h2
theorem key_plain {g : Gph} (hp : g.plain = true) (s : Int) : g.key s = digits s.toNat := by
  unfold Gph.key
  unfold Gph.plain at hp
  have : g.K.length = 0 := by simpa using hp
  rw [if_neg (by omega)]
theorem len12 {g : Gph} (hl : g.large = false) : g.E.length ≤ 12 := by
  have h12 := dom_len g hl
  unfold Gph.dom at h12
  rwa [List.length_map, List.length_range] at h12
theorem key_inj {g : Gph} (hl : g.large = false) (hp : g.plain = true) : ∀ s ∈ g.dom, ∀ t ∈ g.dom, g.prob.key s = g.prob.key t → s = t := by
  intro s hs t ht h
  have h1 := has_iff.1 (mem_dom.1 hs)
  have h2 := has_iff.1 (mem_dom.1 ht)
  have hn := len12 hl
  have h' : g.key s = g.key t := h
  rw [key_plain hp, key_plain hp] at h'
  have := dig_inj (by omega) (by omega) h'
  omega

variable {g : Gph} {start : Int}
theorem best_out (hl : g.large = false) (hp : g.plain = true) (hs : g.has start = true) (goal : Int → Bool) (b : Nat) : Sr.Best g.prob goal start b (g.out goal b start) :=
  Sr.run_best g.prob goal start b g.dom (mem_dom.2 hs) (dom_closed g) (key_inj hl hp) 200 _ [] 1 [] _ (Sr.Inv.start _ _ _) List.Pairwise.nil (out_run g hl goal b start hs)
theorem order_few (hs : g.has start = true) {o : List Int} {F : List (Int × Int)} {n : Nat} (hF : F.map Prod.fst = o) (hp : ∀ y ∈ F, ∃ r, Sr.PW g.prob start (y.1 :: r) y.2 ∧ r.length ≤ n) (hk : Sr.KeysNe g.prob o) : o.length ≤ g.E.length := by
  have hsub : ∀ s ∈ o, s ∈ g.dom := fun s h => by
    rw [← hF] at h
    obtain ⟨y, hy, rfl⟩ := List.mem_map.1 h
    obtain ⟨r, h1, _⟩ := hp y hy
    exact mem_dom.2 (pw_has hs h1)
  have := List.Nodup.length_le_of_subset hk.nodup hsub
  unfold Gph.dom at this
  rwa [List.length_map, List.length_range] at this
theorem no_budget (hl : g.large = false) (hp : g.plain = true) (hs : g.has start = true) (goal : Int → Bool) (o : List Int) : g.out goal 100 start ≠ .budget o := by
  intro e
  have h := best_out hl hp hs goal 100
  rw [e] at h
  obtain ⟨h1, h2, F, h3, h4⟩ := h
  have := order_few hs h3 h4 h2
  have := len12 hl
  omega
/-- No path is cheaper than the least cost. -/
theorem dists_opt (hl : g.large = false) (hp : g.plain = true) (hs : g.has start = true) {t : Int} {r : List Int} {c : Int} (hw : Sr.PW g.prob start (t :: r) c) : rd (dists g start) t ≤ c := by
  have h := best_out hl hp hs (fun _ => false) 100
  cases e : g.out (fun _ => false) 100 start with
  | budget o => exact absurd e (no_budget hl hp hs _ o)
  | found x o =>
    rw [e] at h
    exact absurd h.2.1 (by simp)
  | notFound o =>
    rw [e] at h
    obtain ⟨F, h1, h2, _, _, hk, h3⟩ := h
    obtain ⟨c', h4, h5⟩ := h3 t r c hw
    obtain ⟨r', h6, h7⟩ := h2 _ h5
    have := (dists_spec hs).2 t r' c' h6 (Nat.le_trans h7 (order_few hs h1 h2 hk))
    omega
theorem dist_pure (hl : g.large = false) (hp : g.plain = true) (hs : g.has start = true) {tg : Int} (ht : g.has tg = true) {d e : Int} (hr : dres g start (g.key tg) 100 = (d, e)) :
    (e = 0 ∧ d = rd (dists g start) tg) ∨ (e = 4 ∧ rd (dists g start) tg = 1099511627777) := by
  have hS := (dists_spec hs).1
  have h := best_out hl hp hs (fun t => g.key t == g.key tg) 100
  unfold dres at hr
  rw [if_neg (by omega)] at hr
  change (match g.out (fun t => g.key t == g.key tg) 100 start with | .notFound _ => ((0 : Int), (4 : Int)) | .budget _ => (0, 7) | .found x _ => (x.cost, 0)) = (d, e) at hr
  cases ho : g.out (fun t => g.key t == g.key tg) 100 start with
  | budget o => exact absurd ho (no_budget hl hp hs _ o)
  | found x o =>
    rw [ho] at h hr
    injection hr with h1 h2
    obtain ⟨a, b, c⟩ := h
    have hx := pw_has hs a
    have hxt : x.st = tg := key_inj hl hp _ (mem_dom.2 hx) _ (mem_dom.2 ht) (show g.key x.st = g.key tg by simpa using b)
    left
    refine ⟨h2.symm, ?_⟩
    have l1 := dists_opt hl hp hs a
    have hb := a.bound
    unfold Sr.maxCount at hb
    rw [hxt] at l1
    obtain ⟨r, hr⟩ := hS.path tg ht (by omega)
    have := c tg r _ hr (by simp)
    omega
  | notFound o =>
    rw [ho] at h hr
    injection hr with h1 h2
    obtain ⟨F, f1, _, _, f4, _, f3⟩ := h
    right
    refine ⟨h2.symm, ?_⟩
    have hran := hS.ran tg ht
    apply Classical.byContradiction
    intro hne
    obtain ⟨r, hr⟩ := hS.path tg ht (by omega)
    obtain ⟨c', _, h5⟩ := f3 tg r _ hr
    have : tg ∈ o := by rw [← f1]; exact List.mem_map.2 ⟨_, h5, rfl⟩
    have := f4 tg this
    simp at this
/-- Reachable's list: each once, in the order of the distances, all that can be reached. -/
theorem order_pure (hl : g.large = false) (hp : g.plain = true) (hs : g.has start = true) :
    ∃ o, rres g start 100 = (o, 0) ∧ o.Nodup ∧ (∀ s ∈ o, g.has s = true) ∧ (∀ t, g.has t = true → (rd (dists g start) t < 1099511627777 ↔ t ∈ o)) ∧ (o.Pairwise fun a b => rd (dists g start) a ≤ rd (dists g start) b) := by
  have hS := (dists_spec hs).1
  have h := best_out hl hp hs (fun _ => false) 100
  cases ho : g.out (fun _ => false) 100 start with
  | budget o => exact absurd ho (no_budget hl hp hs _ o)
  | found x o =>
    rw [ho] at h
    exact absurd h.2.1 (by simp)
  | notFound o =>
    rw [ho] at h
    obtain ⟨F, f1, f2, f5, _, hk, f3⟩ := h
    have hnd := hk.nodup
    have heq : ∀ y ∈ F, y.2 = rd (dists g start) y.1 := fun y hy => by
      obtain ⟨r, h1, _⟩ := f2 y hy
      have l1 := dists_opt hl hp hs h1
      have hb := h1.bound
      unfold Sr.maxCount at hb
      obtain ⟨r', h2⟩ := hS.path y.1 (pw_has hs h1) (by omega)
      obtain ⟨c', h3, h4⟩ := f3 _ _ _ h2
      have hc : c' = y.2 := by
        rw [← f1] at hnd
        obtain ⟨i, hi, hie⟩ := List.getElem_of_mem hy
        obtain ⟨j, hj, hje⟩ := List.getElem_of_mem h4
        have hpw := List.pairwise_iff_getElem.1 hnd
        have hij : i = j := by
          rcases Nat.lt_trichotomy i j with h | h | h
          · exact (hpw i j (by simpa using hi) (by simpa using hj) h (by simp [hie, hje])).elim
          · exact h
          · exact (hpw j i (by simpa using hj) (by simpa using hi) h (by simp [hie, hje])).elim
        subst hij
        rw [hie] at hje
        rw [hje]
      omega
    refine ⟨o, ?_, hnd, fun s h => ?_, fun t ht => ⟨fun hlt => ?_, fun hm => ?_⟩, ?_⟩
    · unfold rres
      rw [if_neg (by omega)]
      change (match g.out (fun _ => false) 100 start with | .notFound o => (o, (0 : Int)) | .budget _ => ([], 7) | .found _ _ => ([], 0)) = (o, 0)
      rw [ho]
    · rw [← f1] at h
      obtain ⟨y, hy, rfl⟩ := List.mem_map.1 h
      obtain ⟨r, h1, _⟩ := f2 y hy
      exact pw_has hs h1
    · obtain ⟨r, hr⟩ := hS.path t ht hlt
      obtain ⟨c', _, h4⟩ := f3 _ _ _ hr
      rw [← f1]
      exact List.mem_map.2 ⟨_, h4, rfl⟩
    · rw [← f1] at hm
      obtain ⟨y, hy, rfl⟩ := List.mem_map.1 hm
      obtain ⟨r, h1, _⟩ := f2 y hy
      have l1 := dists_opt hl hp hs h1
      have hb := h1.bound
      unfold Sr.maxCount at hb
      omega
    · rw [← f1, List.pairwise_map]
      refine List.Pairwise.imp_of_mem (fun {a b} ha hb hab => ?_) f5
      have := heq a ha
      have := heq b hb
      omega
end Go.Proofs.Ytipdejalohmkpaa.Gr

/- The document's example is found. -/
namespace Go.Proofs.Ytipdejalohmkpaa.Gr
open Go.RowKit Go.Proofs.YtipdejalohmkpaaW.PrintWords Go.Proofs.YtipdejalohmkpaaW.PrintLast Go.Proofs.YtipdejalohmkpaaW.PrintMore PBestfirstDistances

def ex : Gph := ⟨[[⟨1, 4⟩, ⟨2, 1⟩], [⟨3, 1⟩], [⟨1, 2⟩, ⟨3, 9⟩], []], [], [3]⟩
theorem ex_small : ex.large = false := by kernel_rfl
theorem ex1 : sres ex 0 3 = ([0, 2, 1, 3], 4, 0) := by kernel_rfl
theorem ex2 : sres ex 0 2 = ([], 0, 7) := by kernel_rfl
theorem ex3 : rres ex 0 10 = ([0, 2, 1, 3], 0) := by kernel_rfl
theorem ex4 : dres ex 0 ⟨#[49]⟩ 10 = (3, 0) := by kernel_rfl
theorem ex5 : dres ex 1 ⟨#[48]⟩ 10 = (0, 4) := by kernel_rfl
theorem ex6 : sres ex 0 0 = ([], 0, 1) := by kernel_rfl
theorem ex_has0 : ex.has 0 = true := by kernel_rfl
theorem ex_has1 : ex.has 1 = true := by kernel_rfl

/-- The example's graph lies in block gb of w. -/
def ExAt (gb : Nat) (w : World) (A0 : Option Addr) (c0 : Nat) (A1 : Option Addr) (c1 : Nat) (A2 : Option Addr) (c2 : Nat) : Prop :=
  w.heap[gb]? = some (.cells #[.slice A0 ex.E.length c0, .slice A1 ex.K.length c1, .slice A2 ex.Gs.length c2] 26 (0, 0)) ∧ GAt ex w A0 c0 A1 c1 A2 c2
theorem ExAt.below {gb : Nat} {w w' : World} {A0 A1 A2 : Option Addr} {c0 c1 c2 : Nat} (h : ExAt gb w A0 c0 A1 c1 A2 c2) (hb : Below w.heap.size w w') : ExAt gb w' A0 c0 A1 c1 A2 c2 :=
  ⟨(hb.block gb (Array.getElem?_eq_some_iff.1 h.1).1).trans h.1, h.2.below hb⟩
theorem ExAt.cells {gb : Nat} {w : World} {A0 A1 A2 : Option Addr} {c0 c1 c2 : Nat} (h : ExAt gb w A0 c0 A1 c1 A2 c2) : w.cell? ⟨gb, 0, none⟩ = some (.slice A0 ex.E.length c0) ∧ w.cell? ⟨gb, 1, none⟩ = some (.slice A1 ex.K.length c1) ∧ w.cell? ⟨gb, 2, none⟩ = some (.slice A2 ex.Gs.length c2) := by
  have h1 := h.1
  refine ⟨?_, ?_, ?_⟩ <;> (unfold World.cell?; rw [h1]; rfl)

theorem lit4 (w : World) (a b c d : Int) : (Kd.int .i64).C (w.alloc (.cells #[.int .i64 a, .int .i64 b, .int .i64 c, .int .i64 d] 3)) (some ⟨w.heap.size, 0, none⟩) 4 [a, b, c, d] := by
  have ho : (w.alloc (.cells #[.int .i64 a, .int .i64 b, .int .i64 c, .int .i64 d] 3)).ownsRow 0 3 1 (.slice (some ⟨w.heap.size, 0, none⟩) 4 4) [a, b, c, d].length (encs (Value.int .i64) [a, b, c, d]) :=
    ⟨rfl, .inr ⟨w.heap.size, 4, #[.int .i64 a, .int .i64 b, .int .i64 c, .int .i64 d], rfl, Nat.zero_le _, by show (w.heap.push _)[w.heap.size]? = _; simp, by simp, by simp [maxLen], rfl, rfl⟩⟩
  exact (Kd.R_reads' (Kd.R_of_own (h1 := fun _ => rfl) ho (ok := fun _ => True) (fun _ _ => trivial))).2.2

set_option maxRecDepth 1000000 in
set_option maxHeartbeats 4000000 in
theorem awake_any (w : World) : Calls Try.prog 11 #[] w fun e w' => e = .returned (.bool true) ∧ Below w.heap.size w w' := by
  go_enter Try.func11, Try.ntmps11
  go_wp2_with fail
  refine (pentaglotlaw40_example.calls ex.E ex.K ex.Gs w rfl).mono ?_
  rintro e w1 ⟨v0, v1, v2, rfl, hv0, hv1, hv2, hb⟩
  obtain ⟨A0, c0, rfl, l0, h0⟩ := Kd.N_reads hv0
  obtain ⟨A1, c1, rfl, l1, h1⟩ := Kd.R_reads hv1
  obtain ⟨A2, c2, rfl, l2, h2⟩ := Kd.R_reads hv2
  have HB := Lib.hid hb
  have EX0 : Hid (ExAt w1.heap.size (w1.alloc (.cells #[.slice A0 ex.E.length c0, .slice A1 ex.K.length c1, .slice A2 ex.Gs.length c2] 26)) A0 c0 A1 c1 A2 c2) :=
    ⟨by show (w1.heap.push _)[w1.heap.size]? = _; simp, GAt.alloc ⟨h0, l0, h1, l1, h2, l2⟩ _⟩
  clear hv0 hv1 hv2 h0 h1 h2 hb
  go_wp2_with fail
  have HBB := Lib.hid (HB.out.alloc HB.out.size (.cells #[.slice A0 ex.E.length c0, .slice A1 ex.K.length c1, .slice A2 ex.Gs.length c2] 26))
  refine (lsearch_is EX0.out.2 ex_small 0 ex_has0 3 _ _ _ ex1).mono ?_
  rintro e y0 ⟨v0, rfl, hv0, hb0⟩
  obtain ⟨B0, d0, rfl, m0, g0⟩ := Kd.R_reads hv0
  clear hv0
  have EX1 := Lib.hid (EX0.out.below hb0)
  have HB0 := Lib.hid (below_then HBB.out HBB.out.size hb0)
  have V2_0 := Lib.hid g0
  clear g0
  clear hb0
  obtain ⟨q0a, q0b, q0c⟩ := EX1.out.cells
  go_wp2_with fail
  refine (lsearch_is EX1.out.2 ex_small 0 ex_has0 2 _ _ _ ex2).mono ?_
  rintro e y1 ⟨v1, rfl, hv1, hb1⟩
  obtain ⟨B1, d1, rfl, m1, g1⟩ := Kd.R_reads hv1
  clear hv1
  have EX2 := Lib.hid (EX1.out.below hb1)
  have HB1 := Lib.hid (below_then HB0.out HB0.out.size hb1)
  have V2_1 := Lib.hid (Kd.C_below V2_0.out hb1)
  clear g1
  clear hb1
  clear q0a q0b q0c
  obtain ⟨q1a, q1b, q1c⟩ := EX2.out.cells
  go_wp2_with fail
  refine (lreach_is EX2.out.2 ex_small 0 ex_has0 10 _ _ ex3).mono ?_
  rintro e y2 ⟨v2, rfl, hv2, hb2⟩
  obtain ⟨B2, d2, rfl, m2, g2⟩ := Kd.R_reads hv2
  clear hv2
  have EX3 := Lib.hid (EX2.out.below hb2)
  have HB2 := Lib.hid (below_then HB1.out HB1.out.size hb2)
  have V2_2 := Lib.hid (Kd.C_below V2_1.out hb2)
  have V8_2 := Lib.hid g2
  clear g2
  clear hb2
  clear q1a q1b q1c
  obtain ⟨q2a, q2b, q2c⟩ := EX3.out.cells
  go_wp2_with fail
  refine (ldist_is EX3.out.2 ex_small 0 ex_has0 ⟨#[49]⟩ 10 _ _ ex4).mono ?_
  rintro e y3 ⟨rfl, hb3⟩
  have EX4 := Lib.hid (EX3.out.below hb3)
  have HB3 := Lib.hid (below_then HB2.out HB2.out.size hb3)
  have V2_3 := Lib.hid (Kd.C_below V2_2.out hb3)
  have V8_3 := Lib.hid (Kd.C_below V8_2.out hb3)
  clear hb3
  clear q2a q2b q2c
  obtain ⟨q3a, q3b, q3c⟩ := EX4.out.cells
  go_wp2_with fail
  refine (ldist_is EX4.out.2 ex_small 1 ex_has1 ⟨#[48]⟩ 10 _ _ ex5).mono ?_
  rintro e y4 ⟨rfl, hb4⟩
  have EX5 := Lib.hid (EX4.out.below hb4)
  have HB4 := Lib.hid (below_then HB3.out HB3.out.size hb4)
  have V2_4 := Lib.hid (Kd.C_below V2_3.out hb4)
  have V8_4 := Lib.hid (Kd.C_below V8_3.out hb4)
  clear hb4
  clear q3a q3b q3c
  obtain ⟨q4a, q4b, q4c⟩ := EX5.out.cells
  go_wp2_with fail
  refine (lsearch_is EX5.out.2 ex_small 0 ex_has0 0 _ _ _ ex6).mono ?_
  rintro e y5 ⟨v5, rfl, hv5, hb5⟩
  obtain ⟨B5, d5, rfl, m5, g5⟩ := Kd.R_reads hv5
  clear hv5
  have EX6 := Lib.hid (EX5.out.below hb5)
  have HB5 := Lib.hid (below_then HB4.out HB4.out.size hb5)
  have V2_5 := Lib.hid (Kd.C_below V2_4.out hb5)
  have V8_5 := Lib.hid (Kd.C_below V8_4.out hb5)
  clear g5
  clear hb5
  clear q4a q4b q4c
  obtain ⟨q5a, q5b, q5c⟩ := EX6.out.cells
  go_wp2_with fail
  refine (same_any (a := [0, 2, 1, 3]) (b := [0, 2, 1, 3]) (Kd.C_below V2_5.out (below_alloc (Below.refl _ _) _)) m0 (lit4 y5 0 2 1 3) (Nat.le_refl 4) (by decide) true rfl).mono ?_
  rintro e z1 ⟨rfl, hd1⟩
  have HZ := Lib.hid ((HB5.out.alloc HB5.out.size _).trans (hd1.below.mono (Nat.le_trans HB5.out.size (by simp))))
  have HV := Lib.hid (Kd.C_below (Kd.C_below V8_5.out (below_alloc (Below.refl _ _) _)) hd1.below)
  clear hd1 q5a q5b q5c
  go_wp2_with fail
  refine (same_any (a := [0, 2, 1, 3]) (b := [0, 2, 1, 3]) (Kd.C_below HV.out (below_alloc (Below.refl _ _) _)) m2 (lit4 z1 0 2 1 3) (Nat.le_refl 4) (by decide) true rfl).mono ?_
  rintro e z2 ⟨rfl, hd2⟩
  have HZ2 := Lib.hid ((HZ.out.alloc HZ.out.size _).trans (hd2.below.mono (Nat.le_trans HZ.out.size (by simp))))
  clear hd2
  go_wp2
  go_ret
  exact ⟨rfl, HZ2.out⟩
end Go.Proofs.Ytipdejalohmkpaa.Gr

/- Reading an argument's data as lists and numbers, kind by kind. -/
namespace Go.Proofs.Ytipdejalohmkpaa.Rd
open Go.RowKit Go.ChangeShapes Go.Deep Go.Proofs.YtipdejalohmkpaaW.PrintWords

variable {P : Program}
/-- Whatever reads as a datum of type t is of the kind d. -/
def Opens {α : Type} (P : Program) (t : TypeId) (d : Kd α) : Prop :=
  ∀ (H : Type) (enc : TypeId × Value → H) (w : World) (fuel : Nat) (cs : List Value) (x : DataW H × List MemPlace), DataW.trod enc P w 0 (fun _ => true) true fuel t cs = some x → ∃ y : α, d.K w y cs

theorem op_int {t : TypeId} {k : IntKind} (ht : P.underlying t = some (.int k)) : Opens P t (Kd.int k) := by
  intro H enc w fuel cs x h
  cases fuel with
  | zero => simp [DataW.trod] at h
  | succ n =>
    unfold DataW.trod at h
    rw [ht] at h
    split at h <;> simp_all
    exact ⟨_, rfl⟩
theorem op_string {t : TypeId} (ht : P.underlying t = some .string) : Opens P t Kd.string := by
  intro H enc w fuel cs x h
  cases fuel with
  | zero => simp [DataW.trod] at h
  | succ n =>
    unfold DataW.trod at h
    rw [ht] at h
    split at h <;> simp_all
    exact ⟨_, rfl⟩
theorem choose_list {α : Type} {Q : Nat → α → Prop} : ∀ n, (∀ i, i < n → ∃ y, Q i y) → ∃ ys : List α, ys.length = n ∧ ∀ i y, ys[i]? = some y → Q i y
  | 0, _ => ⟨[], rfl, fun i y h => by simp at h⟩
  | n + 1, h => by
    obtain ⟨ys, hl, hy⟩ := choose_list n (fun i hi => h i (by omega))
    obtain ⟨z, hz⟩ := h n (by omega)
    refine ⟨ys ++ [z], by simp [hl], fun i y hi => ?_⟩
    by_cases c : i < n
    · rw [List.getElem?_append_left (by omega)] at hi; exact hy i y hi
    · have : i = n := by
        have := (List.getElem?_eq_some_iff.1 hi).1
        simp at this; omega
      subst this
      rw [List.getElem?_append_right (by omega)] at hi
      simp [hl] at hi
      subst hi; exact hz
theorem op_slice {α : Type} {t e : TypeId} {d : Kd α} (ht : P.underlying t = some (.slice e)) (hc : P.cellsOf e = d.sz) (hd : Opens P e d) : Opens P t (Kd.slice e d) := by
  intro H enc w fuel cs x h
  rcases DataW.trod_slice ht h with ⟨rfl, _⟩ | ⟨a, len, cap, elems, rest, n, _, rfl, _, _, hl, hm, hlen, hel, _⟩
  · exact ⟨[], none, 0, rfl, Nat.le_refl _, Kd.C_nil d w⟩
  · have hQ : ∀ i, i < len → ∃ y : α, ∃ c : List Value, c.length = d.sz ∧ d.K w y c ∧ ∀ j u, c[j]? = some u → w.cell? (a.add (i * d.sz + j)) = some u := by
      intro i hi
      have h1 := hel i hi
      rw [List.getElem?_eq_getElem (by omega), Option.bind_eq_some_iff] at h1
      obtain ⟨c, hc1, hc2⟩ := h1
      obtain ⟨y, hy⟩ := hd H enc w n c _ hc2
      obtain ⟨_, hcl, hcell⟩ := World.cells?_some hc1
      refine ⟨y, c, by rw [hcl, hc], hy, fun j u hj => ?_⟩
      have := hcell j (by rw [← hcl]; exact (List.getElem?_eq_some_iff.1 hj).1)
      rw [← hc]
      rw [Addr.add_add] at this
      rw [this, hj]
    obtain ⟨ys, hyl, hys⟩ := choose_list len hQ
    subst hyl
    refine ⟨ys, some a, cap, rfl, hl, rfl, by unfold maxLen at hm; omega, fun _ => ⟨a, rfl, fun j p hj => hys j p hj⟩⟩
theorem op_struct2 {α β : Type} {t : TypeId} {f0 f1 : Field} {a : Kd α} {b : Kd β} (ht : P.underlying t = some (.struct #[f0, f1])) (h0 : Opens P f0.type a) (h1 : Opens P f1.type b) (o0 : f0.offset = 0) (c0 : P.cellsOf f0.type = a.sz) (o1 : f1.offset = a.sz) (c1 : P.cellsOf f1.type = b.sz) (ct : P.cellsOf t = a.sz + b.sz) : Opens P t (Kd.pair a b) := by
  intro H enc w fuel cs x h
  obtain ⟨y0, y1, n, _, hl, g0, g1⟩ := trod_struct2 ht h
  obtain ⟨z0, k0⟩ := h0 H enc w n _ _ g0
  obtain ⟨z1, k1⟩ := h1 H enc w n _ _ g1
  rw [o0, c0, List.drop_zero] at k0
  rw [o1, c1] at k1
  refine ⟨(z0, z1), cs.take a.sz, cs.drop a.sz, ?_, k0, ?_⟩
  · exact (List.take_append_drop _ _).symm
  · rw [List.take_of_length_le (by simp; omega)] at k1
    exact k1
theorem op_struct3 {α β γ : Type} {t : TypeId} {f0 f1 f2 : Field} {a : Kd α} {b : Kd β} {c : Kd γ} (ht : P.underlying t = some (.struct #[f0, f1, f2])) (h0 : Opens P f0.type a) (h1 : Opens P f1.type b) (h2 : Opens P f2.type c) (o0 : f0.offset = 0) (c0 : P.cellsOf f0.type = a.sz) (o1 : f1.offset = a.sz) (c1 : P.cellsOf f1.type = b.sz) (o2 : f2.offset = a.sz + b.sz) (c2 : P.cellsOf f2.type = c.sz) (ct : P.cellsOf t = a.sz + (b.sz + c.sz)) : Opens P t (Kd.pair a (Kd.pair b c)) := by
  intro H enc w fuel cs x h
  obtain ⟨y0, y1, y2, n, _, hl, g0, g1, g2⟩ := trod_struct3 ht h
  obtain ⟨z0, k0⟩ := h0 H enc w n _ _ g0
  obtain ⟨z1, k1⟩ := h1 H enc w n _ _ g1
  obtain ⟨z2, k2⟩ := h2 H enc w n _ _ g2
  rw [o0, c0, List.drop_zero] at k0
  rw [o1, c1] at k1
  rw [o2, c2] at k2
  refine ⟨(z0, z1, z2), cs.take a.sz, cs.drop a.sz, (List.take_append_drop _ _).symm, k0, (cs.drop a.sz).take b.sz, (cs.drop a.sz).drop b.sz, (List.take_append_drop _ _).symm, k1, ?_⟩
  rw [List.drop_drop]
  rw [List.take_of_length_le (by simp; omega)] at k2
  exact k2
theorem op_iso {α β : Type} {t : TypeId} {d : Kd α} (f : β → α) (g : α → β) (hfg : ∀ x, f (g x) = x) (h : Opens P t d) : Opens P t (Kd.iso d f) := by
  intro H enc w fuel cs x hx
  obtain ⟨y, hy⟩ := h H enc w fuel cs x hx
  exact ⟨g y, by show d.K w (f (g y)) cs; rw [hfg]; exact hy⟩

end Go.Proofs.Ytipdejalohmkpaa.Rd
