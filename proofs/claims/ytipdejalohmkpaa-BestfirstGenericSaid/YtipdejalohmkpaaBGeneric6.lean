/- BestfirstGeneric: whatever the input, the call returns true, and the input reads as it did. No conditions. -/
import Derived.Test.YtipdejalohmkpaaBGeneric5
import Derived.Deep.RegionWith
import Derived.RegionCalls
import Derived.Test.YtipdejalohmkpaaBGeneric4
import Derived.Test.YtipdejalohmkpaaRows
import Derived.WalkKit
import Derived.ProofKit
import Derived.OpenShut
import Derived.ShutString
import Derived.ChangeOld
import Derived.Below
import Derived.SizedLaws
/- The search, walked, with one kind of goal function (G). -/
namespace Go.Proofs.Ytipdejalohmkpaa.S
open Go.RowKit Hp Go.Proofs.YtipdejalohmkpaaW.PrintWords Go.Proofs.YtipdejalohmkpaaW.PrintLast

set_option linter.unusedVariables false
set_option maxRecDepth 1000000 in
set_option maxHeartbeats 4000000 in
theorem search_G (p : Sr.Prob ST) (ok : ST → Prop) (goal : ST → Bool) (pr : Value) (ga gb : Addr) (s0 : ST) (budget : Nat) (W0 : World) (hp : PrC p ok pr W0) (hb1 : 1 ≤ budget) (hb2 : budget ≤ 1048576) (hok : ok s0) (hgoal : ∀ (w : World) (s : ST), ok s → Below W0.heap.size W0 w → Calls Try.prog 64 #[pr, stV s] w fun e w' => e = .returned (.bool (goal s)) ∧ Below w.heap.size w w') (k : Nat) (out : Sr.Out ST)
    (hrun : Sr.run p goal budget k [⟨s0, [], 0, 0⟩] [] 1 = some out) :
    Calls Try.prog 33 #[.iface 59 pr, stV s0, .int .i64 (budget : Int), .func (.method "Goal") #[.iface 59 pr] #[]] W0 (SPost W0 out) := by
  show Calls Try.prog 33 #[.iface 59 pr, .string s0, .int .i64 (budget : Int), .func (.method "Goal") #[.iface 59 pr] #[]] W0 _
  have HS := Lib.hid (start_rel p ok goal budget W0 s0 out k hok hrun)
  have HP := Lib.hid hp
  have HG := Lib.hid hgoal
  have hmg := hp.mgoal
  clear hrun hp hok hgoal
  have hmm := @run_makeMap Try.prog
  have d1 : decide ((budget : Int) < 1) = false := decide_eq_false (by omega)
  have d2 : decide (1048576 < (budget : Int)) = false := decide_eq_false (by omega)
  go_enter Try.func33, Try.ntmps33
  go_wp2
  generalize W0.heap.size + 1 + 1 + 1 = M at HS ⊢
  generalize W0.heap.size + 1 + 1 = q at HS ⊢
  go_loopg [13, 14] k (fun kq vo va wr => SRelV p ok goal budget W0 q M out kq vo va wr)
  case atStart => exact ⟨[], [⟨s0, [], 0, 0⟩], 1, [W0.heap.size], _, rfl, rfl, HS.out⟩
  case round =>
    clear HS
    obtain ⟨order, L, added, l, vo, rfl, rfl, hrel⟩ := hrel
    cases gk with
    | zero => exact absurd hrel.2.2.2.2 (by simp [Sr.run])
    | succ k1 =>
    obtain ⟨⟨pe, bf, hsi⟩, hoks, hob, hadd, hrun⟩ := hrel
    obtain ⟨v, hq, hr⟩ := hsi.heap.ex
    obtain ⟨A, c, rfl⟩ := own_slice hr
    obtain ⟨Ao, co, rfl⟩ := own_slice hsi.ord
    have hqc := hq.cell
    have hlen := hsi.len
    have hlen2 := hsi.rise.length
    have HSI := Lib.hid hsi
    have HRUN := Lib.hid hrun
    have HOK := Lib.hid hoks
    have hl9 : (l.length : Int) < 1000000000 := by omega
    have HLEN := Lib.hid hlen
    clear hsi hrun hoks hq hr hlen
    by_cases hl : l.length = 0
    · have HPOST : SPost W0 out (.returned (.tuple #[.pointer none, (.slice Ao order.length co), .int .i64 4])) wr := by
        have hL : L = [] := List.eq_nil_of_length_eq_zero (by rw [← HLEN.out]; exact hl)
        have h1 := HRUN.out
        subst hL
        simp only [Sr.run, List.getElem?_nil, Option.some.injEq] at h1
        subst h1
        exact ⟨HSI.out.below, _, rfl, HSI.out.ord⟩
      rw [hl] at hqc
      have HP2 := Lib.hid HPOST
      clear HPOST hl hl9
      go_wp2_with (first | (go_at_call 39; refine (len_any _ _ _ _).mono ?_; rintro e w' ⟨rfl, rfl⟩))
      go_ret3
      exact HP2.out
    · obtain ⟨n, hn⟩ : ∃ n, l.length = n + 1 := ⟨l.length - 1, by omega⟩
      obtain ⟨b0, x, hx, hpop⟩ := pop_popped HSI.out hn (by omega)
      have HX := Lib.hid hx
      have HPOP := Lib.hid hpop
      have hpos : 0 < l.length := by omega
      have hta := S_assert
      have HN := Lib.hid hn
      have hokx : ok x.st := (HOK.out x (List.mem_of_getElem? hx)).1
      have HCX := Lib.hid (HOK.out x (List.mem_of_getElem? hx)).2
      clear hx hpop hn hl
      go_wp2_with (first | (go_at_call 39; refine (len_any _ _ _ _).mono ?_; rintro e w' ⟨rfl, rfl⟩) | (go_at_call 40; refine HPOP.out.mono ?_; rintro e w1 ⟨rfl, hp1⟩))
      have hc0 := hp1.c0
      have hmk := HP.out.mkey
      have hnk := HP.out.nkey
      simp only [stV] at hc0
      have HP1 := Lib.hid hp1
      clear hp1 hta hqc
      go_still_tail 8, (by kernel_rfl)
      have hp2 := HP1.out.step (Below.drew (Below.refl w1.heap.size w1))
      change wpList _ _ _ _ _ w1.drew
      clear HP1 HPOP
      generalize w1.drew = w2 at hp2 ⊢
      have HP2 := Lib.hid hp2
      clear hp2 hc0
      go_wp2_with fail
      refine (HP.out.key w2 x.st hokx HP2.out.below).mono ?_
      rintro e w3 ⟨rfl, hb3⟩
      have HP3 := Lib.hid (HP2.out.step hb3)
      have hlk := HP3.out.set.lookup (p.key x.st)
      rw [Sr.was_any] at hlk
      clear hb3 HP2 hmk hnk
      cases hw : Sr.was p order x.st with
      | true =>
        rw [hw] at hlk
        have HR := Lib.hid (Sr.run_was HX.out hw HRUN.out)
        clear hw
        go_wp2
        go_roundg k1
        case measure => omega
        case rel =>
          obtain ⟨pe2, bf2, l2, h1, _⟩ := HP3.out
          exact ⟨order, L.eraseIdx (Sr.minIdx L), added, l2, _, rfl, rfl, ⟨pe2, bf2, h1⟩, fun e he => HOK.out e ((List.eraseIdx_sublist ..).subset he), hob, hadd, HR.out⟩
      | false =>
        rw [hw] at hlk
        have HW := Lib.hid hw
        clear hw
        have hc3 := HP3.out.c0
        simp only [stV] at hc3
        go_wp2_with fail
        refine (HG.out w3 x.st hokx HP3.out.below).mono ?_
        rintro e w4 ⟨rfl, hb4⟩
        have HP4 := Lib.hid (HP3.out.step hb4)
        clear hb4 hc3 hlk HP3
        cases hg : goal x.st with
        | true =>
          have HPOST : SPost W0 out (.returned (.tuple #[.pointer (some ⟨b0, 0, none⟩), .slice Ao order.length co, .int .i64 0])) w4 := by
            rw [Sr.run_goal HX.out HW.out hg HRUN.out]
            obtain ⟨pe2, bf2, l2, h1, h2, h3, h4⟩ := HP4.out
            exact ⟨h1.below, b0, _, _, rfl, h3, by show stV (pe2 b0).st = _; rw [h2], by show (pe2 b0).cost = _; rw [h2], h4⟩
          have HPO := Lib.hid HPOST
          clear HPOST hg
          go_wp2
          go_ret3
          exact HPO.out
        | false =>
          have HGF := Lib.hid hg
          clear hg
          by_cases hbe : order.length = budget
          · have HPOST : SPost W0 out (.returned (.tuple #[.pointer none, .slice none 0 0, .int .i64 7])) w4 := by
              rw [Sr.run_budget HX.out HW.out HGF.out hbe HRUN.out]
              exact ⟨HP4.out.below, rfl⟩
            have HPO := Lib.hid HPOST
            have e1 : ((order.length : Int) == (budget : Int)) = true := by simp [hbe]
            have e2 : (order.length == budget) = true := by simp [hbe]
            clear HPOST hbe
            go_wp2
            go_ret3
            exact HPO.out
          · have HE := Lib.hid (Sr.run_expand HX.out HW.out HGF.out hbe HRUN.out)
            have e1 : ((order.length : Int) == (budget : Int)) = false := by rw [beq_eq_false_iff_ne]; omega
            have e2 : (order.length == budget) = false := by rw [beq_eq_false_iff_ne]; exact hbe
            have HBE : order.length < budget := by omega
            clear hbe
            obtain ⟨w5, hup, hset5, hg5⟩ := HP4.out.set.add (p.key x.st) (by rw [Sr.was_any]; exact HW.out)
            have HSET5 := Lib.hid hset5
            have HG5 := Lib.hid hg5
            have HM := Lib.hid (mark_c0 HP4.out hset5 hg5)
            have HORD : Hid (w5.ownsRow W0.heap.size 9 1 (.slice Ao order.length co) (order.map stV).length (order.map stV)) := by rw [List.length_map]; exact HM.out.2.1
            have hc5 := HM.out.1
            simp only [stV] at hc5
            clear hset5 hg5
            go_wp2_with (first | (at_builtin; go_loud (refine print_append (w0 := W0) (W := w5) W0.heap.size rfl (.tmp 66) (.tmp 71) 23 9 (.string ByteArray.empty) 16 rfl Try.underlying23 info_st rfl (by decide) (.slice Ao order.length co) (order.map stV) (stV x.st) rfl rfl rfl HORD.out HM.out.2.2 HM.out.2.2.size (by rw [List.length_map]; omega) ?_); intro v1 w6 hrow6 hB6 hg6 _; have HP6 := Lib.hid (mark_append HP4.out HSET5.out HG5.out (by simpa using hrow6) hB6 hg6); clear hrow6 hB6 hg6) | fail)
            have hc6 := HP6.out.c0
            simp only [stV] at hc6
            have hmn := HP.out.mnext
            have hnn := HP.out.nnext
            clear hc5 hup
            have hp7 := HP6.out.step (Below.drew (Below.refl w6.heap.size w6))
            clear HM HSET5 HG5 HP4
            have HP7 := Lib.hid hp7
            clear hp7
            refine start_ (n := 11) (S := fun w' => w'.cell? ⟨b0, 0, none⟩ = some (Value.string x.st)) (ds := [8]) #[false, false, false, false, false, false, false, false, false, false, false] (by kernel_rfl) rfl rfl hc6 (fun hHeld => ?_)
            generalize w6.drew = w7 at HP7 hHeld ⊢
            refine pure_ (i := 0) (N := (some 73)) (v := ?_) (a' := ?_) #[true, false, false, false, false, false, false, false, false, false, false] rfl rfl (by kernel_rfl) (fun _ _ _ h => h) (Or.inl ⟨by rfl, ?_⟩) ?_ ?_
            rotate_left
            · intro w'
              go_simp
              with_reducible rfl
            rotate_left
            · simp only [Act.put, List.setIfInBounds_toArray, List.set_cons_zero, List.set_cons_succ]
              rfl
            refine pure_ (i := 1) (N := (some 74)) (v := ?_) (a' := ?_) #[true, true, false, false, false, false, false, false, false, false, false] rfl rfl (by kernel_rfl) (fun _ _ _ h => h) (Or.inl ⟨by rfl, ?_⟩) ?_ ?_
            rotate_left
            · intro w'
              go_simp
              with_reducible rfl
            rotate_left
            · simp only [Act.put, List.setIfInBounds_toArray, List.set_cons_zero, List.set_cons_succ]
              rfl
            refine pure_ (i := 2) (N := (some 75)) (v := ?_) (a' := ?_) #[true, true, true, false, false, false, false, false, false, false, false] rfl rfl (by kernel_rfl) (fun _ _ _ h => h) (Or.inl ⟨by rfl, ?_⟩) ?_ ?_
            rotate_left
            · intro w'
              go_simp
              with_reducible rfl
            rotate_left
            · simp only [Act.put, List.setIfInBounds_toArray, List.set_cons_zero, List.set_cons_succ]
              rfl
            refine pure_ (i := 3) (N := (some 76)) (v := ?_) (a' := ?_) #[true, true, true, true, false, false, false, false, false, false, false] rfl rfl (by kernel_rfl) (fun _ _ _ h => h) (Or.inl ⟨by rfl, ?_⟩) ?_ ?_
            rotate_left
            · intro w'
              go_simp
              with_reducible rfl
            rotate_left
            · simp only [Act.put, List.setIfInBounds_toArray, List.set_cons_zero, List.set_cons_succ]
              rfl
            refine take_ (i := 4) (N := (some 77)) (v := ?_) (a' := ?_) #[true, true, true, true, true, false, false, false, false, false, false] rfl rfl (by kernel_rfl) (fun _ _ _ h => h) (Or.inl ⟨by rfl, ?_⟩) hHeld ?_ ?_
            rotate_left
            · rintro w' s0
              go_simp
              with_reducible rfl
            rotate_left
            · simp only [Act.put, List.setIfInBounds_toArray, List.set_cons_zero, List.set_cons_succ]
              rfl
            refine pure_ (i := 5) (N := (some 78)) (v := ?_) (a' := ?_) #[true, true, true, true, true, true, false, false, false, false, false] rfl rfl (by kernel_rfl) (fun _ _ _ h => h) (Or.inl ⟨by rfl, ?_⟩) ?_ ?_
            rotate_left
            · intro w'
              go_simp
              with_reducible rfl
            rotate_left
            · simp only [Act.put, List.setIfInBounds_toArray, List.set_cons_zero, List.set_cons_succ]
              rfl
            refine pure_ (i := 6) (N := (some 79)) (v := ?_) (a' := ?_) #[true, true, true, true, true, true, true, false, false, false, false] rfl rfl (by kernel_rfl) (fun _ _ _ h => h) (Or.inl ⟨by rfl, ?_⟩) ?_ ?_
            rotate_left
            · intro w'
              go_simp
              with_reducible rfl
            rotate_left
            · simp only [Act.put, List.setIfInBounds_toArray, List.set_cons_zero, List.set_cons_succ]
              rfl
            refine pure_ (i := 7) (N := (some 80)) (v := ?_) (a' := ?_) #[true, true, true, true, true, true, true, true, false, false, false] rfl rfl (by kernel_rfl) (fun _ _ _ h => h) (Or.inl ⟨by rfl, ?_⟩) ?_ ?_
            rotate_left
            · intro w'
              go_simp
              with_reducible rfl
            rotate_left
            · simp only [Act.put, List.setIfInBounds_toArray, List.set_cons_zero, List.set_cons_succ]
              rfl
            refine pure_ (i := 10) (N := (some 83)) (v := ?_) (a' := ?_) #[true, true, true, true, true, true, true, true, false, false, true] rfl rfl (by kernel_rfl) (fun _ _ _ h => h) (Or.inl ⟨by rfl, ?_⟩) ?_ ?_
            rotate_left
            · intro w'
              go_simp
              with_reducible rfl
            rotate_left
            · simp only [Act.put, List.setIfInBounds_toArray, List.set_cons_zero, List.set_cons_succ]
              rfl
            refine last_ (i := 8) (N := (some 81)) #[true, true, true, true, true, true, true, true, true, false, true] rfl rfl (by kernel_rfl) (by decide) (fun K hK => ?_)
            go_simp
            refine (HP.out.next w7 x.st hokx HP7.out.below).mono ?_
            rintro e w8 ⟨vs, rfl, hvs, hb8⟩
            obtain ⟨As, cs, rfl, hlc, hCs⟩ := Kd.R_reads hvs
            refine hK.out _ _ ?_
            clear hK K
            (try simp only [Act.put, List.setIfInBounds_toArray, List.set_cons_zero, List.set_cons_succ])
            refine pure_ (i := 9) (N := (some 82)) (v := ?_) (a' := ?_) #[true, true, true, true, true, true, true, true, true, true, true] rfl rfl (by kernel_rfl) (fun _ _ _ h => h) (Or.inl ⟨by rfl, ?_⟩) ?_ ?_
            rotate_left
            · intro w'
              go_simp
              with_reducible rfl
            rotate_left
            · simp only [Act.put, List.setIfInBounds_toArray, List.set_cons_zero, List.set_cons_succ]
              rfl
            refine done_ (by kernel_rfl) ?_
            clear hc6 hHeld
            have HP8 := Lib.hid (HP7.out.step hb8)
            have HVS := Lib.hid hvs
            have hfew := HP.out.few x.st
            have HNS := Lib.hid (show ∀ y ∈ p.next x.st, ok y.1 from fun y hy => HP.out.oks x.st y hokx hy)
            clear hvs hb8 hCs HP7 hmn hnn HP6
            go_wp2_with fail
            have HI0 : Hid (IRel p W0 q M (order ++ [x.st]) v1 b0 x (p.next x.st) (L.eraseIdx (Sr.minIdx L) ++ Sr.pushes x (p.next x.st) added) (added + (Sr.pushes x (p.next x.st) added).length) w8 (.int .i64 (added : Int)) (.int .i64 0) w8) :=
              ⟨0, _, added, rfl, Nat.zero_le _, rfl, HP8.out, rfl, rfl, Chg.refl _ _⟩
            have HAF := pushes_len x (p.next x.st) added
            have HAF2 : added + (Sr.pushes x (p.next x.st) added).length ≤ 200000000 := by omega
            obtain ⟨Lf, hLf⟩ : ∃ Lf, L.eraseIdx (Sr.minIdx L) ++ Sr.pushes x (p.next x.st) added = Lf := ⟨_, rfl⟩
            obtain ⟨addf, haddf⟩ : ∃ addf, added + (Sr.pushes x (p.next x.st) added).length = addf := ⟨_, rfl⟩
            have HLOK : Hid (∀ e ∈ Lf, ok e.st ∧ 0 ≤ e.cost ∧ e.cost ≤ Sr.maxCount) := by
              rw [← hLf]
              intro e he
              rcases List.mem_append.1 he with he | he
              · exact HOK.out e ((List.eraseIdx_sublist ..).subset he)
              · exact pushes_ok x HCX.out _ _ HNS.out e he
            have HADD2 : addf ≤ 1 + 100 * (order ++ [x.st]).length := by rw [← haddf]; simp; omega
            rw [hLf, haddf] at HE HI0
            rw [haddf] at HAF2
            have HADDF := Lib.hid HADD2
            clear hLf haddf HAF HADD2 hadd
            go_loopw [14, 83] (fun va vj wr2 => IRel p W0 q M (order ++ [x.st]) v1 b0 x (p.next x.st) Lf addf w8 va vj wr2) (fun _ vj _ => (p.next x.st).length - (intOf vj).toNat)
            case atStart => exact HI0.out
            case round =>
              clear HI0
              obtain ⟨j, Lc, addc, rfl, hj, rfl, hpc, hLc, haddc, hchg⟩ := hrel
              have hac : addc ≤ 200000000 := by omega
              have HPC := Lib.hid hpc
              have HLC := Lib.hid hLc
              have HADC := Lib.hid haddc
              have HCHG := Lib.hid hchg
              clear hpc hLc haddc hchg
              by_cases hlt : j < (p.next x.st).length
              · obtain ⟨y, hy⟩ : ∃ y, (p.next x.st)[j]? = some y := ⟨_, List.getElem?_eq_getElem hlt⟩
                obtain ⟨t, c⟩ := y
                obtain ⟨u, hqa⟩ := HP8.out.qat
                obtain ⟨ad, eA, hx0, hx1⟩ := at_step (Kd.R_reads' (steps_keep HVS.out hqa HCHG.out)).2.2 j hlt _ hy
                subst eA
                have hc2 := HPC.out.c2
                have hb0l := HPC.out.lt
                have HY := Lib.hid hy
                have hj0 : 0 ≤ (j : Int) := by omega
                have hjl : (j : Int) < ((p.next x.st).length : Int) := by omega
                simp only [stV] at hx0
                have hc0x := HCX.out.1
                have hc1x : x.cost ≤ 1099511627776 := HCX.out.2
                clear hqa hy
                by_cases hneg : c < 0
                · have g1 : decide (c < 0) = true := decide_eq_true hneg
                  have HSK := Lib.hid (pushes_skip x (t, c) ((p.next x.st).drop (j + 1)) addc (.inl hneg))
                  go_wp2_with fail
                  go_quiet (fail)
                  go_wp2
                  go_roundw
                  case rel => exact IRel.skip HY.out HPC.out HLC.out HADC.out HCHG.out HSK.out (below_new _ _ _)
                  case measure => simp [intOf]; omega
                · have g1 : decide (c < 0) = false := decide_eq_false hneg
                  have g2 : 0 ≤ c := by omega
                  by_cases hbig : 1099511627776 - x.cost < c
                  · have g3 : decide (1099511627776 - x.cost < c) = true := decide_eq_true hbig
                    have HSK := Lib.hid (pushes_skip x (t, c) ((p.next x.st).drop (j + 1)) addc (.inr hbig))
                    go_wp2_with fail
                    go_quiet (fail)
                    go_wp2
                    go_roundw
                    case rel => exact IRel.skip HY.out HPC.out HLC.out HADC.out HCHG.out HSK.out (below_new _ _ _)
                    case measure => simp [intOf]; omega
                  · have g3 : decide (1099511627776 - x.cost < c) = false := decide_eq_false hbig
                    have HSK := Lib.hid (pushes_take x (t, c) ((p.next x.st).drop (j + 1)) addc (by rintro (h | h); exact hneg h; exact hbig h))
                    go_wp2_with fail
                    go_quiet (fail)
                    go_wp2_with fail
                    have hs := new_cells wr (Value.string t) (.int .i64 c) 94 nq
                    have HC29 := Lib.hid ((Below.cell (below_new wr (.cells #[Value.string t, .int .i64 c] 94) nq) (p := ⟨b0, 2, none⟩) hb0l).trans hc2)
                    have HBA := Lib.hid (below_new wr (.cells #[Value.string t, .int .i64 c] 94) nq).drew
                    have HPA := Lib.hid (HPC.out.step HBA.out)
                    have HHS := Lib.hid hs
                    clear hs hx0 hx1 hc2
                    have hac2 : addc < 900000000 := by omega
                    have hwr : IntKind.i64.wrap (x.cost + c) = x.cost + c := by rw [i64_w]; unfold wrap64; omega
                    generalize (World.alloc wr (.cells #[Value.string t, .int .i64 c] 94)).drewN nq = W9 at HHS HC29 HBA HPA ⊢
                    refine start_ (n := 17) (S := fun w' => w'.cell? ⟨wr.heap.size, 0, none⟩ = some (Value.string t) ∧ w'.cell? ⟨b0, 2, none⟩ = some (.int .i64 x.cost) ∧ w'.cell? ⟨wr.heap.size, 1, none⟩ = some (.int .i64 c)) (ds := [14, 16]) #[false, false, false, false, false, false, false, false, false, false, false, false, false, false, false, false, false] (by kernel_rfl) rfl rfl ⟨HHS.out.1, HC29.out, HHS.out.2⟩ (fun hHeld => ?_)
                    clear HHS HC29
                    generalize W9.drew = WA at HBA HPA hHeld ⊢
                    refine pure_ (i := 0) (N := (some 100)) (v := ?_) (a' := ?_) #[true, false, false, false, false, false, false, false, false, false, false, false, false, false, false, false, false] rfl rfl (by kernel_rfl) (fun _ _ _ h => h) (Or.inl ⟨by rfl, ?_⟩) ?_ ?_
                    rotate_left
                    · intro w'
                      go_simp
                      with_reducible rfl
                    rotate_left
                    · simp only [Act.put, List.setIfInBounds_toArray, List.set_cons_zero, List.set_cons_succ]
                      rfl
                    refine pure_ (i := 1) (N := (some 101)) (v := ?_) (a' := ?_) #[true, true, false, false, false, false, false, false, false, false, false, false, false, false, false, false, false] rfl rfl (by kernel_rfl) (fun _ _ _ h => h) (Or.inl ⟨by rfl, ?_⟩) ?_ ?_
                    rotate_left
                    · intro w'
                      go_simp
                      with_reducible rfl
                    rotate_left
                    · simp only [Act.put, List.setIfInBounds_toArray, List.set_cons_zero, List.set_cons_succ]
                      rfl
                    refine pure_ (i := 2) (N := (some 102)) (v := ?_) (a' := ?_) #[true, true, true, false, false, false, false, false, false, false, false, false, false, false, false, false, false] rfl rfl (by kernel_rfl) (fun _ _ _ h => h) (Or.inl ⟨by rfl, ?_⟩) ?_ ?_
                    rotate_left
                    · intro w'
                      go_simp
                      with_reducible rfl
                    rotate_left
                    · simp only [Act.put, List.setIfInBounds_toArray, List.set_cons_zero, List.set_cons_succ]
                      rfl
                    refine take_ (i := 3) (N := (some 103)) (v := ?_) (a' := ?_) #[true, true, true, true, false, false, false, false, false, false, false, false, false, false, false, false, false] rfl rfl (by kernel_rfl) (fun _ _ _ h => h) (Or.inl ⟨by rfl, ?_⟩) hHeld ?_ ?_
                    rotate_left
                    · rintro w' ⟨s0, s1, s2⟩
                      go_simp
                      with_reducible rfl
                    rotate_left
                    · simp only [Act.put, List.setIfInBounds_toArray, List.set_cons_zero, List.set_cons_succ]
                      rfl
                    refine pure_ (i := 4) (N := (some 104)) (v := ?_) (a' := ?_) #[true, true, true, true, true, false, false, false, false, false, false, false, false, false, false, false, false] rfl rfl (by kernel_rfl) (fun _ _ _ h => h) (Or.inl ⟨by rfl, ?_⟩) ?_ ?_
                    rotate_left
                    · intro w'
                      go_simp
                      with_reducible rfl
                    rotate_left
                    · simp only [Act.put, List.setIfInBounds_toArray, List.set_cons_zero, List.set_cons_succ]
                      rfl
                    refine pure_ (i := 5) (N := (some 105)) (v := ?_) (a' := ?_) #[true, true, true, true, true, true, false, false, false, false, false, false, false, false, false, false, false] rfl rfl (by kernel_rfl) (fun _ _ _ h => h) (Or.inl ⟨by rfl, ?_⟩) ?_ ?_
                    rotate_left
                    · intro w'
                      go_simp
                      with_reducible rfl
                    rotate_left
                    · simp only [Act.put, List.setIfInBounds_toArray, List.set_cons_zero, List.set_cons_succ]
                      rfl
                    refine pure_ (i := 6) (N := (some 106)) (v := ?_) (a' := ?_) #[true, true, true, true, true, true, true, false, false, false, false, false, false, false, false, false, false] rfl rfl (by kernel_rfl) (fun _ _ _ h => h) (Or.inl ⟨by rfl, ?_⟩) ?_ ?_
                    rotate_left
                    · intro w'
                      go_simp
                      with_reducible rfl
                    rotate_left
                    · simp only [Act.put, List.setIfInBounds_toArray, List.set_cons_zero, List.set_cons_succ]
                      rfl
                    refine pure_ (i := 7) (N := (some 107)) (v := ?_) (a' := ?_) #[true, true, true, true, true, true, true, true, false, false, false, false, false, false, false, false, false] rfl rfl (by kernel_rfl) (fun _ _ _ h => h) (Or.inl ⟨by rfl, ?_⟩) ?_ ?_
                    rotate_left
                    · intro w'
                      go_simp
                      with_reducible rfl
                    rotate_left
                    · simp only [Act.put, List.setIfInBounds_toArray, List.set_cons_zero, List.set_cons_succ]
                      rfl
                    refine take_ (i := 8) (N := (some 108)) (v := ?_) (a' := ?_) #[true, true, true, true, true, true, true, true, true, false, false, false, false, false, false, false, false] rfl rfl (by kernel_rfl) (fun _ _ _ h => h) (Or.inl ⟨by rfl, ?_⟩) hHeld ?_ ?_
                    rotate_left
                    · rintro w' ⟨s0, s1, s2⟩
                      go_simp
                      with_reducible rfl
                    rotate_left
                    · simp only [Act.put, List.setIfInBounds_toArray, List.set_cons_zero, List.set_cons_succ]
                      rfl
                    refine pure_ (i := 9) (N := (some 109)) (v := ?_) (a' := ?_) #[true, true, true, true, true, true, true, true, true, true, false, false, false, false, false, false, false] rfl rfl (by kernel_rfl) (fun _ _ _ h => h) (Or.inl ⟨by rfl, ?_⟩) ?_ ?_
                    rotate_left
                    · intro w'
                      go_simp
                      with_reducible rfl
                    rotate_left
                    · simp only [Act.put, List.setIfInBounds_toArray, List.set_cons_zero, List.set_cons_succ]
                      rfl
                    refine take_ (i := 10) (N := (some 110)) (v := ?_) (a' := ?_) #[true, true, true, true, true, true, true, true, true, true, true, false, false, false, false, false, false] rfl rfl (by kernel_rfl) (fun _ _ _ h => h) (Or.inl ⟨by rfl, ?_⟩) hHeld ?_ ?_
                    rotate_left
                    · rintro w' ⟨s0, s1, s2⟩
                      go_simp
                      with_reducible rfl
                    rotate_left
                    · simp only [Act.put, List.setIfInBounds_toArray, List.set_cons_zero, List.set_cons_succ]
                      rfl
                    refine pure_ (i := 11) (N := (some 111)) (v := ?_) (a' := ?_) #[true, true, true, true, true, true, true, true, true, true, true, true, false, false, false, false, false] rfl rfl (by kernel_rfl) (fun _ _ _ h => h) (Or.inl ⟨by rfl, ?_⟩) ?_ ?_
                    rotate_left
                    · intro w'
                      go_simp
                      with_reducible rfl
                    rotate_left
                    · simp only [Act.put, List.setIfInBounds_toArray, List.set_cons_zero, List.set_cons_succ]
                      rfl
                    refine pure_ (i := 12) (N := (some 112)) (v := ?_) (a' := ?_) #[true, true, true, true, true, true, true, true, true, true, true, true, true, false, false, false, false] rfl rfl (by kernel_rfl) (fun _ _ _ h => h) (Or.inl ⟨by rfl, ?_⟩) ?_ ?_
                    rotate_left
                    · intro w'
                      go_simp
                      with_reducible rfl
                    rotate_left
                    · simp only [Act.put, List.setIfInBounds_toArray, List.set_cons_zero, List.set_cons_succ]
                      rfl
                    refine pure_ (i := 13) (N := (some 113)) (v := ?_) (a' := ?_) #[true, true, true, true, true, true, true, true, true, true, true, true, true, true, false, false, false] rfl rfl (by kernel_rfl) (fun _ _ _ h => h) (Or.inl ⟨by rfl, ?_⟩) ?_ ?_
                    rotate_left
                    · intro w'
                      go_simp
                      with_reducible rfl
                    rotate_left
                    · simp only [Act.put, List.setIfInBounds_toArray, List.set_cons_zero, List.set_cons_succ]
                      rfl
                    refine last_ (i := 14) (N := (some 114)) #[true, true, true, true, true, true, true, true, true, true, true, true, true, true, true, false, false] rfl rfl (by kernel_rfl) (by decide) (fun K hK => ?_)
                    go_simp
                    refine hK.out _ _ ?_
                    clear hK K
                    (try simp only [Act.put, List.setIfInBounds_toArray, List.set_cons_zero, List.set_cons_succ])
                    refine pure_ (i := 15) (N := (some 115)) (v := ?_) (a' := ?_) #[true, true, true, true, true, true, true, true, true, true, true, true, true, true, true, true, false] rfl rfl (by kernel_rfl) (fun _ _ _ h => h) (Or.inl ⟨by rfl, ?_⟩) ?_ ?_
                    rotate_left
                    · intro w'
                      go_simp
                      with_reducible rfl
                    rotate_left
                    · simp only [Act.put, List.setIfInBounds_toArray, List.set_cons_zero, List.set_cons_succ]
                      rfl
                    refine last_ (i := 16) (N := (some 116)) #[true, true, true, true, true, true, true, true, true, true, true, true, true, true, true, true, true] rfl rfl (by kernel_rfl) (by decide) (fun K hK => ?_)
                    go_simp
                    refine (push_popped HPA.out t c hac2).mono ?_
                    rintro e w10 ⟨rfl, hpp, hcp⟩
                    have HPP := Lib.hid hpp
                    have HCP := Lib.hid hcp
                    clear hpp hcp
                    refine hK.out _ _ ?_
                    clear hK K
                    (try simp only [Act.put, List.setIfInBounds_toArray, List.set_cons_zero, List.set_cons_succ])
                    refine done_ (by kernel_rfl) ?_
                    clear hwr hHeld
                    go_wp2_with fail
                    go_roundw
                    case rel => exact IRel.take HY.out HLC.out HADC.out HCHG.out HSK.out HBA.out HPP.out HCP.out
                    case measure => simp [intOf]; omega
              · obtain rfl : j = (p.next x.st).length := by omega
                have hL := HLC.out
                have hA := HADC.out
                rw [List.drop_length] at hL hA
                simp only [Sr.pushes, List.append_nil, List.length_nil, Nat.add_zero] at hL hA
                have HL := Lib.hid hL
                have HA := Lib.hid hA
                clear hL hA
                go_wp2_with fail
                go_roundg k1
                case measure => omega
                case rel =>
                  obtain ⟨pe2, bf2, l2, h1, _⟩ := HPC.out
                  rw [HL.out, HA.out] at h1
                  exact ⟨order ++ [x.st], Lf, addf, l2, _, by rw [HA.out], rfl, ⟨pe2, bf2, h1⟩, HLOK.out, by simp; omega, HADDF.out, HE.out⟩
end Go.Proofs.Ytipdejalohmkpaa.S

/- The search at a budget that is none. -/
namespace Go.Proofs.Ytipdejalohmkpaa.S
open Go.RowKit Hp Go.Proofs.YtipdejalohmkpaaW.PrintWords

set_option maxRecDepth 1000000 in
set_option maxHeartbeats 400000 in
theorem search_low (v0 v1 gv : Value) (budget : Int) (w : World) (h : budget < 1) :
    Calls Try.prog 33 #[v0, v1, .int .i64 budget, gv] w fun e w' => e = .returned (.tuple #[.pointer none, .slice none 0 0, .int .i64 1]) ∧ w = w' := by
  have d1 : decide (budget < 1) = true := decide_eq_true h
  go_enter Try.func33, Try.ntmps33
  go_wp2
  go_ret3
  exact ⟨rfl, rfl⟩
set_option maxRecDepth 1000000 in
set_option maxHeartbeats 400000 in
theorem search_high (v0 v1 gv : Value) (budget : Int) (w : World) (h : 1048576 < budget) :
    Calls Try.prog 33 #[v0, v1, .int .i64 budget, gv] w fun e w' => e = .returned (.tuple #[.pointer none, .slice none 0 0, .int .i64 1]) ∧ w = w' := by
  have d1 : decide (budget < 1) = false := decide_eq_false (by omega)
  have d2 : decide (1048576 < budget) = true := decide_eq_true h
  go_enter Try.func33, Try.ntmps33
  go_wp2
  go_ret3
  exact ⟨rfl, rfl⟩
theorem search_bad (v0 v1 gv : Value) (budget : Int) (w : World) (h : budget < 1 ∨ 1048576 < budget) :
    Calls Try.prog 33 #[v0, v1, .int .i64 budget, gv] w fun e w' => e = .returned (.tuple #[.pointer none, .slice none 0 0, .int .i64 1]) ∧ w = w' := by
  rcases h with h | h
  · exact search_low v0 v1 gv budget w h
  · exact search_high v0 v1 gv budget w h
end Go.Proofs.Ytipdejalohmkpaa.S

/- Search: the path, its cost, or the error. -/
namespace Go.Proofs.Ytipdejalohmkpaa.S
open Go.RowKit Hp Go.Proofs.YtipdejalohmkpaaW.PrintWords Go.Proofs.YtipdejalohmkpaaW.PrintLast

/-- What Search hands back. -/
def FnPost (W0 : World) (out : Sr.Out ST) (e : Ending) (w' : World) : Prop :=
  Below W0.heap.size W0 w' ∧ ∃ v : Value, match out with
  | .notFound _ => e = .returned (.tuple #[v, .int .i64 0, .int .i64 4]) ∧ v = .slice none 0 0
  | .budget _ => e = .returned (.tuple #[v, .int .i64 0, .int .i64 7]) ∧ v = .slice none 0 0
  | .found x _ => e = .returned (.tuple #[v, .int .i64 x.cost, .int .i64 0]) ∧ Kd.string.R 9 w' W0.heap.size (fun _ => True) v x.rp.reverse

set_option linter.unusedVariables false
set_option maxHeartbeats 1000000 in
theorem fsearch_any (p : Sr.Prob ST) (ok : ST → Prop) (goal : ST → Bool) (pr : Value) (s0 : ST) (budget : Nat) (W0 : World) (hp : PrC p ok pr W0) (hb1 : 1 ≤ budget) (hb2 : budget ≤ 1048576) (hok : ok s0)
    (hgoal : ∀ (w : World) (s : ST), ok s → Below W0.heap.size W0 w → Calls Try.prog 64 #[pr, stV s] w fun e w' => e = .returned (.bool (goal s)) ∧ Below w.heap.size w w') (k : Nat) (out : Sr.Out ST)
    (hrun : Sr.run p goal budget k [⟨s0, [], 0, 0⟩] [] 1 = some out) (hlen : ∀ x o, out = .found x o → x.rp.length < 1000000000) :
    Calls Try.prog 24 #[.iface 59 pr, stV s0, .int .i64 (budget : Int)] W0 (FnPost W0 out) := by
  show Calls Try.prog 24 #[.iface 59 pr, .string s0, .int .i64 (budget : Int)] W0 _
  have HC := Lib.hid (search_G p ok goal pr ⟨0, 0, none⟩ ⟨0, 0, none⟩ s0 budget W0 hp hb1 hb2 hok hgoal k out hrun)
  have HL := Lib.hid hlen
  clear hp hgoal hrun hlen
  cases out with
  | notFound order =>
    go_enter Try.func24, Try.ntmps24
    go_wp2_with (go_at_call 33; refine HC.out.mono ?_; rintro e w1 ⟨hb, vo, rfl, ho⟩; have HB := Lib.hid hb; clear hb ho)
    go_ret3
    exact ⟨HB.out, _, rfl, rfl⟩
  | budget order =>
    go_enter Try.func24, Try.ntmps24
    go_wp2_with (go_at_call 33; refine HC.out.mono ?_; rintro e w1 ⟨hb, rfl⟩; have HB := Lib.hid hb; clear hb)
    go_ret3
    exact ⟨HB.out, _, rfl, rfl⟩
  | found x order =>
    go_enter Try.func24, Try.ntmps24
    go_wp2_with fail
    refine HC.out.mono ?_
    rintro e w1 ⟨hb, b, vo, d, rfl, hent, hst, hcost, hpath⟩
    have hc2 := hent.c2
    rw [hcost] at hc2
    have HB := Lib.hid hb
    have HPATH := Lib.hid (show EPath w1 x.rp (some ⟨b, 0, none⟩) from ⟨b, d, rfl, hent, hst, hpath⟩)
    have HLT := Lib.hid hent.lt
    clear hb hent hst hcost hpath HC
    go_wp2_with fail
    have HPX := Lib.hid (show EPath w1.drew x.rp (some ⟨b, 0, none⟩) from HPATH.out.keep (EK.below (Below.drew (Below.refl _ _))))
    have HBX := Lib.hid (HB.out.drew)
    refine start_ (n := 9) (S := fun w' => w'.cell? ⟨b, 2, none⟩ = some (.int .i64 x.cost)) (ds := []) #[false, false, false, false, false, false, false, false, false] (by kernel_rfl) rfl rfl hc2 (fun hHeld => ?_)
    have HLX : Hid (b < w1.drew.heap.size) := HLT.out
    clear hc2 HB HPATH HLT
    generalize w1.drew = w2 at HPX HBX HLX hHeld ⊢
    refine pure_ (i := 0) (N := (some 26)) (v := ?_) (a' := ?_) #[true, false, false, false, false, false, false, false, false] rfl rfl (by kernel_rfl) (fun _ _ _ h => h) (Or.inl ⟨by rfl, ?_⟩) ?_ ?_
    rotate_left
    · intro w'
      go_simp
      with_reducible rfl
    rotate_left
    · simp only [Act.put, List.setIfInBounds_toArray, List.set_cons_zero, List.set_cons_succ]
      rfl
    refine pure_ (i := 2) (N := (some 28)) (v := ?_) (a' := ?_) #[true, false, true, false, false, false, false, false, false] rfl rfl (by kernel_rfl) (fun _ _ _ h => h) (Or.inl ⟨by rfl, ?_⟩) ?_ ?_
    rotate_left
    · intro w'
      go_simp
      with_reducible rfl
    rotate_left
    · simp only [Act.put, List.setIfInBounds_toArray, List.set_cons_zero, List.set_cons_succ]
      rfl
    refine pure_ (i := 3) (N := (some 29)) (v := ?_) (a' := ?_) #[true, false, true, true, false, false, false, false, false] rfl rfl (by kernel_rfl) (fun _ _ _ h => h) (Or.inl ⟨by rfl, ?_⟩) ?_ ?_
    rotate_left
    · intro w'
      go_simp
      with_reducible rfl
    rotate_left
    · simp only [Act.put, List.setIfInBounds_toArray, List.set_cons_zero, List.set_cons_succ]
      rfl
    refine pure_ (i := 4) (N := (some 30)) (v := ?_) (a' := ?_) #[true, false, true, true, true, false, false, false, false] rfl rfl (by kernel_rfl) (fun _ _ _ h => h) (Or.inl ⟨by rfl, ?_⟩) ?_ ?_
    rotate_left
    · intro w'
      go_simp
      with_reducible rfl
    rotate_left
    · simp only [Act.put, List.setIfInBounds_toArray, List.set_cons_zero, List.set_cons_succ]
      rfl
    refine take_ (i := 5) (N := (some 31)) (v := ?_) (a' := ?_) #[true, false, true, true, true, true, false, false, false] rfl rfl (by kernel_rfl) (fun _ _ _ h => h) (Or.inl ⟨by rfl, ?_⟩) hHeld ?_ ?_
    rotate_left
    · rintro w' s0
      go_simp
      with_reducible rfl
    rotate_left
    · simp only [Act.put, List.setIfInBounds_toArray, List.set_cons_zero, List.set_cons_succ]
      rfl
    refine one_ (i := 1) (N := (some 27)) #[true, true, true, true, true, true, false, false, false] rfl rfl (by kernel_rfl) (by decide) (fun K hK => ?_)
    go_simp
    refine (path_any w2 x.rp _ HPX.out (HL.out x order rfl)).mono ?_
    rintro e w3 ⟨v, rfl, hv, hb3⟩
    have HV := Lib.hid hv
    have HB3 := Lib.hid hb3
    clear hv hb3
    refine hK.out _ _ ((HB3.out.cell HLX.out).trans hHeld) (fun hHeld => ?_)
    clear hK K
    (try simp only [Act.put, List.setIfInBounds_toArray, List.set_cons_zero, List.set_cons_succ])
    refine pure_ (i := 6) (N := (some 6)) (v := ?_) (a' := ?_) #[true, true, true, true, true, true, true, false, false] rfl rfl (by kernel_rfl) (fun _ _ _ h => h) (Or.inl ⟨by rfl, ?_⟩) ?_ ?_
    rotate_left
    · intro w'
      go_simp
      with_reducible rfl
    rotate_left
    · simp only [Act.put, List.setIfInBounds_toArray, List.set_cons_zero, List.set_cons_succ]
      rfl
    refine pure_ (i := 7) (N := (some 7)) (v := ?_) (a' := ?_) #[true, true, true, true, true, true, true, true, false] rfl rfl (by kernel_rfl) (fun _ _ _ h => h) (Or.inl ⟨by rfl, ?_⟩) ?_ ?_
    rotate_left
    · intro w'
      go_simp
      with_reducible rfl
    rotate_left
    · simp only [Act.put, List.setIfInBounds_toArray, List.set_cons_zero, List.set_cons_succ]
      rfl
    refine pure_ (i := 8) (N := (some 8)) (v := ?_) (a' := ?_) #[true, true, true, true, true, true, true, true, true] rfl rfl (by kernel_rfl) (fun _ _ _ h => h) (Or.inl ⟨by rfl, ?_⟩) ?_ ?_
    rotate_left
    · intro w'
      go_simp
      with_reducible rfl
    rotate_left
    · simp only [Act.put, List.setIfInBounds_toArray, List.set_cons_zero, List.set_cons_succ]
      rfl
    refine done_ (by kernel_rfl) ?_
    go_wp2
    go_ret3
    exact ⟨HBX.out.trans (HB3.out.mono HBX.out.size), _, rfl, Kd.R_lower HV.out HBX.out.size⟩
end Go.Proofs.Ytipdejalohmkpaa.S

/- Next of the problem whose states are keys; the search over them. -/
namespace Go.Proofs.Ytipdejalohmkpaa.Gr
open Go.RowKit Go.Proofs.YtipdejalohmkpaaW.PrintWords Go.Proofs.YtipdejalohmkpaaW.PrintLast Go.Proofs.YtipdejalohmkpaaW.PrintMore PBestfirstDistances
set_option linter.unusedSimpArgs false
set_option linter.unusedVariables false
variable {g : Gph} {w : World} {A0 A1 A2 : Option Addr} {c0 c1 c2 : Nat}
/-- Steps to keys. -/
def wsteps (g : Gph) (l : List S51) : List (ByteArray × Int) := l.map fun x => (g.key x.f0, x.f1)
theorem info94 : (Try.prog.info? 94).map (fun i => (i.zero, i.size, i.bytes)) = some (some (.agg #[.string ByteArray.empty, .int .i64 0]), 2, 24) := by kernel_rfl
def WnRel (g : Gph) (l : List S51) (W1 : World) (v5 v15 : Value) (wr : World) : Prop :=
  ∃ k : Nat, k ≤ l.length ∧ v15 = .int .i64 k ∧ S.kst.R 94 wr W1.heap.size (fun _ => True) v5 (wsteps g (l.take k)) ∧ Below W1.heap.size W1 wr
theorem keepw {w w' : World} {a : Addr} {v : Value} (hb : Below w.heap.size w w') (h : w.cell? a = some v) : w'.cell? a = some v := (hb.cell (World.block_lt_of_cell? w _ h)).trans h
set_option maxRecDepth 1000000 in
set_option maxHeartbeats 4000000 in
theorem wnext_any (h : GAt g w A0 c0 A1 c1 A2 c2) (hl : g.large = false) (key : ByteArray) :
    Calls Try.prog 66 #[.agg #[.slice A0 g.E.length c0, .slice A1 g.K.length c1, .slice A2 g.Gs.length c2], .string key] w fun e w' => ∃ v : Value, e = .returned v ∧ S.kst.R 94 w' w.heap.size (fun _ => True) v (wsteps g (g.next (g.st key))) ∧ Below w.heap.size w w' := by
  have HL := Lib.hid hl
  have HA := Lib.hid (Below.drew (show Below w.heap.size w (w.alloc (.cells #[.slice A0 g.E.length c0, .slice A1 g.K.length c1, .slice A2 g.Gs.length c2] 59)) from (Below.refl _ _).alloc (Nat.le_refl _) _))
  have HB0 := Lib.hid ((WB.make h).below (Below.drew (Below.refl _ _)))
  have HNX := Lib.hid (next_len g hl (g.st key))
  have HBD := Lib.hid (fun x (hx : x ∈ g.next (g.st key)) => show x.f0 ≤ 9223372036854775807 by have := has_iff.1 (next_has hx); have := len12 hl; omega)
  clear h hl
  obtain ⟨q0, q1, q2⟩ := HB0.out.cells
  go_enter Try.func66, Try.ntmps66
  go_wp2
  refine start_ (n := 8) (S := fun w' => w'.cell? ⟨w.heap.size, 0, none⟩ = some (.slice A0 g.E.length c0) ∧ w'.cell? ⟨w.heap.size, 1, none⟩ = some (.slice A1 g.K.length c1) ∧ w'.cell? ⟨w.heap.size, 2, none⟩ = some (.slice A2 g.Gs.length c2)) (ds := [5]) #[false, false, false, false, false, false, false, false] (by kernel_rfl) rfl rfl ⟨q0, q1, q2⟩ (fun hHeld => ?_)
  clear q0 q1 q2
  generalize (w.alloc (.cells #[.slice A0 g.E.length c0, .slice A1 g.K.length c1, .slice A2 g.Gs.length c2] 59)).drew = w1 at HA HB0 hHeld ⊢
  refine pure_ (i := 0) (N := (some 8)) (v := ?_) (a' := ?_) #[true, false, false, false, false, false, false, false] rfl rfl (by kernel_rfl) (fun _ _ _ h => h) (Or.inl ⟨by rfl, ?_⟩) ?_ ?_
  rotate_left
  · intro w'
    go_simp
    with_reducible rfl
  rotate_left
  · simp only [Act.put, List.setIfInBounds_toArray, List.set_cons_zero, List.set_cons_succ]
    rfl
  refine take_ (i := 1) (N := (some 9)) (v := ?_) (a' := ?_) #[true, true, false, false, false, false, false, false] rfl rfl (by kernel_rfl) (fun _ _ _ h => h) (Or.inl ⟨by rfl, ?_⟩) hHeld ?_ ?_
  rotate_left
  · rintro w' ⟨s0, s1, s2⟩
    go_simp
    with_reducible rfl
  rotate_left
  · simp only [Act.put, List.setIfInBounds_toArray, List.set_cons_zero, List.set_cons_succ]
    rfl
  refine take_ (i := 2) (N := (some 10)) (v := ?_) (a' := ?_) #[true, true, true, false, false, false, false, false] rfl rfl (by kernel_rfl) (fun _ _ _ h => h) (Or.inl ⟨by rfl, ?_⟩) hHeld ?_ ?_
  rotate_left
  · rintro w' ⟨s0, s1, s2⟩
    go_simp
    with_reducible rfl
  rotate_left
  · simp only [Act.put, List.setIfInBounds_toArray, List.set_cons_zero, List.set_cons_succ]
    rfl
  refine pure_ (i := 3) (N := (some 11)) (v := ?_) (a' := ?_) #[true, true, true, true, false, false, false, false] rfl rfl (by kernel_rfl) (fun _ _ _ h => h) (Or.inl ⟨by rfl, ?_⟩) ?_ ?_
  rotate_left
  · intro w'
    go_simp
    with_reducible rfl
  rotate_left
  · simp only [Act.put, List.setIfInBounds_toArray, List.set_cons_zero, List.set_cons_succ]
    rfl
  refine pure_ (i := 7) (N := (some 15)) (v := ?_) (a' := ?_) #[true, true, true, true, false, false, false, true] rfl rfl (by kernel_rfl) (fun _ _ _ h => h) (Or.inl ⟨by rfl, ?_⟩) ?_ ?_
  rotate_left
  · intro w'
    go_simp
    with_reducible rfl
  rotate_left
  · simp only [Act.put, List.setIfInBounds_toArray, List.set_cons_zero, List.set_cons_succ]
    rfl
  refine one_ (i := 4) (N := (some 12)) #[true, true, true, true, true, false, false, true] rfl rfl (by kernel_rfl) (by decide) (fun K hK => ?_)
  go_simp
  refine (wstate_any HB0.out.at_ HL.out key).mono ?_
  rintro en w7 ⟨rfl, hb7⟩
  have HB7 := Lib.hid (HB0.out.below hb7)
  have HA7 := Lib.hid (below_then HA.out HA.out.size hb7)
  clear hb7
  refine hK.out _ _ HB7.out.cells (fun hHeld => ?_)
  clear hK K
  (try simp only [Act.put, List.setIfInBounds_toArray, List.set_cons_zero, List.set_cons_succ])
  refine last_ (i := 5) (N := (some 13)) #[true, true, true, true, true, true, false, true] rfl rfl (by kernel_rfl) (by decide) (fun K hK => ?_)
  go_simp
  refine (gnext_any HB7.out.at_ HL.out _).mono ?_
  rintro en w8 ⟨v, rfl, hv, hb8⟩
  obtain ⟨An, cn, rfl, hlc, hC⟩ := Kd.R_reads hv
  have HB8 := Lib.hid (HB7.out.below hb8)
  have HA8 := Lib.hid (below_then HA7.out HA7.out.size hb8)
  have HC := Lib.hid hC
  clear hb8 hv hlc hC
  refine hK.out _ _ ?_
  clear hK K
  (try simp only [Act.put, List.setIfInBounds_toArray, List.set_cons_zero, List.set_cons_succ])
  refine pure_ (i := 6) (N := (some 14)) (v := ?_) (a' := ?_) #[true, true, true, true, true, true, true, true] rfl rfl (by kernel_rfl) (fun _ _ _ h => h) (Or.inl ⟨by rfl, ?_⟩) ?_ ?_
  rotate_left
  · intro w'
    go_simp
    with_reducible rfl
  rotate_left
  · simp only [Act.put, List.setIfInBounds_toArray, List.set_cons_zero, List.set_cons_succ]
    rfl
  refine done_ (by kernel_rfl) ?_
  clear hHeld HB7 HA7 HB0 HA
  have HNX2 : Hid ((g.next (stateFrom g key g.E.length 0)).length ≤ 8) := HNX
  have HEQ : Hid (g.next (g.st key) = g.next (stateFrom g key g.E.length 0)) := Lib.hid rfl
  have HBD2 : Hid (∀ x ∈ g.next (stateFrom g key g.E.length 0), x.f0 ≤ 9223372036854775807) := HBD
  clear HNX HBD
  generalize g.next (stateFrom g key g.E.length 0) = nx at HC HNX2 HEQ HBD2 ⊢
  go_wp2
  go_loopw [5, 15] (fun v5 v15 wr => WnRel g nx w8 v5 v15 wr) (fun _ v15 _ => nx.length - (intOf v15).toNat)
  case atStart => exact ⟨0, Nat.zero_le _, rfl, Kd.R_nil _ _ _ _ _, Below.refl _ _⟩
  case round =>
    obtain ⟨k, hk, rfl, hR, hB⟩ := hrel
    have HR := Lib.hid hR
    have HBr := Lib.hid hB
    clear hR hB
    have hm := HC.out.2.1
    by_cases hlt : k < nx.length
    · obtain ⟨ad, rfl, hx0, hx1⟩ := at_T51 HC.out (k : Int) (by omega) (by omega)
      have hrd : rd_T51 nx (k : Int) = nx[k] := by simp [rd_T51, hlt]
      rw [hrd, Int.toNat_natCast] at hx0 hx1
      replace hx0 := keepw HBr.out hx0
      replace hx1 := keepw HBr.out hx1
      clear hrd
      have hi0 : 0 ≤ (k : Int) := by omega
      have hi1 : (k : Int) < (nx.length : Int) := by omega
      have HTK := Lib.hid (show wsteps g (nx.take k) ++ [(g.key nx[k].f0, nx[k].f1)] = wsteps g (nx.take (k + 1)) by
        unfold wsteps; rw [List.take_succ_eq_append_getElem hlt, List.map_append]; rfl)
      have HLN := Lib.hid (show (wsteps g (nx.take k)).length < 1000000 by
        have := HNX2.out
        simp [wsteps]; omega)
      have HX0 := Lib.hid (HBD2.out nx[k] (List.getElem_mem hlt))
      obtain ⟨x0, ex0⟩ : ∃ x, nx[k].f0 = x := ⟨_, rfl⟩
      obtain ⟨x1, ex1⟩ : ∃ x, nx[k].f1 = x := ⟨_, rfl⟩
      rw [ex0, ex1] at HTK
      rw [ex0] at HX0
      rw [ex0] at hx0
      rw [ex1] at hx1
      clear ex0 ex1
      have HGw := Lib.hid (HB8.out.below HBr.out)
      go_wp2
      have HNC := Lib.hid (show ((wr.alloc (.cells #[.int .i64 x0, .int .i64 x1] 51)).drew.cell? ⟨wr.heap.size, 0, none⟩ = some (.int .i64 x0)) ∧ ((wr.alloc (.cells #[.int .i64 x0, .int .i64 x1] 51)).drew.cell? ⟨wr.heap.size, 1, none⟩ = some (.int .i64 x1)) from ⟨by simp, by simp⟩)
      have HBN := Lib.hid (Below.drew ((Below.refl wr.heap.size wr).alloc (Nat.le_refl _) (.cells #[.int .i64 x0, .int .i64 x1] 51)))
      have HGN := Lib.hid (HGw.out.below HBN.out)
      have HRN := Lib.hid (Kd.R_below HR.out HBN.out)
      have HBrN := Lib.hid (below_then HBr.out HBr.out.size HBN.out)
      obtain ⟨q0, q1, q2⟩ := HGN.out.cells
      clear hx0 hx1 HR HGw
      refine start_ (n := 12) (S := fun w' => w'.cell? ⟨w.heap.size, 0, none⟩ = some (.slice A0 g.E.length c0) ∧ w'.cell? ⟨w.heap.size, 1, none⟩ = some (.slice A1 g.K.length c1) ∧ w'.cell? ⟨w.heap.size, 2, none⟩ = some (.slice A2 g.Gs.length c2) ∧ w'.cell? ⟨wr.heap.size, 0, none⟩ = some (.int .i64 x0) ∧ w'.cell? ⟨wr.heap.size, 1, none⟩ = some (.int .i64 x1)) (ds := [9, 10]) #[false, false, false, false, false, false, false, false, false, false, false, false] (by kernel_rfl) rfl rfl ⟨q0, q1, q2, HNC.out.1, HNC.out.2⟩ (fun hHeld => ?_)
      clear q0 q1 q2 HNC
      generalize (wr.alloc (.cells #[.int .i64 x0, .int .i64 x1] 51)).drew = w10 at HBN HGN HRN HBrN hHeld ⊢
      refine pure_ (i := 0) (N := (some 19)) (v := ?_) (a' := ?_) #[true, false, false, false, false, false, false, false, false, false, false, false] rfl rfl (by kernel_rfl) (fun _ _ _ h => h) (Or.inl ⟨by rfl, ?_⟩) ?_ ?_
      rotate_left
      · intro w'
        go_simp
        with_reducible rfl
      rotate_left
      · simp only [Act.put, List.setIfInBounds_toArray, List.set_cons_zero, List.set_cons_succ]
        rfl
      refine pure_ (i := 1) (N := (some 20)) (v := ?_) (a' := ?_) #[true, true, false, false, false, false, false, false, false, false, false, false] rfl rfl (by kernel_rfl) (fun _ _ _ h => h) (Or.inl ⟨by rfl, ?_⟩) ?_ ?_
      rotate_left
      · intro w'
        go_simp
        with_reducible rfl
      rotate_left
      · simp only [Act.put, List.setIfInBounds_toArray, List.set_cons_zero, List.set_cons_succ]
        rfl
      refine take_ (i := 2) (N := (some 21)) (v := ?_) (a' := ?_) #[true, true, true, false, false, false, false, false, false, false, false, false] rfl rfl (by kernel_rfl) (fun _ _ _ h => h) (Or.inl ⟨by rfl, ?_⟩) hHeld ?_ ?_
      rotate_left
      · rintro w' ⟨s0, s1, s2, s3, s4⟩
        go_simp
        with_reducible rfl
      rotate_left
      · simp only [Act.put, List.setIfInBounds_toArray, List.set_cons_zero, List.set_cons_succ]
        rfl
      refine pure_ (i := 3) (N := (some 22)) (v := ?_) (a' := ?_) #[true, true, true, true, false, false, false, false, false, false, false, false] rfl rfl (by kernel_rfl) (fun _ _ _ h => h) (Or.inl ⟨by rfl, ?_⟩) ?_ ?_
      rotate_left
      · intro w'
        go_simp
        with_reducible rfl
      rotate_left
      · simp only [Act.put, List.setIfInBounds_toArray, List.set_cons_zero, List.set_cons_succ]
        rfl
      refine take_ (i := 4) (N := (some 23)) (v := ?_) (a' := ?_) #[true, true, true, true, true, false, false, false, false, false, false, false] rfl rfl (by kernel_rfl) (fun _ _ _ h => h) (Or.inl ⟨by rfl, ?_⟩) hHeld ?_ ?_
      rotate_left
      · rintro w' ⟨s0, s1, s2, s3, s4⟩
        go_simp
        with_reducible rfl
      rotate_left
      · simp only [Act.put, List.setIfInBounds_toArray, List.set_cons_zero, List.set_cons_succ]
        rfl
      refine pure_ (i := 6) (N := (some 25)) (v := ?_) (a' := ?_) #[true, true, true, true, true, false, true, false, false, false, false, false] rfl rfl (by kernel_rfl) (fun _ _ _ h => h) (Or.inl ⟨by rfl, ?_⟩) ?_ ?_
      rotate_left
      · intro w'
        go_simp
        with_reducible rfl
      rotate_left
      · simp only [Act.put, List.setIfInBounds_toArray, List.set_cons_zero, List.set_cons_succ]
        rfl
      refine take_ (i := 7) (N := (some 26)) (v := ?_) (a' := ?_) #[true, true, true, true, true, false, true, true, false, false, false, false] rfl rfl (by kernel_rfl) (fun _ _ _ h => h) (Or.inl ⟨by rfl, ?_⟩) hHeld ?_ ?_
      rotate_left
      · rintro w' ⟨s0, s1, s2, s3, s4⟩
        go_simp
        with_reducible rfl
      rotate_left
      · simp only [Act.put, List.setIfInBounds_toArray, List.set_cons_zero, List.set_cons_succ]
        rfl
      refine one_ (i := 5) (N := (some 24)) #[true, true, true, true, true, true, true, true, false, false, false, false] rfl rfl (by kernel_rfl) (by decide) (fun K hK => ?_)
      go_simp
      refine (gkey_any HGN.out.at_ x0 HX0.out).mono ?_
      rintro en w11 ⟨rfl, hb11⟩
      have HB11 := Lib.hid hb11
      clear hb11
      refine hK.out _ _ ⟨keepw HB11.out hHeld.1, keepw HB11.out hHeld.2.1, keepw HB11.out hHeld.2.2.1, keepw HB11.out hHeld.2.2.2.1, keepw HB11.out hHeld.2.2.2.2⟩ (fun hHeld => ?_)
      clear hK K
      (try simp only [Act.put, List.setIfInBounds_toArray, List.set_cons_zero, List.set_cons_succ])
      refine pure_ (i := 8) (N := (some 27)) (v := ?_) (a' := ?_) #[true, true, true, true, true, true, true, true, true, false, false, false] rfl rfl (by kernel_rfl) (fun _ _ _ h => h) (Or.inl ⟨by rfl, ?_⟩) ?_ ?_
      rotate_left
      · intro w'
        go_simp
        with_reducible rfl
      rotate_left
      · simp only [Act.put, List.setIfInBounds_toArray, List.set_cons_zero, List.set_cons_succ]
        rfl
      refine last_ (i := 9) (N := (some 28)) #[true, true, true, true, true, true, true, true, true, true, false, false] rfl rfl (by kernel_rfl) (by decide) (fun K hK => ?_)
      go_simp
      refine hK.out _ _ ?_
      clear hK K
      (try simp only [Act.put, List.setIfInBounds_toArray, List.set_cons_zero, List.set_cons_succ])
      refine last_ (i := 10) (N := (some 29)) #[true, true, true, true, true, true, true, true, true, true, true, false] rfl rfl (by kernel_rfl) (by decide) (fun K hK => ?_)
      refine Kd.R_append_step S.kst (w0 := w8) w8.heap.size rfl (.tmp 19) (.tmp 28) 91 94 _ 24 rfl Try.underlying91 info94 rfl (by decide) (by decide) _ (wsteps g (nx.take k)) (g.key x0, x1) [.string (g.key x0), .int .i64 x1] (fun _ => True) (fun _ => False) rfl (by simp [Act.eval]) ⟨_, _, rfl, rfl, rfl⟩ (fun _ h => h.elim) (fun _ _ => trivial) (Kd.R_below HRN.out HB11.out) (below_then HBrN.out HBrN.out.size HB11.out) (Nat.le_trans HBrN.out.size HB11.out.size) (by have := HLN.out; omega) ?_
      intro v12 w12 hR12 hB12 _ _
      have HP := Lib.hid (show WnRel g nx w8 v12 (.int .i64 ((k + 1 : Nat) : Int)) w12 from ⟨k + 1, by omega, rfl, by rw [← HTK.out]; exact hR12, hB12⟩)
      clear hR12 hB12
      refine hK.out _ _ ?_
      clear hK K
      (try simp only [Act.put, List.setIfInBounds_toArray, List.set_cons_zero, List.set_cons_succ])
      refine pure_ (i := 11) (N := (some 5)) (v := ?_) (a' := ?_) #[true, true, true, true, true, true, true, true, true, true, true, true] rfl rfl (by kernel_rfl) (fun _ _ _ h => h) (Or.inl ⟨by rfl, ?_⟩) ?_ ?_
      rotate_left
      · intro w'
        go_simp
        with_reducible rfl
      rotate_left
      · simp only [Act.put, List.setIfInBounds_toArray, List.set_cons_zero, List.set_cons_succ]
        rfl
      refine done_ (by kernel_rfl) ?_
      clear hHeld
      go_wp2
      go_roundw
      case rel => exact HP.out
      case measure => simp [intOf]; omega
    · obtain rfl : k = nx.length := by omega
      rw [List.take_length] at HR
      go_wp2
      go_ret
      exact ⟨_, rfl, by rw [HEQ.out]; exact Kd.R_lower HR.out HA8.out.size, HA8.out.trans (HBr.out.mono HA8.out.size)⟩
set_option maxHeartbeats 400000 in
theorem wsearch_bad (v1 : Value) (pr : Value) (budget : Int) (w : World) (h : budget < 1 ∨ 1048576 < budget) :
    Calls Try.prog 24 #[.iface 59 pr, v1, .int .i64 budget] w fun e w' => e = .returned (.tuple #[.slice none 0 0, .int .i64 0, .int .i64 1]) ∧ w = w' := by
  go_enter Try.func24, Try.ntmps24
  go_wp2_with (go_at_call 33; refine (S.search_bad _ _ _ budget _ h).mono ?_; rintro e w' ⟨rfl, rfl⟩)
  go_ret3
  exact ⟨rfl, rfl⟩
theorem wfew (g : Gph) (hl : g.large = false) (key : ByteArray) : (g.wprob.next key).length ≤ 100 := by
  have := next_len g hl (g.st key)
  simp [Gph.wprob]; omega
theorem wprc (h : GAt g w A0 c0 A1 c1 A2 c2) (hl : g.large = false) : S.PrC g.wprob (fun _ => True) (agg3 g A0 c0 A1 c1 A2 c2) w where
  key w' s _ hb := wkey_any s
  next w' s _ hb := wnext_any (h.below hb) hl s
  few s := wfew g hl s
  oks _ _ _ _ := trivial
  mkey w' := by kernel_rfl
  mnext w' := by kernel_rfl
  nkey w' := by kernel_rfl
  nnext w' := by kernel_rfl
  mgoal w' := by kernel_rfl
theorem wsearch_is (h : GAt g w A0 c0 A1 c1 A2 c2) (hl : g.large = false) (hp : g.plain = true) (s : Int) (hs : g.has s = true) (budget : Int) (l : List Int) (c e : Int) (hr : sres g s budget = (l, c, e)) :
    Calls Try.prog 24 #[.iface 59 (agg3 g A0 c0 A1 c1 A2 c2), .string (g.key s), .int .i64 budget] w fun en w' =>
      ∃ v : Value, en = .returned (.tuple #[v, .int .i64 c, .int .i64 e]) ∧ Kd.string.R 9 w' w.heap.size (fun _ => True) v (l.map g.key) ∧ Below w.heap.size w w' := by
  unfold sres at hr
  by_cases hb : budget < 1 ∨ 1048576 < budget
  · rw [if_pos hb] at hr
    cases hr
    refine (wsearch_bad _ _ budget w hb).mono ?_
    rintro en w' ⟨rfl, rfl⟩
    exact ⟨_, rfl, Kd.R_nil _ _ _ _ _, Below.refl _ _⟩
  · rw [if_neg hb] at hr
    have hrun := out_words hl hp hs budget.toNat
    have HC := S.fsearch_any g.wprob (fun _ => True) (fun t => g.goal (g.st t)) (agg3 g A0 c0 A1 c1 A2 c2) (g.key s) budget.toNat w (wprc h hl) (by omega) (by omega) trivial (fun w' t _ hw => wgoal_any (h.below hw) hl t) 200 _ hrun (fun x o e => by
      have h1 := Sr.run_len g.wprob (fun t => g.goal (g.st t)) budget.toNat 200 [⟨g.key s, [], 0, 0⟩] [] 1 x o (by simp) (by simp) (by rw [hrun, e])
      omega)
    rw [show ((budget.toNat : Nat) : Int) = budget by omega] at HC
    refine HC.mono ?_
    rintro en w' ⟨hbw, v, hv⟩
    generalize g.out g.goal budget.toNat s = out at hr hv
    cases out with
    | notFound o => cases hr; obtain ⟨rfl, rfl⟩ := hv; exact ⟨_, rfl, Kd.R_nil _ _ _ _ _, hbw⟩
    | budget o => cases hr; obtain ⟨rfl, rfl⟩ := hv; exact ⟨_, rfl, Kd.R_nil _ _ _ _ _, hbw⟩
    | found x o =>
      cases hr
      obtain ⟨rfl, hR⟩ := hv
      refine ⟨_, rfl, ?_, hbw⟩
      rw [List.map_reverse]
      exact hR
end Go.Proofs.Ytipdejalohmkpaa.Gr

/- States of any type are searched alike: the statement's function answers true. -/
namespace Go.Proofs.Ytipdejalohmkpaa.Gr
open Go.RowKit Go.Proofs.YtipdejalohmkpaaW.PrintWords Go.Proofs.YtipdejalohmkpaaW.PrintLast Go.Proofs.YtipdejalohmkpaaW.PrintMore PBestfirstDistances
set_option linter.unusedSimpArgs false
set_option linter.unusedVariables false
variable {g : Gph} {w : World} {A0 A1 A2 : Option Addr} {c0 c1 c2 : Nat}
theorem slen (g : Gph) (hl : g.large = false) (s b : Int) (hs : g.has s = true) : (sres g s b).1.length < 1000000000 := by
  unfold sres
  split
  · simp
  · rename_i hb
    have h := out_run g hl g.goal b.toNat s hs
    cases e : g.out g.goal b.toNat s with
    | notFound o => simp
    | budget o => simp
    | found x o =>
      have := Sr.run_len g.prob g.goal b.toNat 200 [⟨s, [], 0, 0⟩] [] 1 x o (by simp) (by simp) (by rw [h, e])
      simp; omega
theorem spath (g : Gph) (hl : g.large = false) (hp : g.plain = true) (s b : Int) (hs : g.has s = true) (p : List Int) (c e : Int) (hr : sres g s b = (p, c, e)) : ∀ i : Nat, i < p.length → rd p (i : Int) ≤ 9223372036854775807 := by
  have h12 := len12 hl
  have key : ∀ t ∈ p, g.has t = true := by
    unfold sres at hr
    split at hr
    · cases hr; simp
    · rename_i hb
      have h := best_out hl hp hs g.goal b.toNat
      generalize g.out g.goal b.toNat s = out at hr h
      cases out with
      | notFound o => cases hr; simp
      | budget o => cases hr; simp
      | found x o =>
        cases hr
        intro t ht
        obtain ⟨hw, _⟩ := h
        exact mem_dom.1 (hw.dom (mem_dom.2 hs) (dom_closed g) t (List.mem_reverse.1 ht))
  intro i hi
  have h1 := has_iff.1 (key (p[i]) (List.getElem_mem hi))
  have : rd p (i : Int) = p[i] := by simp [rd, hi]
  omega
set_option maxRecDepth 1000000 in
set_option maxHeartbeats 4000000 in
theorem glaw_out (h : GAt g w A0 c0 A1 c1 A2 c2) (s b : Int) (hg : g.large = true ∨ g.has s = false ∨ g.plain = false) :
    Calls Try.prog 10 #[.agg #[.slice A0 g.E.length c0, .slice A1 g.K.length c1, .slice A2 g.Gs.length c2], .int .i64 s, .int .i64 b] w fun e w' => e = .returned (.bool true) ∧ Below w.heap.size w w' := by
  have HA := Lib.hid (show Below w.heap.size w (w.alloc (.cells #[.slice A0 g.E.length c0, .slice A1 g.K.length c1, .slice A2 g.Gs.length c2] 26)) from (Below.refl _ _).alloc (Nat.le_refl _) _)
  have HGB := Lib.hid (GB.make h)
  clear h
  go_enter Try.func10, Try.ntmps10
  go_wp2_with fail
  refine (awake_any _).mono ?_
  rintro e w1 ⟨rfl, hb1⟩
  have HGB1 := Lib.hid (HGB.out.below hb1)
  have HA1 := Lib.hid (below_then HA.out HA.out.size hb1)
  obtain ⟨q0, q1, q2⟩ := HGB1.out.cells
  clear hb1 HGB
  go_wp2_with fail
  cases hl : g.large with
  | true =>
    refine (glarge_is HGB1.out.at_ true hl).mono ?_
    rintro e w2 ⟨rfl, hb2⟩
    have HA2 := Lib.hid (below_then HA1.out HA1.out.size hb2)
    clear hb2 q0 q1 q2 hg hl
    go_wp2
    go_ret
    exact ⟨rfl, HA2.out⟩
  | false =>
    refine (glarge_is HGB1.out.at_ false hl).mono ?_
    rintro e w2 ⟨rfl, hb2⟩
    have HGB2 := Lib.hid (HGB1.out.below hb2)
    have HA2 := Lib.hid (below_then HA1.out HA1.out.size hb2)
    clear hb2 q0 q1 q2
    obtain ⟨q0, q1, q2⟩ := HGB2.out.cells
    go_wp2_with fail
    cases hs : g.has s with
    | false =>
      refine (ghas_is HGB2.out.at_ s false hs).mono ?_
      rintro e w3 ⟨rfl, hb3⟩
      have HA3 := Lib.hid (below_then HA2.out HA2.out.size hb3)
      clear hb3 q0 q1 q2 hg hl hs
      go_wp2
      go_ret
      exact ⟨rfl, HA3.out⟩
    | true =>
      refine (ghas_is HGB2.out.at_ s true hs).mono ?_
      rintro e w3 ⟨rfl, hb3⟩
      have HGB3 := Lib.hid (HGB2.out.below hb3)
      have HA3 := Lib.hid (below_then HA2.out HA2.out.size hb3)
      clear hb3 q0 q1 q2
      obtain ⟨q0, q1, q2⟩ := HGB3.out.cells
      have hpl : g.plain = false := by rw [hl, hs] at hg; simpa using hg
      clear hg hl hs
      go_wp2_with fail
      refine (gplain_is HGB3.out.at_ false hpl).mono ?_
      rintro e w5 ⟨rfl, hb5⟩
      have HA5 := Lib.hid (below_then HA3.out HA3.out.size hb5)
      clear hb5 q0 q1 q2 hpl
      go_wp2
      go_ret
      exact ⟨rfl, HA5.out⟩
def Lg1 (n : Nat) (W1 : World) (v13 : Value) (wr : World) : Prop := ∃ i : Nat, i ≤ n ∧ v13 = .int .i64 i ∧ Below W1.heap.size W1 wr
set_option maxRecDepth 1000000 in
set_option maxHeartbeats 8000000 in
theorem glaw_in (h : GAt g w A0 c0 A1 c1 A2 c2) (s b : Int) (hl : g.large = false) (hs : g.has s = true) (hp : g.plain = true) :
    Calls Try.prog 10 #[.agg #[.slice A0 g.E.length c0, .slice A1 g.K.length c1, .slice A2 g.Gs.length c2], .int .i64 s, .int .i64 b] w fun e w' => e = .returned (.bool true) ∧ Below w.heap.size w w' := by
  have HA := Lib.hid (show Below w.heap.size w (w.alloc (.cells #[.slice A0 g.E.length c0, .slice A1 g.K.length c1, .slice A2 g.Gs.length c2] 26)) from (Below.refl _ _).alloc (Nat.le_refl _) _)
  have HGB := Lib.hid (GB.make h)
  clear h
  obtain ⟨p, c, e, hr⟩ : ∃ p c e, sres g s b = (p, c, e) := ⟨_, _, _, rfl⟩
  have HPL := Lib.hid (show p.length < 1000000000 by have := slen g hl s b hs; rw [hr] at this; exact this)
  have HR := Lib.hid hr
  have HL := Lib.hid hl
  have HS := Lib.hid hs
  have HP := Lib.hid hp
  have HPB := Lib.hid (spath g hl hp s b hs p c e hr)
  have HSB := Lib.hid (show s ≤ 9223372036854775807 by have := has_iff.1 hs; have := len12 hl; omega)
  clear hr hl hs hp
  go_enter Try.func10, Try.ntmps10
  go_wp2_with fail
  refine (awake_any _).mono ?_
  rintro en w1 ⟨rfl, hb1⟩
  have HGB1 := Lib.hid (HGB.out.below hb1)
  have HA1 := Lib.hid (below_then HA.out HA.out.size hb1)
  obtain ⟨q0, q1, q2⟩ := HGB1.out.cells
  clear hb1 HGB
  go_wp2_with fail
  refine (glarge_is HGB1.out.at_ false HL.out).mono ?_
  rintro en w2 ⟨rfl, hb2⟩
  have HGB2 := Lib.hid (HGB1.out.below hb2)
  have HA2 := Lib.hid (below_then HA1.out HA1.out.size hb2)
  clear hb2 q0 q1 q2
  obtain ⟨q0, q1, q2⟩ := HGB2.out.cells
  go_wp2_with fail
  refine (ghas_is HGB2.out.at_ s true HS.out).mono ?_
  rintro en w3 ⟨rfl, hb3⟩
  have HGB3 := Lib.hid (HGB2.out.below hb3)
  have HA3 := Lib.hid (below_then HA2.out HA2.out.size hb3)
  clear hb3 q0 q1 q2
  obtain ⟨q0, q1, q2⟩ := HGB3.out.cells
  go_wp2_with fail
  refine (gplain_is HGB3.out.at_ true HP.out).mono ?_
  rintro en w4 ⟨rfl, hb4⟩
  have HGB4 := Lib.hid (HGB3.out.below hb4)
  have HA4 := Lib.hid (below_then HA3.out HA3.out.size hb4)
  clear hb4 q0 q1 q2
  obtain ⟨q0, q1, q2⟩ := HGB4.out.cells
  go_wp2_with fail
  refine (lsearch_is HGB4.out.at_ HL.out s HS.out b p c e HR.out).mono ?_
  rintro en w5 ⟨v1, rfl, hv1, hb5⟩
  obtain ⟨B1, d1, rfl, m1, g1⟩ := Kd.R_reads hv1
  have HGB5 := Lib.hid (HGB4.out.below hb5)
  have HA5 := Lib.hid (below_then HA4.out HA4.out.size hb5)
  have HV1 := Lib.hid g1
  clear hb5 q0 q1 q2 hv1 g1
  obtain ⟨q0, q1, q2⟩ := HGB5.out.cells
  go_wp2
  refine start_ (n := 15) (S := fun w' => w'.cell? ⟨w.heap.size, 0, none⟩ = some (.slice A0 g.E.length c0) ∧ w'.cell? ⟨w.heap.size, 1, none⟩ = some (.slice A1 g.K.length c1) ∧ w'.cell? ⟨w.heap.size, 2, none⟩ = some (.slice A2 g.Gs.length c2)) (ds := [7]) #[false, false, false, false, false, false, false, false, false, false, false, false, false, false, false] (by kernel_rfl) rfl rfl ⟨q0, q1, q2⟩ (fun hHeld => ?_)
  have HGBd := Lib.hid (HGB5.out.below (Below.drew (Below.refl _ _)))
  have HAd := Lib.hid (Below.drew HA5.out)
  have HVd := Lib.hid (Kd.C_below HV1.out (Below.drew (Below.refl _ _)))
  clear q0 q1 q2 HGB5 HA5 HV1
  generalize w5.drew = w6 at HGBd HAd HVd hHeld ⊢
  refine take_ (i := 0) (N := (some 38)) (v := ?_) (a' := ?_) #[true, false, false, false, false, false, false, false, false, false, false, false, false, false, false] rfl rfl (by kernel_rfl) (fun _ _ _ h => h) (Or.inl ⟨by rfl, ?_⟩) hHeld ?_ ?_
  rotate_left
  · rintro w' ⟨s0, s1, s2⟩
    go_simp
    with_reducible rfl
  rotate_left
  · simp only [Act.put, List.setIfInBounds_toArray, List.set_cons_zero, List.set_cons_succ]
    rfl
  refine pure_ (i := 1) (N := (some 39)) (v := ?_) (a' := ?_) #[true, true, false, false, false, false, false, false, false, false, false, false, false, false, false] rfl rfl (by kernel_rfl) (fun _ _ _ h => h) (Or.inl ⟨by rfl, ?_⟩) ?_ ?_
  rotate_left
  · intro w'
    go_simp
    with_reducible rfl
  rotate_left
  · simp only [Act.put, List.setIfInBounds_toArray, List.set_cons_zero, List.set_cons_succ]
    rfl
  refine pure_ (i := 2) (N := (some 40)) (v := ?_) (a' := ?_) #[true, true, true, false, false, false, false, false, false, false, false, false, false, false, false] rfl rfl (by kernel_rfl) (fun _ _ _ h => h) (Or.inl ⟨by rfl, ?_⟩) ?_ ?_
  rotate_left
  · intro w'
    go_simp
    with_reducible rfl
  rotate_left
  · simp only [Act.put, List.setIfInBounds_toArray, List.set_cons_zero, List.set_cons_succ]
    rfl
  refine take_ (i := 3) (N := (some 41)) (v := ?_) (a' := ?_) #[true, true, true, true, false, false, false, false, false, false, false, false, false, false, false] rfl rfl (by kernel_rfl) (fun _ _ _ h => h) (Or.inl ⟨by rfl, ?_⟩) hHeld ?_ ?_
  rotate_left
  · rintro w' ⟨s0, s1, s2⟩
    go_simp
    with_reducible rfl
  rotate_left
  · simp only [Act.put, List.setIfInBounds_toArray, List.set_cons_zero, List.set_cons_succ]
    rfl
  refine pure_ (i := 4) (N := (some 42)) (v := ?_) (a' := ?_) #[true, true, true, true, true, false, false, false, false, false, false, false, false, false, false] rfl rfl (by kernel_rfl) (fun _ _ _ h => h) (Or.inl ⟨by rfl, ?_⟩) ?_ ?_
  rotate_left
  · intro w'
    go_simp
    with_reducible rfl
  rotate_left
  · simp only [Act.put, List.setIfInBounds_toArray, List.set_cons_zero, List.set_cons_succ]
    rfl
  refine pure_ (i := 6) (N := (some 44)) (v := ?_) (a' := ?_) #[true, true, true, true, true, false, true, false, false, false, false, false, false, false, false] rfl rfl (by kernel_rfl) (fun _ _ _ h => h) (Or.inl ⟨by rfl, ?_⟩) ?_ ?_
  rotate_left
  · intro w'
    go_simp
    with_reducible rfl
  rotate_left
  · simp only [Act.put, List.setIfInBounds_toArray, List.set_cons_zero, List.set_cons_succ]
    rfl
  refine one_ (i := 5) (N := (some 43)) #[true, true, true, true, true, true, true, false, false, false, false, false, false, false, false] rfl rfl (by kernel_rfl) (by decide) (fun K hK => ?_)
  go_simp
  refine (gkey_any HGBd.out.at_ s HSB.out).mono ?_
  rintro en w7 ⟨rfl, hb7⟩
  have HGB7 := Lib.hid (HGBd.out.below hb7)
  have HA7 := Lib.hid (below_then HAd.out HAd.out.size hb7)
  have HV7 := Lib.hid (Kd.C_below HVd.out hb7)
  clear hb7
  refine hK.out _ _ HGB7.out.cells (fun hHeld => ?_)
  clear hK K
  (try simp only [Act.put, List.setIfInBounds_toArray, List.set_cons_zero, List.set_cons_succ])
  refine last_ (i := 7) (N := (some 45)) #[true, true, true, true, true, true, true, true, false, false, false, false, false, false, false] rfl rfl (by kernel_rfl) (by decide) (fun K hK => ?_)
  go_simp
  refine (wsearch_is HGB7.out.at_ HL.out HP.out s HS.out b p c e HR.out).mono ?_
  rintro en w8 ⟨v2, rfl, hv2, hb8⟩
  obtain ⟨B2, d2, rfl, m2, g2⟩ := Kd.R_reads hv2
  have HGB8 := Lib.hid (HGB7.out.below hb8)
  have HA8 := Lib.hid (below_then HA7.out HA7.out.size hb8)
  have HV8 := Lib.hid (Kd.C_below HV7.out hb8)
  have HU8 := Lib.hid g2
  clear hb8 hv2 g2
  refine hK.out _ _ ?_
  clear hK K
  (try simp only [Act.put, List.setIfInBounds_toArray, List.set_cons_zero, List.set_cons_succ])
  refine pure_ (i := 8) (N := (some 37)) (v := ?_) (a' := ?_) #[true, true, true, true, true, true, true, true, true, false, false, false, false, false, false] rfl rfl (by kernel_rfl) (fun _ _ _ h => h) (Or.inl ⟨by rfl, ?_⟩) ?_ ?_
  rotate_left
  · intro w'
    go_simp
    with_reducible rfl
  rotate_left
  · simp only [Act.put, List.setIfInBounds_toArray, List.set_cons_zero, List.set_cons_succ]
    rfl
  refine pure_ (i := 9) (N := (some 46)) (v := ?_) (a' := ?_) #[true, true, true, true, true, true, true, true, true, true, false, false, false, false, false] rfl rfl (by kernel_rfl) (fun _ _ _ h => h) (Or.inl ⟨by rfl, ?_⟩) ?_ ?_
  rotate_left
  · intro w'
    go_simp
    with_reducible rfl
  rotate_left
  · simp only [Act.put, List.setIfInBounds_toArray, List.set_cons_zero, List.set_cons_succ]
    rfl
  refine pure_ (i := 10) (N := (some 47)) (v := ?_) (a' := ?_) #[true, true, true, true, true, true, true, true, true, true, true, false, false, false, false] rfl rfl (by kernel_rfl) (fun _ _ _ h => h) (Or.inl ⟨by rfl, ?_⟩) ?_ ?_
  rotate_left
  · intro w'
    go_simp
    with_reducible rfl
  rotate_left
  · simp only [Act.put, List.setIfInBounds_toArray, List.set_cons_zero, List.set_cons_succ]
    rfl
  refine pure_ (i := 11) (N := (some 48)) (v := ?_) (a' := ?_) #[true, true, true, true, true, true, true, true, true, true, true, true, false, false, false] rfl rfl (by kernel_rfl) (fun _ _ _ h => h) (Or.inl ⟨by rfl, ?_⟩) ?_ ?_
  rotate_left
  · intro w'
    go_simp
    with_reducible rfl
  rotate_left
  · simp only [Act.put, List.setIfInBounds_toArray, List.set_cons_zero, List.set_cons_succ]
    rfl
  refine pure_ (i := 12) (N := (some 10)) (v := ?_) (a' := ?_) #[true, true, true, true, true, true, true, true, true, true, true, true, true, false, false] rfl rfl (by kernel_rfl) (fun _ _ _ h => h) (Or.inl ⟨by rfl, ?_⟩) ?_ ?_
  rotate_left
  · intro w'
    go_simp
    with_reducible rfl
  rotate_left
  · simp only [Act.put, List.setIfInBounds_toArray, List.set_cons_zero, List.set_cons_succ]
    rfl
  refine pure_ (i := 13) (N := (some 11)) (v := ?_) (a' := ?_) #[true, true, true, true, true, true, true, true, true, true, true, true, true, true, false] rfl rfl (by kernel_rfl) (fun _ _ _ h => h) (Or.inl ⟨by rfl, ?_⟩) ?_ ?_
  rotate_left
  · intro w'
    go_simp
    with_reducible rfl
  rotate_left
  · simp only [Act.put, List.setIfInBounds_toArray, List.set_cons_zero, List.set_cons_succ]
    rfl
  refine pure_ (i := 14) (N := (some 12)) (v := ?_) (a' := ?_) #[true, true, true, true, true, true, true, true, true, true, true, true, true, true, true] rfl rfl (by kernel_rfl) (fun _ _ _ h => h) (Or.inl ⟨by rfl, ?_⟩) ?_ ?_
  rotate_left
  · intro w'
    go_simp
    with_reducible rfl
  rotate_left
  · simp only [Act.put, List.setIfInBounds_toArray, List.set_cons_zero, List.set_cons_succ]
    rfl
  refine done_ (by kernel_rfl) ?_
  clear hHeld HGB7 HA7 HV7 HGBd HAd HVd
  have hml : (p.map g.key).length = p.length := List.length_map _
  rw [hml] at HU8 m2 ⊢
  clear hml
  go_wp2
  go_loopw [13] (fun v13 wr => Lg1 p.length w8 v13 wr) (fun v13 _ => p.length - (intOf v13).toNat)
  case atStart => exact ⟨0, Nat.zero_le _, rfl, Below.refl _ _⟩
  case round =>
    obtain ⟨i, hi, rfl, hB⟩ := hrel
    have HBr := Lib.hid hB
    clear hB
    have hpl := HPL.out
    by_cases hlt : i < p.length
    · have hi0 : 0 ≤ (i : Int) := by omega
      have hi1 : (i : Int) < (p.length : Int) := by omega
      obtain ⟨ad1, rfl, hc1⟩ := Kd.at_int HV8.out (i : Int) hi0 hi1
      obtain ⟨ad2, rfl, hc2⟩ := Kd.at_string HU8.out (i : Int) hi0 hi1
      replace hc1 := keepw HBr.out hc1
      replace hc2 := keepw HBr.out hc2
      have hk : rdOf ByteArray.empty (p.map g.key) (i : Int) = g.key (rd p (i : Int)) := by simp [rdOf, rd, hlt]
      rw [hk] at hc2
      rw [Int.toNat_natCast] at hc1 hc2
      clear hk
      have HX := Lib.hid (HPB.out i hlt)
      obtain ⟨x, ex⟩ : ∃ x, rd p (i : Int) = x := ⟨_, rfl⟩
      rw [ex] at hc1 hc2 HX
      clear ex
      have HGw := Lib.hid (HGB8.out.below HBr.out)
      obtain ⟨q0, q1, q2⟩ := HGw.out.cells
      go_wp2
      refine start_ (n := 11) (S := fun w' => w'.cell? ⟨w.heap.size, 0, none⟩ = some (.slice A0 g.E.length c0) ∧ w'.cell? ⟨w.heap.size, 1, none⟩ = some (.slice A1 g.K.length c1) ∧ w'.cell? ⟨w.heap.size, 2, none⟩ = some (.slice A2 g.Gs.length c2) ∧ w'.cell? (ad1.add i) = some (.int .i64 x) ∧ w'.cell? (ad2.add i) = some (.string (g.key x))) (ds := []) #[false, false, false, false, false, false, false, false, false, false, false] (by kernel_rfl) rfl rfl ⟨q0, q1, q2, hc1, hc2⟩ (fun hHeld => ?_)
      have HGBd := Lib.hid (HGw.out.below (Below.drew (Below.refl _ _)))
      have HBd := Lib.hid (Below.drew HBr.out)
      clear q0 q1 q2 hc1 hc2 HGw
      generalize wr.drew = w10 at HGBd HBd hHeld ⊢
      refine take_ (i := 0) (N := (some 70)) (v := ?_) (a' := ?_) #[true, false, false, false, false, false, false, false, false, false, false] rfl rfl (by kernel_rfl) (fun _ _ _ h => h) (Or.inl ⟨by rfl, ?_⟩) hHeld ?_ ?_
      rotate_left
      · rintro w' ⟨s0, s1, s2, s3, s4⟩
        go_simp
        with_reducible rfl
      rotate_left
      · simp only [Act.put, List.setIfInBounds_toArray, List.set_cons_zero, List.set_cons_succ]
        rfl
      refine pure_ (i := 1) (N := (some 71)) (v := ?_) (a' := ?_) #[true, true, false, false, false, false, false, false, false, false, false] rfl rfl (by kernel_rfl) (fun _ _ _ h => h) (Or.inl ⟨by rfl, ?_⟩) ?_ ?_
      rotate_left
      · intro w'
        go_simp
        with_reducible rfl
      rotate_left
      · simp only [Act.put, List.setIfInBounds_toArray, List.set_cons_zero, List.set_cons_succ]
        rfl
      refine pure_ (i := 2) (N := (some 72)) (v := ?_) (a' := ?_) #[true, true, true, false, false, false, false, false, false, false, false] rfl rfl (by kernel_rfl) (fun _ _ _ h => h) (Or.inl ⟨by rfl, ?_⟩) ?_ ?_
      rotate_left
      · intro w'
        go_simp
        with_reducible rfl
      rotate_left
      · simp only [Act.put, List.setIfInBounds_toArray, List.set_cons_zero, List.set_cons_succ]
        rfl
      refine pure_ (i := 3) (N := (some 73)) (v := ?_) (a' := ?_) #[true, true, true, true, false, false, false, false, false, false, false] rfl rfl (by kernel_rfl) (fun _ _ _ h => h) (Or.inl ⟨by rfl, ?_⟩) ?_ ?_
      rotate_left
      · intro w'
        go_simp
        with_reducible rfl
      rotate_left
      · simp only [Act.put, List.setIfInBounds_toArray, List.set_cons_zero, List.set_cons_succ]
        rfl
      refine take_ (i := 4) (N := (some 74)) (v := ?_) (a' := ?_) #[true, true, true, true, true, false, false, false, false, false, false] rfl rfl (by kernel_rfl) (fun _ _ _ h => h) (Or.inl ⟨by rfl, ?_⟩) hHeld ?_ ?_
      rotate_left
      · rintro w' ⟨s0, s1, s2, s3, s4⟩
        go_simp
        with_reducible rfl
      rotate_left
      · simp only [Act.put, List.setIfInBounds_toArray, List.set_cons_zero, List.set_cons_succ]
        rfl
      refine pure_ (i := 6) (N := (some 76)) (v := ?_) (a' := ?_) #[true, true, true, true, true, false, true, false, false, false, false] rfl rfl (by kernel_rfl) (fun _ _ _ h => h) (Or.inl ⟨by rfl, ?_⟩) ?_ ?_
      rotate_left
      · intro w'
        go_simp
        with_reducible rfl
      rotate_left
      · simp only [Act.put, List.setIfInBounds_toArray, List.set_cons_zero, List.set_cons_succ]
        rfl
      refine pure_ (i := 7) (N := (some 77)) (v := ?_) (a' := ?_) #[true, true, true, true, true, false, true, true, false, false, false] rfl rfl (by kernel_rfl) (fun _ _ _ h => h) (Or.inl ⟨by rfl, ?_⟩) ?_ ?_
      rotate_left
      · intro w'
        go_simp
        with_reducible rfl
      rotate_left
      · simp only [Act.put, List.setIfInBounds_toArray, List.set_cons_zero, List.set_cons_succ]
        rfl
      refine pure_ (i := 8) (N := (some 78)) (v := ?_) (a' := ?_) #[true, true, true, true, true, false, true, true, true, false, false] rfl rfl (by kernel_rfl) (fun _ _ _ h => h) (Or.inl ⟨by rfl, ?_⟩) ?_ ?_
      rotate_left
      · intro w'
        go_simp
        with_reducible rfl
      rotate_left
      · simp only [Act.put, List.setIfInBounds_toArray, List.set_cons_zero, List.set_cons_succ]
        rfl
      refine take_ (i := 9) (N := (some 79)) (v := ?_) (a' := ?_) #[true, true, true, true, true, false, true, true, true, true, false] rfl rfl (by kernel_rfl) (fun _ _ _ h => h) (Or.inl ⟨by rfl, ?_⟩) hHeld ?_ ?_
      rotate_left
      · rintro w' ⟨s0, s1, s2, s3, s4⟩
        go_simp
        with_reducible rfl
      rotate_left
      · simp only [Act.put, List.setIfInBounds_toArray, List.set_cons_zero, List.set_cons_succ]
        rfl
      refine one_ (i := 5) (N := (some 75)) #[true, true, true, true, true, true, true, true, true, true, false] rfl rfl (by kernel_rfl) (by decide) (fun K hK => ?_)
      go_simp
      refine (gkey_any HGBd.out.at_ x HX.out).mono ?_
      rintro en w11 ⟨rfl, hb11⟩
      have HB11 := Lib.hid hb11
      clear hb11
      refine hK.out _ _ ⟨keepw HB11.out hHeld.1, keepw HB11.out hHeld.2.1, keepw HB11.out hHeld.2.2.1, keepw HB11.out hHeld.2.2.2.1, keepw HB11.out hHeld.2.2.2.2⟩ (fun hHeld => ?_)
      clear hK K
      (try simp only [Act.put, List.setIfInBounds_toArray, List.set_cons_zero, List.set_cons_succ])
      refine pure_ (i := 10) (N := (some 80)) (v := ?_) (a' := ?_) #[true, true, true, true, true, true, true, true, true, true, true] rfl rfl (by kernel_rfl) (fun _ _ _ h => h) (Or.inl ⟨by rfl, ?_⟩) ?_ ?_
      rotate_left
      · intro w'
        go_simp
        with_reducible rfl
      rotate_left
      · simp only [Act.put, List.setIfInBounds_toArray, List.set_cons_zero, List.set_cons_succ]
        rfl
      refine done_ (by kernel_rfl) ?_
      clear hHeld
      have HP := Lib.hid (show Lg1 p.length w8 (.int .i64 ((i + 1 : Nat) : Int)) w11 from ⟨i + 1, by omega, rfl, below_then HBd.out HBd.out.size HB11.out⟩)
      go_wp2
      go_roundw
      case rel => exact HP.out
      case measure => simp [intOf]; omega
    · obtain rfl : i = p.length := by omega
      go_wp2
      go_ret
      exact ⟨rfl, HA8.out.trans (HBr.out.mono HA8.out.size)⟩
theorem generic_law (h : GAt g w A0 c0 A1 c1 A2 c2) (s b : Int) :
    Calls Try.prog 10 #[.agg #[.slice A0 g.E.length c0, .slice A1 g.K.length c1, .slice A2 g.Gs.length c2], .int .i64 s, .int .i64 b] w fun e w' => e = .returned (.bool true) ∧ Below w.heap.size w w' := by
  by_cases hg : g.large = true ∨ g.has s = false ∨ g.plain = false
  · exact glaw_out h s b hg
  · simp only [not_or, Bool.not_eq_true, Bool.not_eq_false] at hg
    exact glaw_in h s b hg.1 hg.2.1 hg.2.2
end Go.Proofs.Ytipdejalohmkpaa.Gr

namespace Go.Proofs.Ytipdejalohmkpaa.bestfirstGeneric
open Go.ChangeShapes Go.WideShapes Go.ChangeAt Go.RowKit
open Go.ChangeMaps (open_string shut_string)
set_option linter.unusedVariables false
theorem own : ownKnob Try.prog.godebug = none := by kernel_rfl
theorem laidOut : laidOutB Try.prog = true := by kernel_rfl
set_option maxRecDepth 100000 in
theorem lifted (os : Os) (started : os.Started) (H : Type) (enc : TypeId × Value → H) :
    ReturnsInHanded {} Try.checked os 10 .any (Rows.bestfirstGenericSpec.pre6 enc Try.prog Try.f10 Rows.bestfirstGenericRow.domain false) (Rows.bestfirstGenericSpec.post enc Try.prog Try.f10 false true false false) := by
  refine returnsInHanded_of_change_sized (C := Try.checked) own started (by kernel_rfl) Try.func10
    (ChangeSpec.witness6 (enc := enc) (C := Try.checked) false ⟨#[], #[.agg #[.slice none 0 0, .slice none 0 0, .slice none 0 0], .int .i64 0, .int .i64 0], []⟩ 8 (by kernel_rfl) (by kernel_rfl) (by kernel_rfl) (by kernel_rfl)) ?_
  intro W base args ds gs before hval0 hW hcnd hsz0 _
  have hsz : (DataW.weightsEach Try.prog (Try.f10.params.toList ++ Rows.bestfirstGenericSpec.plain.varTypes Try.prog) (ds ++ gs)).all (· ≤ reachBytes) = true := hsz0
  have hval : ∀ (j : Nat) t v, Try.f10.params[j]? = some t → args[j]? = some v → Value.okWide Try.prog W .any base t v := hval0
  have hW' := hW
  obtain ⟨p, q, hA0, hV, rfl, hfz, hnd⟩ := hW
  have hA : DataW.TrodAll enc Try.prog W 0 (fun _ => true) true Try.f10.params.toList args.toList ds p := hA0
  rw [Try.params10] at hA hval hsz
  obtain ⟨v0, vs0, d0, ds0, p0, q0, hargs, rfl, rfl, h0, r0⟩ := trodAll_cons hA
  obtain ⟨v1, vs1, d1, ds1, p1, q1, rfl, rfl, rfl, h1, r1⟩ := trodAll_cons r0
  obtain ⟨v2, vs2, d2, ds2, p2, q2, rfl, rfl, rfl, h2, r2⟩ := trodAll_cons r1
  obtain ⟨rfl, rfl, rfl⟩ := trodAll_nil r2
  obtain rfl : args = #[v0, v1, v2] := by cases args; simp_all
  obtain ⟨rfl, rfl⟩ := trodVars_none hV
  obtain ⟨g0, A0, B0, C0, D0, E0, F0, rfl, w0⟩ := Gr.open_graph (hval 0 26 v0 rfl rfl) h0
  have k0 := h0
  have lt0 : ∀ x ∈ p0, x.block < W.heap.size := by obtain ⟨m, hm⟩ := k0; exact DataW.trod_lt m _ _ _ hm
  obtain ⟨a1, rfl, rfl, rfl, w1⟩ := open_int Try.underlying3 (hval 1 3 v1 rfl rfl) h1
  obtain ⟨a2, rfl, rfl, rfl, w2⟩ := open_int Try.underlying3 (hval 2 3 v2 rfl rfl) h2
  clear hA0 hval0 hsz0 hsz
  refine (Gr.generic_law w0 a1 a2).mono fun e W' ⟨he, bel⟩ => ?_
  subst he
  exact ⟨_, rfl, _, _, _, [], _, [], hW', trodAll_mk1 (shut_bool Try.underlying4 _), (trodAll_cons_mk (Below.trod laidOut (by kernel_rfl) (of_decide_eq_true (by kernel_rfl)) k0 bel lt0) (trodAll_cons_mk (shut_int Try.underlying3 w1) (trodAll_cons_mk (shut_int Try.underlying3 w2) trodAll_mk0))), rfl, bel.frame _, fun h => by cases h⟩
theorem over : Rows.bestfirstGenericRow.holds Try.pinned (OpenSpec.ofChange Rows.bestfirstGenericSpec) :=
  OpenClaim.holds_of_wide 10 Try.f10 rfl rfl rfl rfl rfl rfl rfl ⟨rfl, rfl, rfl, rfl, rfl⟩ rfl rfl rfl rfl rfl (by kernel_rfl) Try.func10 (by kernel_rfl)
    (of_decide_eq_true (by kernel_rfl)) (by unfold Func.isWrapper; first | (rw [if_pos (by decide +kernel)]; kernel_rfl) | (rw [if_neg (by decide +kernel)]; exact ⟨rfl, rfl⟩))
    (fun os started H enc _ => lifted os started H enc)
end Go.Proofs.Ytipdejalohmkpaa.bestfirstGeneric
namespace Go.Proofs.Ytipdejalohmkpaa
/-- The row, under a short name, for the claim. -/
theorem bestfirstGeneric_holds : Rows.BestfirstGenericSaid := bestfirstGeneric.over
#print axioms bestfirstGeneric_holds
end Go.Proofs.Ytipdejalohmkpaa
