/- JournalRecovers: whatever the input, the call returns true, and the input reads as it did. No conditions. -/
import Derived.Test.YtiacjbandhedhaaBJournalRecovers3
import Derived.Test.YtiacjbandhedhaaRows
import Derived.WalkKit
import Derived.ProofKit
import Derived.OpenShut
import Derived.ShutString
import Derived.ChangeOld
import Derived.Below
import Derived.SizedLaws
/- JournalRecovers: after a crash Open finds the acknowledged records, possibly followed by the one in progress. -/
namespace Go.Proofs.Ytiacjbandhedhaa.Jn
open Go.RowKit Go.Proofs.YtiacjbandhedhaaW.PrintWords Go.Proofs.YtiacjbandhedhaaW.PrintLast Go.Proofs.YtiacjbandhedhaaW.PrintMore
set_option linter.unusedSimpArgs false
set_option linter.unusedVariables false
def RcIn (w : World) (g j : Nat) (list : List (List UInt8)) (v11 : Value) (wr : World) : Prop :=
  ∃ (i : Nat) (m : Int), v11 = .int .i64 i ∧ i ≤ list.length ∧ Ok (list.take i) ∧ 0 ≤ m ∧ Sj w g j i false (AM 4000 m (list.take i)) wr
def RcEnd (w : World) (g i : Nat) (list : List (List UInt8)) (wr : World) : Prop :=
  i ≤ list.length ∧ Ok (list.take i) ∧ ∃ (t : List UInt8) (off : Bool) (m : Int), St w g (DT 4000 m off (list.take i) t) wr ∧ (t = [] ∨ ∃ h : i < list.length, t = frame list[i] ∧ 1 ≤ list[i].length ∧ list[i].length ≤ 300)
set_option maxRecDepth 1000000 in
set_option maxHeartbeats 4000000 in
theorem recovers_law {w : World} {A : Option Addr} {list : List (List UInt8)} {c : Nat} (h : kbs.C w A list.length (list.map ib)) (hc : list.length ≤ c) (n : Int) (hn : (Lit.int .i64 n).wf = true) (keep : Int) :
    Calls Try.prog 11 #[.slice A list.length c, .int .i64 n, .int .i64 keep] w fun e w' => e = .returned (.bool true) ∧ Below w.heap.size w w' := by
  have HLS := Lib.hid h
  clear h
  have hnm : n ≤ 9223372036854775807 := by
    have e2 : IntKind.i64.max = 9223372036854775807 := by decide
    have : IntKind.i64.min ≤ n ∧ n ≤ IntKind.i64.max := by simpa [Lit.wf] using hn
    omega
  have HN := Lib.hid hnm
  clear hn hnm
  by_cases hg : 6 < list.length
  · have g1 : decide (6 < (list.length : Int)) = true := decide_eq_true (by omega)
    clear hg
    go_enter Try.func11, Try.ntmps11
    go_wp2_with fail
    refine (awake_any _).mono ?_
    rintro e w1 ⟨rfl, hb1⟩
    have HB1 := Lib.hid hb1
    clear hb1
    go_wp2_with fail
    refine (awake_any _).mono ?_
    rintro e w2 ⟨rfl, hb2⟩
    have HB2 := Lib.hid (below_then HB1.out HB1.out.size hb2)
    clear hb2
    go_wp2
    go_ret
    exact ⟨rfl, HB2.out⟩
  · have h6 : list.length ≤ 6 := by omega
    have ga : decide (6 < (list.length : Int)) = false := decide_eq_false (by omega)
    clear hg
    go_enter Try.func11, Try.ntmps11
    go_wp2_with fail
    refine (awake_any _).mono ?_
    rintro e w1 ⟨rfl, hb1⟩
    have HB1 := Lib.hid hb1
    clear hb1
    go_wp2_with fail
    refine (new_st w w1 HB1.out 4000 (by decide)).mono ?_
    rintro e w2 ⟨g, rfl, hs2⟩
    have HS2 := Lib.hid (show St w g (AD 4000 []) w2 from hs2)
    clear hs2
    go_wp2_with fail
    refine (open_ad HS2.out ok_nil).mono ?_
    rintro e w3 ⟨j, Al, cl, rfl, hs3, _, _⟩
    have HS3 := Lib.hid hs3
    clear hs3 HS2
    go_wp2_with fail
    refine (fail_sj HS3.out n HN.out).mono ?_
    rintro e w4 ⟨rfl, hs4⟩
    have HI := Lib.hid (show RcIn w g j list (.int .i64 0) w4 from ⟨0, _, rfl, Nat.zero_le _, by simpa using ok_nil, (show 0 ≤ (if n < 0 then 0 else n) by split <;> omega), by rw [ad_fail] at hs4; simpa using hs4⟩)
    clear hs4 HS3 HN
    go_wp2
    go_loopw [11] (fun v11 wr => RcIn w g j list v11 wr) (fun v11 _ => list.length - (intOf v11).toNat)
    case atStart => exact HI.out
    case round =>
      clear HI
      obtain ⟨i, m, rfl, hi, hok, hm, hs⟩ := hrel
      have HS := Lib.hid hs
      have HOK := Lib.hid hok
      have HM := Lib.hid hm
      clear hs hok hm
      by_cases hlt : i < list.length
      · have hi0 : 0 ≤ (i : Int) := by omega
        have hi1 : (i : Int) < (list.length : Int) := by omega
        obtain ⟨ad, B1, e1, rfl, q1, l1, k1⟩ := at_bs HLS.out i hlt
        replace q1 := (HS.out.bel.cell (World.block_lt_of_cell? w _ q1)).trans q1
        have HK := Lib.hid k1
        have HTK := Lib.hid (show list.take (i + 1) = list.take i ++ [list[i]] from by rw [List.take_succ_eq_append_getElem hlt])
        have HFL := Lib.hid (show (frames (list.take i)).length + 308 ≤ 4000 by
          have h1 := frames_le (list.take i) HOK.out
          have h2 : (list.take i).length ≤ 6 := by rw [List.length_take]; omega
          omega)
        obtain ⟨x, hx⟩ : ∃ x, list[i] = x := ⟨_, rfl⟩
        have HXE := Lib.hid hx
        rw [hx] at q1 l1 HK HTK
        clear k1 hx
        by_cases hs : x.length < 1
        · have g1 : decide ((x.length : Int) < 1) = true := decide_eq_true (by omega)
          clear hs
          go_wp2
          go_ret
          exact ⟨rfl, HS.out.bel⟩
        · have g1 : decide ((x.length : Int) < 1) = false := decide_eq_false (by omega)
          by_cases hb3 : 300 < x.length
          · have g2 : decide (300 < (x.length : Int)) = true := decide_eq_true (by omega)
            clear hs hb3
            go_wp2
            go_ret
            exact ⟨rfl, HS.out.bel⟩
          · have g2 : decide (300 < (x.length : Int)) = false := decide_eq_false (by omega)
            have HXB := Lib.hid (show 1 ≤ x.length ∧ x.length ≤ 300 by omega)
            have HAP := Lib.hid (am_app HM.out HXB.out.1 HXB.out.2 HFL.out)
            go_wp2_with fail
            have hap := append_st HS.out HK.out l1 (by omega) (by omega)
            rcases HAP.out with ⟨m', hm1, hm2, hap2⟩ | ⟨t, hap2, ht⟩
            · rw [hap2] at hap
              refine hap.mono ?_
              rintro e w5 ⟨rfl, hs5⟩
              have HS5 := Lib.hid (show RcIn w g j list (.int .i64 ((i : Int) + 1)) w5 from ⟨i + 1, m', by go_num, hlt, by rw [HTK.out]; exact ok_snoc HOK.out HXB.out.1 HXB.out.2, hm1, by rw [HTK.out]; exact hs5⟩)
              clear hs5 HS hap hap2 HAP hm1 hm2
              go_wp2
              go_roundw
              case rel => exact HS5.out
              case measure => simp [intOf]; omega
            · rw [hap2] at hap
              refine hap.mono ?_
              rintro e w5 ⟨rfl, hs5⟩
              have HE := Lib.hid (show RcEnd w g i list w5 from ⟨hi, HOK.out, t, true, 0, hs5.st, ht.imp id (fun e => ⟨hlt, by rw [HXE.out]; exact e, by rw [HXE.out]; exact HXB.out.1, by rw [HXE.out]; exact HXB.out.2⟩)⟩)
              clear hs5 HS hap hap2 HAP ht q1 l1 HK HTK HFL HXE HXB HOK HM g1 g2 hs hb3 hi0 hi1 hlt hi
              obtain ⟨hi, hok, t, off, m, hs, ht⟩ := HE.out
              obtain ⟨l', ho1, ho2, ho3, ho4⟩ := dt_open (n := 4000) (m := m) (off := off) keep hi hok ht
              have HS6 := Lib.hid hs
              have HO1 := Lib.hid ho1
              have HO2 := Lib.hid ho2
              have HO3 := Lib.hid ho3
              clear hs ho1 ho2 ho3 ht HE
              go_wp2_with fail
              refine (crash_st HS6.out keep).mono ?_
              rintro e w7 ⟨rfl, hs7⟩
              have HO := Lib.hid (open_st hs7)
              rw [HO1.out, HO2.out] at HO
              clear hs7 HS6 HO1 HO2
              go_wp2_with fail
              refine HO.out.mono ?_
              rintro e w8 ⟨hs8, vj8, vl8, rfl, hr8⟩
              obtain ⟨j8, rfl, hR8⟩ : ∃ j8, vj8 = .pointer (some ⟨j8, 0, none⟩) ∧ kbs.R 22 w8 w.heap.size (fun _ => True) vl8 (l'.map ib) := by
                rcases hr8 with ⟨_, j, hj, _, hR⟩ | ⟨h0, _⟩
                · exact ⟨j, hj, hR⟩
                · exact absurd rfl h0
              obtain ⟨A8, c8, hv8, hl8, hC8⟩ := Kd.R_reads hR8
              rw [List.length_map] at hv8 hl8 hC8
              subst hv8
              have HC8 := Lib.hid hC8
              have HS8 := Lib.hid hs8
              clear hr8 hR8 hs8 hC8 HO
              go_wp2_with fail
              refine (open_still HS8.out HO3.out).mono ?_
              rintro e w9 ⟨vj9, A9, c9, rfl, hb9, hC9⟩
              have HC9 := Lib.hid hC9
              have HC8b := Lib.hid (Kd.C_below HC8.out hb9)
              have HB9 := Lib.hid (below_then HS8.out.bel HS8.out.bel.size hb9)
              clear hb9 hC9 HC8 HS8
              go_wp2_with fail
              refine (same_any HC8b.out HC9.out).mono ?_
              rintro e w10 ⟨rfl, hb10⟩
              have HB10 := Lib.hid (below_then HB9.out HB9.out.size hb10)
              have HC10 := Lib.hid (Kd.C_below HC8b.out hb10)
              have hdt : decide (l' = l') = true := decide_eq_true rfl
              rw [hdt]
              clear hb10 hdt HC9 HC8b HB9
              have HCI := Lib.hid (show ∀ W, Below w.heap.size w W → kbs.C W (some ad) (list.take i).length ((list.take i).map ib) from fun W hW => Kd.C_below (take_l HLS.out hi) hW)
              have hli : (list.take i).length = i := by rw [List.length_take]; omega
              rw [hli] at HCI
              have hcut := cut_to_l (some ad) list.length c i (i : Int) rfl hi hc
              go_wp2_with fail
              have hsm := same_any (c := c8) (d := c) HC10.out (by rw [hli]; exact HCI.out _ HB10.out)
              rw [hli] at hsm
              refine hsm.mono ?_
              rintro e w11 ⟨rfl, hb11⟩
              have HB11 := Lib.hid (below_then HB10.out HB10.out.size hb11)
              have HC11 := Lib.hid (Kd.C_below HC10.out hb11)
              clear hsm hb11 HB10 HC10
              by_cases hll : l' = list.take i
              · rw [decide_eq_true hll]
                clear hll ho4
                go_wp2
                go_ret
                exact ⟨rfl, HB11.out⟩
              · obtain ⟨hlt, hl2⟩ := ho4.resolve_left hll
                rw [decide_eq_false hll]
                have HL2 := Lib.hid hl2
                clear hll ho4 hl2
                have g9 : decide ((i : Int) < (list.length : Int)) = true := decide_eq_true (by omega)
                have g9n : decide (i < list.length) = true := decide_eq_true hlt
                have hli2 : (list.take (i + 1)).length = i + 1 := by rw [List.length_take]; omega
                have hcut2 := cut_to_l (some ad) list.length c (i + 1) ((i : Int) + 1) (by omega) hlt hc
                go_wp2_with fail
                have hsm := same_any (c := c8) (d := c) HC11.out (Kd.C_below (take_l HLS.out (show i + 1 ≤ list.length from hlt)) HB11.out)
                rw [hli2, decide_eq_true HL2.out] at hsm
                refine hsm.mono ?_
                rintro e w12 ⟨rfl, hb12⟩
                have HB12 := Lib.hid (below_then HB11.out HB11.out.size hb12)
                clear hsm hb12
                go_wp2
                go_ret
                exact ⟨rfl, HB12.out⟩
      · have HE := Lib.hid (show RcEnd w g i list wr from ⟨hi, HOK.out, [], false, m, by rw [← am_dt]; exact HS.out.st, .inl rfl⟩)
        have g40 : decide ((i : Int) < (list.length : Int)) = false := decide_eq_false (by omega)
        have g40n : decide (i < list.length) = false := decide_eq_false (by omega)
        clear HS HOK HM hlt hi
        obtain ⟨hi, hok, t, off, m, hs, ht⟩ := HE.out
        obtain ⟨l', ho1, ho2, ho3, ho4⟩ := dt_open (n := 4000) (m := m) (off := off) keep hi hok ht
        have HS6 := Lib.hid hs
        have HO1 := Lib.hid ho1
        have HO2 := Lib.hid ho2
        have HO3 := Lib.hid ho3
        clear hs ho1 ho2 ho3 ht HE
        go_wp2_with fail
        clear g40 g40n
        refine (crash_st HS6.out keep).mono ?_
        rintro e w7 ⟨rfl, hs7⟩
        have HO := Lib.hid (open_st hs7)
        rw [HO1.out, HO2.out] at HO
        clear hs7 HS6 HO1 HO2
        go_wp2_with fail
        refine HO.out.mono ?_
        rintro e w8 ⟨hs8, vj8, vl8, rfl, hr8⟩
        obtain ⟨j8, rfl, hR8⟩ : ∃ j8, vj8 = .pointer (some ⟨j8, 0, none⟩) ∧ kbs.R 22 w8 w.heap.size (fun _ => True) vl8 (l'.map ib) := by
          rcases hr8 with ⟨_, j, hj, _, hR⟩ | ⟨h0, _⟩
          · exact ⟨j, hj, hR⟩
          · exact absurd rfl h0
        obtain ⟨A8, c8, hv8, hl8, hC8⟩ := Kd.R_reads hR8
        rw [List.length_map] at hv8 hl8 hC8
        subst hv8
        have HC8 := Lib.hid hC8
        have HS8 := Lib.hid hs8
        clear hr8 hR8 hs8 hC8 HO
        go_wp2_with fail
        refine (open_still HS8.out HO3.out).mono ?_
        rintro e w9 ⟨vj9, A9, c9, rfl, hb9, hC9⟩
        have HC9 := Lib.hid hC9
        have HC8b := Lib.hid (Kd.C_below HC8.out hb9)
        have HB9 := Lib.hid (below_then HS8.out.bel HS8.out.bel.size hb9)
        clear hb9 hC9 HC8 HS8
        go_wp2_with fail
        refine (same_any HC8b.out HC9.out).mono ?_
        rintro e w10 ⟨rfl, hb10⟩
        have HB10 := Lib.hid (below_then HB9.out HB9.out.size hb10)
        have HC10 := Lib.hid (Kd.C_below HC8b.out hb10)
        have hdt : decide (l' = l') = true := decide_eq_true rfl
        rw [hdt]
        clear hb10 hdt HC9 HC8b HB9
        have HCI := Lib.hid (show ∀ W, Below w.heap.size w W → kbs.C W A (list.take i).length ((list.take i).map ib) from fun W hW => Kd.C_below (take_l HLS.out hi) hW)
        have hli : (list.take i).length = i := by rw [List.length_take]; omega
        rw [hli] at HCI
        have hcut := cut_to_l A list.length c i (i : Int) rfl hi hc
        go_wp2_with fail
        have hsm := same_any (c := c8) (d := c) HC10.out (by rw [hli]; exact HCI.out _ HB10.out)
        rw [hli] at hsm
        refine hsm.mono ?_
        rintro e w11 ⟨rfl, hb11⟩
        have HB11 := Lib.hid (below_then HB10.out HB10.out.size hb11)
        have HC11 := Lib.hid (Kd.C_below HC10.out hb11)
        clear hsm hb11 HB10 HC10
        by_cases hll : l' = list.take i
        · rw [decide_eq_true hll]
          clear hll ho4
          go_wp2
          go_ret
          exact ⟨rfl, HB11.out⟩
        · obtain ⟨hlt, hl2⟩ := ho4.resolve_left hll
          rw [decide_eq_false hll]
          have HL2 := Lib.hid hl2
          clear hll ho4 hl2
          have g9 : decide ((i : Int) < (list.length : Int)) = true := decide_eq_true (by omega)
          have g9n : decide (i < list.length) = true := decide_eq_true hlt
          have hli2 : (list.take (i + 1)).length = i + 1 := by rw [List.length_take]; omega
          have hcut2 := cut_to_l A list.length c (i + 1) ((i : Int) + 1) (by omega) hlt hc
          go_wp2_with fail
          have hsm := same_any (c := c8) (d := c) HC11.out (Kd.C_below (take_l HLS.out (show i + 1 ≤ list.length from hlt)) HB11.out)
          rw [hli2, decide_eq_true HL2.out] at hsm
          refine hsm.mono ?_
          rintro e w12 ⟨rfl, hb12⟩
          have HB12 := Lib.hid (below_then HB11.out HB11.out.size hb12)
          clear hsm hb12
          go_wp2
          go_ret
          exact ⟨rfl, HB12.out⟩
end Go.Proofs.Ytiacjbandhedhaa.Jn

namespace Go.Proofs.Ytiacjbandhedhaa.journalRecovers
open Go.ChangeShapes Go.WideShapes Go.ChangeAt Go.RowKit
open Go.ChangeMaps (open_string shut_string)
set_option linter.unusedVariables false
theorem own : ownKnob Try.prog.godebug = none := by kernel_rfl
theorem laidOut : laidOutB Try.prog = true := by kernel_rfl
set_option maxRecDepth 100000 in
theorem lifted (os : Os) (started : os.Started) (H : Type) (enc : TypeId × Value → H) :
    ReturnsInHanded {} Try.checked os 11 .any (Rows.journalRecoversSpec.pre6 enc Try.prog Try.f11 Rows.journalRecoversRow.domain false) (Rows.journalRecoversSpec.post enc Try.prog Try.f11 false true false false) := by
  refine returnsInHanded_of_change_sized (C := Try.checked) own started (by kernel_rfl) Try.func11
    (ChangeSpec.witness6 (enc := enc) (C := Try.checked) false ⟨#[], #[.slice none 0 0, .int .i64 0, .int .i64 0], []⟩ 8 (by kernel_rfl) (by kernel_rfl) (by kernel_rfl) (by kernel_rfl)) ?_
  intro W base args ds gs before hval0 hW hcnd hsz0 _
  have hsz : (DataW.weightsEach Try.prog (Try.f11.params.toList ++ Rows.journalRecoversSpec.plain.varTypes Try.prog) (ds ++ gs)).all (· ≤ reachBytes) = true := hsz0
  have hval : ∀ (j : Nat) t v, Try.f11.params[j]? = some t → args[j]? = some v → Value.okWide Try.prog W .any base t v := hval0
  have hW' := hW
  obtain ⟨p, q, hA0, hV, rfl, hfz, hnd⟩ := hW
  have hA : DataW.TrodAll enc Try.prog W 0 (fun _ => true) true Try.f11.params.toList args.toList ds p := hA0
  rw [Try.params11] at hA hval hsz
  obtain ⟨v0, vs0, d0, ds0, p0, q0, hargs, rfl, rfl, h0, r0⟩ := trodAll_cons hA
  obtain ⟨v1, vs1, d1, ds1, p1, q1, rfl, rfl, rfl, h1, r1⟩ := trodAll_cons r0
  obtain ⟨v2, vs2, d2, ds2, p2, q2, rfl, rfl, rfl, h2, r2⟩ := trodAll_cons r1
  obtain ⟨rfl, rfl, rfl⟩ := trodAll_nil r2
  obtain rfl : args = #[v0, v1, v2] := by cases args; simp_all
  obtain ⟨rfl, rfl⟩ := trodVars_none hV
  obtain ⟨g0, A0, c0, rfl, l0, w0⟩ := Jn.open_bb (hval 0 26 v0 rfl rfl) h0
  have k0 := h0
  have lt0 : ∀ x ∈ p0, x.block < W.heap.size := by obtain ⟨m, hm⟩ := k0; exact DataW.trod_lt m _ _ _ hm
  obtain ⟨a1, rfl, rfl, rfl, w1⟩ := open_int Try.underlying3 (hval 1 3 v1 rfl rfl) h1
  obtain ⟨a2, rfl, rfl, rfl, w2⟩ := open_int Try.underlying3 (hval 2 3 v2 rfl rfl) h2
  clear hA0 hval0 hsz0 hsz
  refine (Jn.recovers_law w0 l0 a1 w1 a2).mono fun e W' ⟨he, bel⟩ => ?_
  subst he
  exact ⟨_, rfl, _, _, _, [], _, [], hW', trodAll_mk1 (shut_bool Try.underlying4 _), (trodAll_cons_mk (Below.trod laidOut (by kernel_rfl) (of_decide_eq_true (by kernel_rfl)) k0 bel lt0) (trodAll_cons_mk (shut_int Try.underlying3 w1) (trodAll_cons_mk (shut_int Try.underlying3 w2) trodAll_mk0))), rfl, bel.frame _, fun h => by cases h⟩
theorem over : Rows.journalRecoversRow.holds Try.pinned (OpenSpec.ofChange Rows.journalRecoversSpec) :=
  OpenClaim.holds_of_wide 11 Try.f11 rfl rfl rfl rfl rfl rfl rfl ⟨rfl, rfl, rfl, rfl, rfl⟩ rfl rfl rfl rfl rfl (by kernel_rfl) Try.func11 (by kernel_rfl)
    (of_decide_eq_true (by kernel_rfl)) (by unfold Func.isWrapper; first | (rw [if_pos (by decide +kernel)]; kernel_rfl) | (rw [if_neg (by decide +kernel)]; exact ⟨rfl, rfl⟩))
    (fun os started H enc _ => lifted os started H enc)
end Go.Proofs.Ytiacjbandhedhaa.journalRecovers
namespace Go.Proofs.Ytiacjbandhedhaa
/-- The row, under a short name, for the claim. -/
theorem journalRecovers_holds : Rows.JournalRecoversSaid := journalRecovers.over
#print axioms journalRecovers_holds
end Go.Proofs.Ytiacjbandhedhaa
