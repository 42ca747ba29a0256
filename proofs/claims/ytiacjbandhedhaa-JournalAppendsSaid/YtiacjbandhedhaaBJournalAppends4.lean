/- JournalAppends: whatever the input, the call returns true, and the input reads as it did. No conditions. -/
import Derived.Test.YtiacjbandhedhaaBJournalAppends3
import Derived.Test.YtiacjbandhedhaaRows
import Derived.WalkKit
import Derived.ProofKit
import Derived.OpenShut
import Derived.ShutString
import Derived.ChangeOld
import Derived.Below
import Derived.SizedLaws
/- JournalAppends: what was appended before and after reopening is found in order. -/
namespace Go.Proofs.Ytiacjbandhedhaa.Jn
open Go.RowKit Go.Proofs.YtiacjbandhedhaaW.PrintWords Go.Proofs.YtiacjbandhedhaaW.PrintLast Go.Proofs.YtiacjbandhedhaaW.PrintMore
set_option linter.unusedSimpArgs false
set_option linter.unusedVariables false
theorem ok_app {a b : List (List UInt8)} (h : Ok a) (k : Ok b) : Ok (a ++ b) := fun r hr => (List.mem_append.1 hr).elim (h r) (k r)
theorem own_after {w : World} {o : Obj} {v : Value} {n c : Nat} (h : v.ownBlock = (Value.slice (some ⟨w.heap.size, 0, none⟩) n c).ownBlock ∨ ∃ b, v.ownBlock = some b ∧ (w.alloc o).heap.size ≤ b) : ∀ k, v.ownBlock = some k → w.heap.size ≤ k := by
  intro k hk
  rcases h with e | ⟨b, e, hb⟩
  · rw [e] at hk
    simp [Value.ownBlock] at hk
    omega
  · rw [e] at hk
    injection hk with hk
    have := ((Below.refl w.heap.size w).alloc (Nat.le_refl _) o).size
    omega
def ApOut (w : World) (g : Nat) (a b : List (List UInt8)) (v6 : Value) (wr : World) : Prop :=
  ∃ (r : Int) (l : List (List UInt8)), v6 = .int .i64 r ∧ (r = 0 ∧ l = [] ∨ r = 1 ∧ l = a ∨ r = 2 ∧ l = a ++ b) ∧ Ok l ∧ St w g (AD 8000 l) wr
def ApIn (w : World) (g j : Nat) (pre X : List (List UInt8)) (v11 : Value) (wr : World) : Prop :=
  ∃ i : Nat, v11 = .int .i64 i ∧ i ≤ X.length ∧ Ok (X.take i) ∧ Sj w g j (pre.length + i) false (AD 8000 (pre ++ X.take i)) wr
set_option maxRecDepth 1000000 in
set_option maxHeartbeats 4000000 in
theorem appends_law {w : World} {A B : Option Addr} {a b : List (List UInt8)} {c d : Nat} (h : kbs.C w A a.length (a.map ib)) (hc : a.length ≤ c) (h2 : kbs.C w B b.length (b.map ib)) (hd : b.length ≤ d) :
    Calls Try.prog 7 #[.slice A a.length c, .slice B b.length d] w fun e w' => e = .returned (.bool true) ∧ Below w.heap.size w w' := by
  have HA := Lib.hid h
  have HB := Lib.hid h2
  clear h h2
  by_cases hg : 6 < a.length ∨ 6 < b.length
  · have hg2 : decide (6 < (a.length : Int)) = true ∨ (decide (6 < (a.length : Int)) = false ∧ decide (6 < (b.length : Int)) = true) := by
      by_cases h6 : 6 < a.length
      · exact .inl (decide_eq_true (by omega))
      · exact .inr ⟨decide_eq_false (by omega), decide_eq_true (by omega)⟩
    clear hg
    rcases hg2 with g1 | ⟨g1, g2⟩
    all_goals
      go_enter Try.func7, Try.ntmps7
      go_wp2_with fail
      refine (awake_any _).mono ?_
      rintro e w1 ⟨rfl, hb1⟩
      have HB1 := Lib.hid hb1
      clear hb1
      go_wp2_with fail
      refine (awake_any _).mono ?_
      rintro e w2 ⟨rfl, hb2⟩
      have HB2 := Lib.hid (below_then HB1.out HB1.out.size hb2)
      clear hb2
      go_wp2
      go_ret
      exact ⟨rfl, HB2.out⟩
  · have h1 : a.length ≤ 6 := by omega
    have h3 : b.length ≤ 6 := by omega
    clear hg
    have ga : decide (6 < (a.length : Int)) = false := decide_eq_false (by omega)
    have gb : decide (6 < (b.length : Int)) = false := decide_eq_false (by omega)
    go_enter Try.func7, Try.ntmps7
    go_wp2_with fail
    refine (awake_any _).mono ?_
    rintro e w1 ⟨rfl, hb1⟩
    have HB1 := Lib.hid hb1
    clear hb1
    go_wp2_with fail
    refine (new_st w w1 HB1.out 8000 (by decide)).mono ?_
    rintro e w2 ⟨g, rfl, hs2⟩
    have HS2 := Lib.hid (show ApOut w g a b (.int .i64 0) w2 from ⟨0, [], rfl, .inl ⟨rfl, rfl⟩, ok_nil, hs2⟩)
    clear hs2
    go_wp2
    go_loopw [6] (fun v6 wr => ApOut w g a b v6 wr) (fun v6 _ => 2 - (intOf v6).toNat)
    case atStart => exact HS2.out
    case round =>
      clear HS2
      obtain ⟨r, l, rfl, hrl, hok, hs⟩ := hrel
      have HS := Lib.hid hs
      have HOK := Lib.hid hok
      clear hs hok
      rcases hrl with ⟨rfl, rfl⟩ | ⟨rfl, rfl⟩ | ⟨rfl, rfl⟩
      · as_aux_lemma =>
        -- round 0
        go_wp2_with fail
        refine (open_ad HS.out HOK.out).mono ?_
        rintro e w3 ⟨j, Al, cl, rfl, hs3, _, _⟩
        have HSI := Lib.hid (show ApIn w g j [] a (.int .i64 0) w3 from ⟨0, rfl, Nat.zero_le _, by simpa using ok_nil, by simpa using hs3⟩)
        clear hs3 HS
        go_wp2
        go_loopw [11] (fun v11 wr => ApIn w g j [] a v11 wr) (fun v11 _ => a.length - (intOf v11).toNat)
        case atStart => exact HSI.out
        case round =>
          clear HSI
          obtain ⟨i, rfl, hi, hok, hs⟩ := hrel
          have HSJ := Lib.hid hs
          have HOKI := Lib.hid hok
          clear hs hok
          by_cases hlt : i < a.length
          · have hi0 : 0 ≤ (i : Int) := by omega
            have hi1 : (i : Int) < (a.length : Int) := by omega
            obtain ⟨ad, B1, e1, rfl, q1, l1, k1⟩ := at_bs HA.out i hlt
            replace q1 := (HSJ.out.bel.cell (World.block_lt_of_cell? w _ q1)).trans q1
            have HK := Lib.hid k1
            have HTK := Lib.hid (show a.take (i + 1) = a.take i ++ [a[i]] from by rw [List.take_succ_eq_append_getElem hlt])
            have HFL := Lib.hid (show (frames ([] ++ a.take i)).length + 308 ≤ 8000 by
              have h1 := frames_le ([] ++ a.take i) (ok_app HOK.out HOKI.out)
              have h2 : (a.take i).length ≤ 6 := by rw [List.length_take]; omega
              have h3 : ([] ++ a.take i).length ≤ 12 := by rw [List.length_append]; have : ([] : List (List UInt8)).length ≤ 6 := (by simp); omega
              omega)
            obtain ⟨x, hx⟩ : ∃ x, a[i] = x := ⟨_, rfl⟩
            rw [hx] at q1 l1 HK HTK
            clear k1 hx
            by_cases hs : x.length < 1
            · have g1 : decide ((x.length : Int) < 1) = true := decide_eq_true (by omega)
              clear hs
              go_wp2
              go_ret
              exact ⟨rfl, HSJ.out.bel⟩
            · have g1 : decide ((x.length : Int) < 1) = false := decide_eq_false (by omega)
              by_cases hb3 : 300 < x.length
              · have g2 : decide (300 < (x.length : Int)) = true := decide_eq_true (by omega)
                clear hs hb3
                go_wp2
                go_ret
                exact ⟨rfl, HSJ.out.bel⟩
              · have g2 : decide (300 < (x.length : Int)) = false := decide_eq_false (by omega)
                have HXB := Lib.hid (show 1 ≤ x.length ∧ x.length ≤ 300 by omega)
                go_wp2_with fail
                refine (append_ad HSJ.out HK.out l1 HXB.out.1 HXB.out.2 HFL.out (by have : ([] : List (List UInt8)).length ≤ 6 := (by simp); omega)).mono ?_
                rintro e w5 ⟨rfl, hs5⟩
                have HS5 := Lib.hid (show ApIn w g j [] a (.int .i64 ((i : Int) + 1)) w5 from ⟨i + 1, by go_num, hlt, by rw [HTK.out]; exact ok_snoc HOKI.out HXB.out.1 HXB.out.2, by rw [HTK.out, ← List.append_assoc, ← Nat.add_assoc]; exact hs5⟩)
                clear hs5 HSJ
                go_wp2
                go_roundw
                case rel => exact HS5.out
                case measure => simp [intOf]; omega
          · have hin : i = a.length := by omega
            rw [hin, List.take_length] at HSJ HOKI
            go_wp2
            go_roundw
            case rel => exact ⟨_, [] ++ a, rfl, .inr (.inl ⟨rfl, rfl⟩), ok_app HOK.out HOKI.out, HSJ.out.st⟩
            case measure => simp [intOf]
      · as_aux_lemma =>
        -- round 1
        go_wp2_with fail
        refine (open_ad HS.out HOK.out).mono ?_
        rintro e w3 ⟨j, Al, cl, rfl, hs3, _, _⟩
        have HSI := Lib.hid (show ApIn w g j l b (.int .i64 0) w3 from ⟨0, rfl, Nat.zero_le _, by simpa using ok_nil, by simpa using hs3⟩)
        clear hs3 HS
        go_wp2
        go_loopw [11] (fun v11 wr => ApIn w g j l b v11 wr) (fun v11 _ => b.length - (intOf v11).toNat)
        case atStart => exact HSI.out
        case round =>
          clear HSI
          obtain ⟨i, rfl, hi, hok, hs⟩ := hrel
          have HSJ := Lib.hid hs
          have HOKI := Lib.hid hok
          clear hs hok
          by_cases hlt : i < b.length
          · have hi0 : 0 ≤ (i : Int) := by omega
            have hi1 : (i : Int) < (b.length : Int) := by omega
            obtain ⟨ad, B1, e1, rfl, q1, l1, k1⟩ := at_bs HB.out i hlt
            replace q1 := (HSJ.out.bel.cell (World.block_lt_of_cell? w _ q1)).trans q1
            have HK := Lib.hid k1
            have HTK := Lib.hid (show b.take (i + 1) = b.take i ++ [b[i]] from by rw [List.take_succ_eq_append_getElem hlt])
            have HFL := Lib.hid (show (frames (l ++ b.take i)).length + 308 ≤ 8000 by
              have h1 := frames_le (l ++ b.take i) (ok_app HOK.out HOKI.out)
              have h2 : (b.take i).length ≤ 6 := by rw [List.length_take]; omega
              have h3 : (l ++ b.take i).length ≤ 12 := by rw [List.length_append]; have : (l : List (List UInt8)).length ≤ 6 := (by omega); omega
              omega)
            obtain ⟨x, hx⟩ : ∃ x, b[i] = x := ⟨_, rfl⟩
            rw [hx] at q1 l1 HK HTK
            clear k1 hx
            by_cases hs : x.length < 1
            · have g1 : decide ((x.length : Int) < 1) = true := decide_eq_true (by omega)
              clear hs
              go_wp2
              go_ret
              exact ⟨rfl, HSJ.out.bel⟩
            · have g1 : decide ((x.length : Int) < 1) = false := decide_eq_false (by omega)
              by_cases hb3 : 300 < x.length
              · have g2 : decide (300 < (x.length : Int)) = true := decide_eq_true (by omega)
                clear hs hb3
                go_wp2
                go_ret
                exact ⟨rfl, HSJ.out.bel⟩
              · have g2 : decide (300 < (x.length : Int)) = false := decide_eq_false (by omega)
                have HXB := Lib.hid (show 1 ≤ x.length ∧ x.length ≤ 300 by omega)
                go_wp2_with fail
                refine (append_ad HSJ.out HK.out l1 HXB.out.1 HXB.out.2 HFL.out (by have : (l : List (List UInt8)).length ≤ 6 := (by omega); omega)).mono ?_
                rintro e w5 ⟨rfl, hs5⟩
                have HS5 := Lib.hid (show ApIn w g j l b (.int .i64 ((i : Int) + 1)) w5 from ⟨i + 1, by go_num, hlt, by rw [HTK.out]; exact ok_snoc HOKI.out HXB.out.1 HXB.out.2, by rw [HTK.out, ← List.append_assoc, ← Nat.add_assoc]; exact hs5⟩)
                clear hs5 HSJ
                go_wp2
                go_roundw
                case rel => exact HS5.out
                case measure => simp [intOf]; omega
          · have hin : i = b.length := by omega
            rw [hin, List.take_length] at HSJ HOKI
            go_wp2
            go_roundw
            case rel => exact ⟨_, l ++ b, rfl, .inr (.inr ⟨rfl, rfl⟩), ok_app HOK.out HOKI.out, HSJ.out.st⟩
            case measure => simp [intOf]
      · as_aux_lemma =>
        obtain ⟨l, hl⟩ : ∃ l, a ++ b = l := ⟨_, rfl⟩
        have hll : l.length = a.length + b.length := by rw [← hl, List.length_append]
        have HL := Lib.hid hl
        rw [hl] at HS HOK
        clear hl
        go_wp2_with fail
        refine (open_ad HS.out HOK.out).mono ?_
        rintro e w3 ⟨j, Al, cl, rfl, hs3, hcl, hC3⟩
        have HS3 := Lib.hid hs3
        have HC3 := Lib.hid hC3
        clear hs3 hC3 HS
        rw [hll]
        go_wp2_with fail
        have hln := len_st HS3.out
        rw [hll] at hln
        refine hln.mono ?_
        rintro e w4 ⟨rfl, rfl⟩
        clear hln
        have HAL := Lib.hid ((Below.refl w3.heap.size w3).alloc (Nat.le_refl _) (.cells #[] 22))
        have HBW := Lib.hid (below_then HS3.out.bel HS3.out.bel.size HAL.out)
        have HN := Lib.hid (show Kd.N kbs 22 (w3.alloc (.cells #[] 22)) w.heap.size (fun _ => True) (.slice (some ⟨w3.heap.size, 0, none⟩) 0 0) [] from Kd.R_N (⟨fun _ _ => trivial, [], ⟨rfl, .inr ⟨w3.heap.size, 0, #[], rfl, HS3.out.bel.size, blk_new w3 _, Nat.le_refl _, by simp [maxLen], rfl, rfl⟩⟩, ⟨rfl, fun j p hj => by simp at hj⟩⟩))
        have HFA := Lib.hid (Kd.F_below (Kd.C_F (Kd.heap_slice 5 (Kd.heap_int .u8)) HA.out) HBW.out)
        have HFB := Lib.hid (Kd.F_below (Kd.C_F (Kd.heap_slice 5 (Kd.heap_int .u8)) HB.out) HBW.out)
        have HFC := Lib.hid (Kd.F_below (Kd.C_F (Kd.heap_slice 5 (Kd.heap_int .u8)) HC3.out) HAL.out)
        have HLE := Lib.hid (show w.heap.size ≤ w3.heap.size from HS3.out.bel.size)
        clear HA HB HS3 HC3 HOK
        go_wp2_with (first | (at_builtin; (refine wpList_step (fun Kc hKc => ?_)); (refine Kd.N_append_rows_step kbs (w0 := w) w.heap.size (by rfl) (.tmp 92) (.tmp 93) 26 22 _ 24 rfl Try.underlying26 info22 rfl (by decide) (by decide) (.slice (some ⟨w3.heap.size, 0, none⟩) 0 0) ([]) (a.map ib) A a.length c (fun _ => True) (fun k => k < w.heap.size) rfl rfl HN.out HFA.out (fun k hk => ⟨trivial, fun e => absurd (Kd.N_base HN.out k e.symm) (Nat.not_le_of_lt hk)⟩) (fun _ _ => trivial) HBW.out HBW.out.size (by simp; omega) ?_); intro v9 w9 hr9 hb9 hg9 hat9; have HN9 := Lib.hid hr9; have HB9 := Lib.hid hb9; have HF9 := Lib.hid (Kd.F_grown HFB.out hg9 (fun k hk e => by have := HLE.out; simp [Value.ownBlock] at e; omega)); have HC9 := Lib.hid (Kd.F_grown HFC.out hg9 (fun k hk e => by simp [Value.ownBlock] at e; omega)); have HO9 := Lib.hid (own_after hat9); clear hr9 hb9 hg9 hat9; (refine hKc _ _ ?_)) | (at_builtin; (refine wpList_step (fun Kc hKc => ?_)); (refine Kd.N_append_rows_step kbs (w0 := w) w.heap.size (by rfl) (.tmp 94) (.tmp 95) 26 22 _ 24 rfl Try.underlying26 info22 rfl (by decide) (by decide) v9 ([] ++ a.map ib) (b.map ib) B b.length d (fun _ => True) (fun k => k < w.heap.size) rfl rfl HN9.out HF9.out (fun k hk => ⟨trivial, fun e => absurd (Kd.N_base HN9.out k e.symm) (Nat.not_le_of_lt hk)⟩) (fun _ _ => trivial) HB9.out HB9.out.size (by simp; omega) ?_); (intro v10 w10 hr10 hb10 hg10 hat10; have HN10 := Lib.hid hr10; have HB10 := Lib.hid hb10; have HC10 := Lib.hid (Kd.F_grown HC9.out hg10 (fun k hk e => by have := HO9.out k e.symm; omega)); clear hr10 hb10 hg10 hat10; obtain ⟨Ax, cx, hvx, hlx, hCx⟩ := Kd.N_reads HN10.out; rw [List.nil_append, ← List.map_append, HL.out] at hvx hCx; rw [List.length_map, hll] at hvx; subst hvx; have HCX := Lib.hid hCx; refine hKc _ _ ?_)) | fail)
        have hsm := same_any (c := cl) (d := cx) HC10.out.now (show kbs.C w10 Ax l.length (l.map ib) by have := HCX.out; rwa [List.length_map] at this)
        rw [hll] at hsm
        refine hsm.mono ?_
        rintro e w11 ⟨rfl, hb11⟩
        have HB11 := Lib.hid (below_then HB10.out HB10.out.size hb11)
        clear hsm hb11
        go_wp2
        go_ret
        exact ⟨by simp, HB11.out⟩
end Go.Proofs.Ytiacjbandhedhaa.Jn

namespace Go.Proofs.Ytiacjbandhedhaa.journalAppends
open Go.ChangeShapes Go.WideShapes Go.ChangeAt Go.RowKit
open Go.ChangeMaps (open_string shut_string)
set_option linter.unusedVariables false
theorem own : ownKnob Try.prog.godebug = none := by kernel_rfl
theorem laidOut : laidOutB Try.prog = true := by kernel_rfl
set_option maxRecDepth 100000 in
theorem lifted (os : Os) (started : os.Started) (H : Type) (enc : TypeId × Value → H) :
    ReturnsInHanded {} Try.checked os 7 .any (Rows.journalAppendsSpec.pre6 enc Try.prog Try.f7 Rows.journalAppendsRow.domain false) (Rows.journalAppendsSpec.post enc Try.prog Try.f7 false true false false) := by
  refine returnsInHanded_of_change_sized (C := Try.checked) own started (by kernel_rfl) Try.func7
    (ChangeSpec.witness6 (enc := enc) (C := Try.checked) false ⟨#[], #[.slice none 0 0, .slice none 0 0], []⟩ 8 (by kernel_rfl) (by kernel_rfl) (by kernel_rfl) (by kernel_rfl)) ?_
  intro W base args ds gs before hval0 hW hcnd hsz0 _
  have hsz : (DataW.weightsEach Try.prog (Try.f7.params.toList ++ Rows.journalAppendsSpec.plain.varTypes Try.prog) (ds ++ gs)).all (· ≤ reachBytes) = true := hsz0
  have hval : ∀ (j : Nat) t v, Try.f7.params[j]? = some t → args[j]? = some v → Value.okWide Try.prog W .any base t v := hval0
  have hW' := hW
  obtain ⟨p, q, hA0, hV, rfl, hfz, hnd⟩ := hW
  have hA : DataW.TrodAll enc Try.prog W 0 (fun _ => true) true Try.f7.params.toList args.toList ds p := hA0
  rw [Try.params7] at hA hval hsz
  obtain ⟨v0, vs0, d0, ds0, p0, q0, hargs, rfl, rfl, h0, r0⟩ := trodAll_cons hA
  obtain ⟨v1, vs1, d1, ds1, p1, q1, rfl, rfl, rfl, h1, r1⟩ := trodAll_cons r0
  obtain ⟨rfl, rfl, rfl⟩ := trodAll_nil r1
  obtain rfl : args = #[v0, v1] := by cases args; simp_all
  obtain ⟨rfl, rfl⟩ := trodVars_none hV
  obtain ⟨g0, A0, c0, rfl, l0, w0⟩ := Jn.open_bb (hval 0 26 v0 rfl rfl) h0
  have k0 := h0
  have lt0 : ∀ x ∈ p0, x.block < W.heap.size := by obtain ⟨m, hm⟩ := k0; exact DataW.trod_lt m _ _ _ hm
  obtain ⟨g1, A1, c1, rfl, l1, w1⟩ := Jn.open_bb (hval 1 26 v1 rfl rfl) h1
  have k1 := h1
  have lt1 : ∀ x ∈ p1, x.block < W.heap.size := by obtain ⟨m, hm⟩ := k1; exact DataW.trod_lt m _ _ _ hm
  clear hA0 hval0 hsz0 hsz
  refine (Jn.appends_law w0 l0 w1 l1).mono fun e W' ⟨he, bel⟩ => ?_
  subst he
  exact ⟨_, rfl, _, _, _, [], _, [], hW', trodAll_mk1 (shut_bool Try.underlying4 _), (trodAll_cons_mk (Below.trod laidOut (by kernel_rfl) (of_decide_eq_true (by kernel_rfl)) k0 bel lt0) (trodAll_cons_mk (Below.trod laidOut (by kernel_rfl) (of_decide_eq_true (by kernel_rfl)) k1 bel lt1) trodAll_mk0)), rfl, bel.frame _, fun h => by cases h⟩
theorem over : Rows.journalAppendsRow.holds Try.pinned (OpenSpec.ofChange Rows.journalAppendsSpec) :=
  OpenClaim.holds_of_wide 7 Try.f7 rfl rfl rfl rfl rfl rfl rfl ⟨rfl, rfl, rfl, rfl, rfl⟩ rfl rfl rfl rfl rfl (by kernel_rfl) Try.func7 (by kernel_rfl)
    (of_decide_eq_true (by kernel_rfl)) (by unfold Func.isWrapper; first | (rw [if_pos (by decide +kernel)]; kernel_rfl) | (rw [if_neg (by decide +kernel)]; exact ⟨rfl, rfl⟩))
    (fun os started H enc _ => lifted os started H enc)
end Go.Proofs.Ytiacjbandhedhaa.journalAppends
namespace Go.Proofs.Ytiacjbandhedhaa
/-- The row, under a short name, for the claim. -/
theorem journalAppends_holds : Rows.JournalAppendsSaid := journalAppends.over
#print axioms journalAppends_holds
end Go.Proofs.Ytiacjbandhedhaa
