/- MemoryForgets: whatever the input, the call returns true, and the input reads as it did; the listed tables of the library start as the text lays them. No other conditions. -/
import Derived.Test.YtbahnpdgaoedmaaGreatDoorE17
import Derived.Test.YtbahnpdgaoedmaaGreatDoorRows
import Derived.Test.YtbahnpdgaoedmaaGreatDoorCards
import Derived.Test.YtbahnpdgaoedmaaGreatDoorTie
import Derived.WalkKit
import Derived.ProofKit
import Derived.LaidMore
import Derived.OpenShut
import Derived.ShutString
import Derived.ChangeOld
import Derived.Below
import Derived.SizedLaws
import Derived.Stop.Joined
import Derived.LaidSub
import Derived.MakeChecks
import Derived.SevenTiedAt
import Derived.Lib.LaidTab
namespace Go.Proofs.YtbahnpdgaoedmaaGreatDoor.Mm
open Go.RowKit Go.Proofs.YtbahnpdgaoedmaaGreatDoorW.PrintWords Go.Proofs.YtbahnpdgaoedmaaGreatDoorW.PrintLast Go.Proofs.YtbahnpdgaoedmaaGreatDoorW.PrintMore Go.Proofs.YtbahnpdgaoedmaaGreatDoor.PMemoryExact
set_option linter.unusedSimpArgs false
set_option linter.unusedVariables false
def restF (g : ByteArray) (xs : List Key) : List Key := xs.filter fun x => decide (x.1 ≠ g)
theorem rest_next {g : ByteArray} {xs : List Key} {i : Nat} (h : i < xs.length) : restF g (xs.take (i + 1)) = restF g (xs.take i) ++ (if xs[i].1 ≠ g then [xs[i]] else []) := by
  unfold restF
  rw [List.take_succ_eq_append_getElem h, List.filter_append]
  congr 1
  by_cases e : xs[i].1 = g <;> simp [e]
theorem rest_forget (es : List Ent) (g : ByteArray) : restF g (es.map pr) = (mForget es g).map pr := by
  unfold restF mForget
  rw [List.filter_map]
  rfl
theorem rest_len (g : ByteArray) (xs : List Key) : (restF g xs).length ≤ xs.length := List.length_filter_le _ _
set_option maxRecDepth 1000000 in
set_option maxHeartbeats 4000000 in
theorem forgets_law {w : World} {A : Option Addr} {c : Nat} {l : List S34} (hTB : TB w) (n : Int) (hC : k34.C w A l.length l) (hl : l.length ≤ c) (hr : ∀ x ∈ l, RgO x) (g : ByteArray) :
    Calls Tryz.prog 5 #[.int .i64 n, .slice A l.length c, .string g] w fun e w' => e = .returned (.bool true) ∧ Below w.heap.size w w' := by
  have HTB := Lib.hid hTB
  have HC := Lib.hid hC
  have HR := Lib.hid hr
  clear hTB hC hr
  go_enter Tryz.func5, Tryz.ntmps5
  go_wp2_with fail
  refine (awake_any HTB.out).mono ?_
  rintro e w1 ⟨rfl, hb1⟩
  have HB1 := Lib.hid hb1
  obtain ⟨b, hbo, hL⟩ := Large_any (Kd.C_below HC.out hb1) hl HR.out
  have HL := Lib.hid hL
  have HBO := Lib.hid hbo
  clear hb1 hL hbo
  go_wp2_with fail
  refine HL.out.mono ?_
  rintro e w2 ⟨rfl, hb2⟩
  have HB2 := Lib.hid (below_then HB1.out HB1.out.size hb2)
  clear hb2
  cases b with
  | true =>
    go_wp2
    go_ret
    exact ⟨rfl, HB2.out⟩
  | false =>
    have HO := Lib.hid (HBO.out rfl)
    by_cases hg : 50 < g.size
    · have g1 : decide (50 < (g.size : Int)) = true := decide_eq_true (by omega)
      have g2 : decide (50 < g.size) = true := decide_eq_true hg
      clear hg
      go_wp2
      go_ret
      exact ⟨rfl, HB2.out⟩
    · have g1 : decide (50 < (g.size : Int)) = false := decide_eq_false (by omega)
      have g2 : decide (50 < g.size) = false := decide_eq_false hg
      have HFL := Lib.hid (filled_any (c := c) (tb_below HTB.out HB2.out (Or.inl (Nat.le_refl _))) (Kd.C_below HC.out HB2.out) HO.out n)
      clear hg
      go_wp2_with fail
      refine HFL.out.mono ?_
      rintro e w3 ⟨m, rfl, ha3⟩
      have HE3 := Lib.hid ha3.entries
      have HLE := Lib.hid (show (fillF (roomOf n) l).length ≤ 256 by
        obtain ⟨_, _, _, _, _, _, _, _, _, h1, _, h2⟩ := ha3.ms
        omega)
      clear ha3 g1 g2
      obtain ⟨es, hes⟩ : ∃ es, fillF (roomOf n) l = es := ⟨_, rfl⟩
      rw [hes] at HE3 HLE
      clear hes
      go_wp2_with fail
      refine HE3.out.mono ?_
      rintro e w4 ⟨A4, c4, rfl, -, hr4, ha4, -⟩
      obtain ⟨V, hV⟩ : ∃ V, V = fun k => k < w2.heap.size ∨ (w3.heap.size ≤ k ∧ k < w4.heap.size) := ⟨_, rfl⟩
      rw [← hV] at ha4 hr4
      clear hV
      have HR4 := Lib.hid hr4
      have HA4 := Lib.hid ha4
      clear hr4 ha4
      have hel : (es.map pr).length = es.length := List.length_map _
      obtain ⟨xs, hxs⟩ : ∃ xs, es.map pr = xs := ⟨_, rfl⟩
      rw [hxs] at HR4 hel
      rw [← hel] at HR4 ⊢
      have HXS := Lib.hid hxs
      have HEL := Lib.hid hel
      have HXL := Lib.hid (show xs.length ≤ 256 by have := HLE.out; omega)
      clear hxs hel
      go_wp2
      go_loopw [8, 27] (fun v8 v27 wr => ∃ i : Nat, v27 = .int .i64 i ∧ i ≤ xs.length ∧ Kd.N kp 48 wr w4.heap.size (fun k => w4.heap.size ≤ k) v8 (restF g (xs.take i)) ∧ Below w4.heap.size w4 wr) (fun v8 v27 _ => xs.length - (intOf v27).toNat)
      case atStart => exact ⟨0, rfl, Nat.zero_le _, Kd.N_nil _ _ _ _ _, Below.refl _ _⟩
      case round =>
        obtain ⟨i, rfl, hi, hN, hB⟩ := hrel
        obtain ⟨A8, c8, rfl⟩ := Kd.N_slice hN
        have HN := Lib.hid hN
        have HB := Lib.hid hB
        clear hN hB
        by_cases hlt : i < xs.length
        · have hi0 : 0 ≤ (i : Int) := by omega
          have hi1 : (i : Int) < (xs.length : Int) := by omega
          obtain ⟨ad, e4, q0, q1⟩ := pair_F HR4.out.1.read HB.out i hlt
          subst e4
          have HRN := Lib.hid (rest_next (g := g) hlt)
          have HRL := Lib.hid (show (restF g (xs.take i)).length ≤ 256 by have := rest_len g (xs.take i); rw [List.length_take] at this; have := HXL.out; omega)
          obtain ⟨y, hy⟩ : ∃ y, xs[i] = y := ⟨_, rfl⟩
          rw [hy] at q0 q1 HRN
          clear hy
          have HAL := Lib.hid ((Below.refl wr.heap.size wr).alloc (Nat.le_refl _) (.cells #[.string y.1, .string y.2] 48))
          have HBA := Lib.hid (below_then HB.out HB.out.size HAL.out)
          have HNA := Lib.hid (Kd.N_below HN.out HAL.out)
          have HSZ := Lib.hid (show (wr.alloc (.cells #[.string y.1, .string y.2] 48)).heap.size = wr.heap.size + 1 by show (wr.heap.push _).size = _; simp)
          have hxl := HXL.out
          by_cases hyg : y.1 = g
          · have g1 : (y.1.toList == g.toList) = true := by rw [lang_beq, hyg]; simp
            have HRN2 := Lib.hid (show restF g (xs.take (i + 1)) = restF g (xs.take i) by rw [HRN.out]; simp [hyg])
            clear hyg
            go_wp2
            go_roundw
            case rel => exact ⟨i + 1, by go_num, hlt, by rw [HRN2.out]; exact HNA.out, HBA.out⟩
            case measure => simp [intOf]; omega
          · have g1 : (y.1.toList == g.toList) = false := by rw [lang_beq, decide_eq_false hyg]
            have HRN2 := Lib.hid (show restF g (xs.take (i + 1)) = restF g (xs.take i) ++ [y] by rw [HRN.out]; simp [hyg])
            clear hyg
            go_wp2_with (first | (at_builtin; go_loud (refine Kd.N_append kp (w0 := w4) (W := wr.alloc (.cells #[.string y.1, .string y.2] 48)) w4.heap.size rfl (.tmp 35) (.tmp 37) 44 48 _ 32 rfl Tryz.underlying44 info48 rfl (by decide) (by decide) (.slice A8 (restF g (xs.take i)).length c8) (restF g (xs.take i)) y [.string y.1, .string y.2] (fun k => w4.heap.size ≤ k) (fun _ => False) rfl (by rw [HSZ.out]; rfl) (kp_mkF _ _ _) (fun _ h => h.elim) (fun k hk => by have := HBA.out.size; omega) HNA.out HBA.out HBA.out.size (by have := HRL.out; omega) ?_); intro v9 w9 hr9 hb9 hg9 hat9; have HN9 := Lib.hid hr9; have HB9 := Lib.hid hb9; clear hr9 hb9 hg9 hat9) | fail)
            go_roundw
            case rel => exact ⟨i + 1, by go_num, hlt, by rw [HRN2.out]; exact HN9.out, HB9.out⟩
            case measure => simp [intOf]; omega
        · have hil : i = xs.length := by omega
          subst hil
          clear hlt hi
          have hN := HN.out
          rw [List.take_length] at hN ⊢
          have HA8 := Lib.hid (HA4.out.more HB.out)
          have HN8 := Lib.hid (show PV (fun k => V k ∨ (w4.heap.size ≤ k ∧ k < wr.heap.size)) wr (.slice A8 (restF g xs).length c8) (restF g xs) from ⟨PR.of hN, fun k hk => Or.inr ⟨Kd.N_base hN k hk, Kd.N_lt hN k hk⟩⟩)
          have HLN := Lib.hid HA8.out.len
          have HRL := Lib.hid (show (restF g xs).length ≤ xs.length from rest_len g xs)
          have HRE := Lib.hid (show restF g xs = (mForget es g).map pr by rw [← HXS.out]; exact rest_forget es g)
          have HML := Lib.hid (show (restF g xs).length = (mForget es g).length by rw [HRE.out, List.length_map])
          clear hN HN
          go_wp2_with fail
          refine HLN.out.mono ?_
          rintro e w5 ⟨rfl, rfl⟩
          have HFG := Lib.hid (HA8.out.forget g)
          go_wp2_with fail
          refine HFG.out.mono ?_
          rintro e w6 ⟨rfl, ha6, hb6⟩
          have HP6 := Lib.hid (HN8.out.kv hb6)
          have HE6 := Lib.hid ha6.entries
          have HB6 := Lib.hid (show Below w2.heap.size w2 w6 from ha6.bl)
          have hsub : wrap64 ((es.length : Int) - ((restF g xs).length : Int)) = ((es.length - (mForget es g).length : Nat) : Int) := by
            have h1 := HRL.out; have h2 := HML.out; have h3 := HEL.out; have h4 := HXL.out
            rw [wrap_small (by omega) (by omega)]
            omega
          rw [hsub]
          clear hsub
          obtain ⟨d, hd⟩ : ∃ d : Int, ((es.length - (mForget es g).length : Nat) : Int) = d := ⟨_, rfl⟩
          rw [hd]
          clear hd
          go_wp2_with fail
          refine HE6.out.mono ?_
          rintro e w7 ⟨A7, c7, rfl, -, hr7, ha7, hb7⟩
          have HR7 := Lib.hid hr7
          have HP7 := Lib.hid (HP6.out.below hb7)
          have HA7 := Lib.hid ha7
          clear hr7 ha7 hb7
          have hml : (mForget es g).length = ((mForget es g).map pr).length := (List.length_map _).symm
          rw [hml] at HR7 ⊢
          rw [HRE.out] at HP7 ⊢
          have HEQ := Lib.hid (equal_any (c1 := c7) (c2 := c8) HR7.out.1.read HP7.out.1.read)
          rw [decide_eq_true (show (mForget es g).map pr = (mForget es g).map pr from rfl)] at HEQ
          rw [List.length_map] at HEQ
          clear hml
          go_wp2_with fail
          refine HEQ.out.mono ?_
          rintro e w8 ⟨rfl, hb8⟩
          have HA8' := Lib.hid (HA7.out.same hb8)
          have HFG2 := Lib.hid (HA8'.out.forget g)
          rw [forget_twice, Nat.sub_self] at HFG2
          clear hb8
          go_wp2_with fail
          refine HFG2.out.mono ?_
          rintro e w9 ⟨rfl, ha9, -⟩
          have HB9 := Lib.hid (show Below w.heap.size w w9 from below_then HB2.out HB2.out.size ha9.bl)
          clear ha9
          go_wp2
          go_ret
          exact ⟨rfl, HB9.out⟩
end Go.Proofs.YtbahnpdgaoedmaaGreatDoor.Mm
namespace Go.Proofs.YtbahnpdgaoedmaaGreatDoor.memoryForgets
open Go.ChangeShapes Go.WideShapes Go.ChangeAt Go.RowKit
open Go.ChangeMaps (open_string shut_string)
set_option linter.unusedVariables false
theorem own : ownKnob Tryz.prog.godebug = none := by kernel_rfl
theorem laidOut : laidOutB Tryz.prog = true := by kernel_rfl
theorem tab_of {W : World} (h : laidMetH Tryz.prog Rows.memoryForgetsRow.laid W) : Mm.TB W := by
  rw [MakeChecks.laidMetH_plain _ _ _ (by kernel_rfl)] at h
  have h2 := laidMet.filter (fun x => x.1 == "internal/strconv.uint64pow10") h
  exact Lib.tabIs_of_head (name := "internal/strconv.uint64pow10") (k := .u64) (zs := Lib.pow10Tab) (rest := []) (g := 0) (t := 166) (e := 153) (n := 20) (by kernel_rfl) (by kernel_rfl) Tryz.underlying166 Tryz.underlying153 (by kernel_rfl) (by kernel_rfl) h2
theorem door_met (os : Os) (args : Array Value) : laidMetH Tryz.prog Rows.memoryForgetsRow.laid ((World.doorLaid Tryz.prog 400 os).forCall (fun _ _ => 0) ⟨#[], args, []⟩).memory :=
  laidMetH_of_parts3 (fuel := 8) (laidMet_of_run' 8 (by kernel_rfl) (by kernel_rfl)) (by kernel_rfl) (by kernel_rfl)
set_option maxRecDepth 100000 in
set_option maxHeartbeats 8000000 in
theorem lifted (os : Os) (started : os.Started) (H : Type) (enc : TypeId × Value → H) :
    ReturnsInHanded {} Tryz.checked os 5 .any (fun w args => (Rows.memoryForgetsSpec.pre enc Tryz.prog Tryz.f5 [] false w args ∧ laidMetH Tryz.prog Rows.memoryForgetsRow.laid w) ∧ sizedMet enc Tryz.prog Tryz.f5 (OpenSpec.ofChange Rows.memoryForgetsSpec) false w args) (Rows.memoryForgetsSpec.post enc Tryz.prog Tryz.f5 false true false false) := by
  refine returnsInHanded_of_change_and (C := Tryz.checked) (X := fun w _ => laidMetH Tryz.prog Rows.memoryForgetsRow.laid w) (fun _ _ _ hh h => h.of_heap hh) own started (by kernel_rfl) Tryz.func5
    (ChangeSpec.witness_shaped (enc := enc) (C := Tryz.checked) (os := os) (X := fun w _ => laidMetH Tryz.prog Rows.memoryForgetsRow.laid w) false (World.doorLaid Tryz.prog 400 os) #[.int .i64 0, .slice none 0 0, .string ByteArray.empty] 8 rfl (World.shaped_of_RefB (by kernel_rfl) (by kernel_rfl)) (by kernel_rfl) (by kernel_rfl) (by kernel_rfl) (door_met os _)) ?_
  intro W base args ds gs before hval0 hW _ _ hL _
  have hval : ∀ (j : Nat) t v, Tryz.f5.params[j]? = some t → args[j]? = some v → Value.okWide Tryz.prog W .any base t v := hval0
  have hW' := hW
  obtain ⟨p, q, hA0, hV, rfl, hfz, hnd⟩ := hW
  have hA : DataW.TrodAll enc Tryz.prog W 0 (fun _ => true) true Tryz.f5.params.toList args.toList ds p := hA0
  rw [Tryz.params5] at hA hval
  obtain ⟨v0, vs0, d0, ds0, p0, q0, hargs, rfl, rfl, h0, r0⟩ := trodAll_cons hA
  obtain ⟨v1, vs1, d1, ds1, p1, q1, rfl, rfl, rfl, h1, r1⟩ := trodAll_cons r0
  obtain ⟨v2, vs2, d2, ds2, p2, q2, rfl, rfl, rfl, h2, r2⟩ := trodAll_cons r1
  obtain ⟨rfl, rfl, rfl⟩ := trodAll_nil r2
  obtain rfl : args = #[v0, v1, v2] := by cases args; simp_all
  obtain ⟨rfl, rfl⟩ := trodVars_none hV
  obtain ⟨a0, rfl, rfl, rfl, w0⟩ := open_int Tryz.underlying3 (hval 0 3 v0 rfl rfl) h0
  obtain ⟨A1, c1, l1, rfl, x1, y1, z1⟩ := Mm.open_ops (hval 1 22 v1 rfl rfl) h1
  have k1 := h1
  have lt1 : ∀ x ∈ p1, x.block < W.heap.size := by obtain ⟨m, hm⟩ := k1; exact DataW.trod_lt m _ _ _ hm
  obtain ⟨a2, rfl, rfl, rfl, y2⟩ := open_string Tryz.underlying9 (hval 2 9 v2 rfl rfl) h2
  clear hA0 hval0
  refine (Mm.forgets_law (tab_of hL) a0 y1 x1 z1 a2).mono fun e W' ⟨he, bel⟩ => ?_
  subst he
  exact ⟨_, rfl, _, _, _, [], _, [], hW', trodAll_mk1 (shut_bool Tryz.underlying4 _), (trodAll_cons_mk (shut_int Tryz.underlying3 w0) (trodAll_cons_mk (Below.trod laidOut (by kernel_rfl) (of_decide_eq_true (by kernel_rfl)) k1 bel lt1) (trodAll_cons_mk (shut_string Tryz.underlying9 y2) trodAll_mk0))), rfl, bel.frame _, fun h => by cases h⟩
theorem over : Rows.memoryForgetsRow.holds Tryz.pinned (OpenSpec.ofChange Rows.memoryForgetsSpec) :=
  OpenClaim.holds_of_wide 5 Tryz.f5 rfl rfl rfl rfl rfl rfl rfl ⟨rfl, rfl, rfl, rfl, rfl⟩ rfl rfl rfl rfl rfl (by kernel_rfl) Tryz.func5 (by kernel_rfl)
    (of_decide_eq_true (by kernel_rfl)) (by unfold Func.isWrapper; first | (rw [if_pos (by decide +kernel)]; kernel_rfl) | (rw [if_neg (by decide +kernel)]; exact ⟨rfl, rfl⟩))
    (fun os started H enc _ => lifted os started H enc)
end Go.Proofs.YtbahnpdgaoedmaaGreatDoor.memoryForgets
namespace Go.Proofs.YtbahnpdgaoedmaaGreatDoor
/-- The tied card, under a short name, for the claim. -/
theorem memoryForgets_card : Rows.MemoryForgetsCardSaid :=
  Claim7.holds_tied_plain_at .later [] [.data, .data, .data] true (true, "fbf65e274c62c20eb874d022cfd42280684e99080fc4f1cdb62d30aa60215bb8") false
    memoryForgets.over (fun _ h => by cases h) (by kernel_rfl) (fun _ h => by cases h) memoryForgets_row_tie rfl ⟨rfl, rfl⟩ (by kernel_rfl) rfl
    (fun f fn hf hfn => by
      obtain rfl : f = 5 := Option.some.inj ((show Tryz.prog.funcNamed "pentaglot/pentaglotlaw52.MemoryForgets" = some 5 by kernel_rfl).symm.trans hf) |>.symm
      obtain rfl : fn = Tryz.f5 := (Option.some.inj (Tryz.func5.symm.trans hfn)).symm
      exact ⟨by kernel_rfl, fun j t ht => by
        rw [Tryz.params5] at ht
        have hm : t ∈ [3, 22, 9] := by simpa using Array.mem_of_getElem? ht
        have hall : ([3, 22, 9].all fun u => !Tryz.prog.wantsStandIn u) = true := by kernel_rfl
        exact (show Tryz.prog.wantsStandIn t = false by simpa using List.all_eq_true.1 hall t hm)⟩)
    (by kernel_rfl)
#print axioms memoryForgets_card
end Go.Proofs.YtbahnpdgaoedmaaGreatDoor
