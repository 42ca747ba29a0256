/- MemoryRecent: whatever the input, the call returns true, and the input reads as it did; the listed tables of the library start as the text lays them. No other conditions. -/
import Derived.Test.YtbahnpdgaoedmaaGreatDoorE17
import Derived.Test.YtbahnpdgaoedmaaGreatDoorRows
import Derived.Test.YtbahnpdgaoedmaaGreatDoorCards
import Derived.Test.YtbahnpdgaoedmaaGreatDoorTie
import Derived.WalkKit
import Derived.ProofKit
import Derived.LaidMore
import Derived.OpenShut
import Derived.ShutString
import Derived.ChangeOld
import Derived.Below
import Derived.SizedLaws
import Derived.Stop.Joined
import Derived.LaidSub
import Derived.MakeChecks
import Derived.SevenTiedAt
import Derived.Lib.LaidTab
namespace Go.Proofs.YtbahnpdgaoedmaaGreatDoor.Mm
open Go.RowKit Go.Proofs.YtbahnpdgaoedmaaGreatDoorW.PrintWords Go.Proofs.YtbahnpdgaoedmaaGreatDoorW.PrintLast Go.Proofs.YtbahnpdgaoedmaaGreatDoorW.PrintMore Go.Proofs.YtbahnpdgaoedmaaGreatDoor.PMemoryExact
set_option linter.unusedSimpArgs false
set_option linter.unusedVariables false
abbrev nw : ByteArray := ⟨#[110, 101, 119]⟩
theorem keyF_lang {g : ByteArray} {x : S32} {k : Key} (h : keyF g x = (k, 0)) : k.1 = g := by
  unfold keyF at h
  split at h
  · have := congrArg (fun p => p.1.1) h; exact this.symm
  · rename_i h2
    exact absurd (congrArg (fun p => p.2) h) h2
theorem put_new {room : Nat} {es : List Ent} {g : ByteArray} {x : S32} {k : Key} (h : keyF g x = (k, 0)) (hh : hasK es k = false) : putF room es g x nw = ((if es.length = room then es.tail else es) ++ [⟨k.1, k.2, nw⟩], 0) := by
  unfold putF mStore
  rw [h, hh]
  simp
  decide
theorem find_has {es : List Ent} {g : ByteArray} {x : S32} {k : Key} (h : keyF g x = (k, 0)) (hh : hasK es k = true) : ∃ fs t, findF es g x = (fs, t, true, 0) := by
  unfold findF
  rw [h]
  obtain ⟨e, he, hk⟩ := hasK_iff.1 hh
  cases hf : es.find? (fun e => decide (e.key = k)) with
  | none =>
    rw [List.find?_eq_none] at hf
    exact absurd (decide_eq_true hk) (hf e he)
  | some e => exact ⟨_, _, rfl⟩
theorem info48p : ∃ i, Tryz.prog.info? 48 = some i ∧ i.size = 2 := by
  obtain ⟨i, hi, hz⟩ := Option.map_eq_some_iff.1 info48
  exact ⟨i, hi, by simp only [Prod.mk.injEq] at hz; exact hz.2.1⟩
/-- b[m:]. -/
theorem cut_from_p (A : Option Addr) (n c m : Nat) (j : Int) (hj : j = (m : Int)) (hm : m ≤ n) :
    ∃ A' : Option Addr, (∀ W : World, (Instr.slice 44 (.slice A n c) (some (.int .i64 j)) none none).run Tryz.prog W = .ok (.slice A' (n - m) (c - m)) W) ∧ ∀ (w : World) (ok : Nat → Prop) (b : List Key), b.length = n → n ≤ c → Kd.F kp w ok A n b → Kd.F kp w ok A' (n - m) (b.drop m) := by
  subst hj
  obtain ⟨i, hi, hsz⟩ := info48p
  have h := cut_from (P := Tryz.prog) 44 48 .i64 Tryz.underlying44 hi 2 hsz A n c (m : Int) (by omega) (by omega)
  simp only [Int.toNat_natCast] at h
  refine ⟨_, h, fun w ok b hb hc hC => ?_⟩
  subst hb
  have := Kd.F_cut (c := c) hC hm hc
  rwa [List.length_drop] at this
/-- b[:m]. -/
theorem cut_to_p (A : Option Addr) (n c m : Nat) (j : Int) (hj : j = (m : Int)) (hm : m ≤ n) (hnc : n ≤ c) :
    (∀ W : World, (Instr.slice 44 (.slice A n c) none (some (.int .i64 j)) none).run Tryz.prog W = .ok (.slice A m c) W) := by
  subst hj
  obtain ⟨i, hi, hsz⟩ := info48p
  have h := cut_to (P := Tryz.prog) 44 48 .i64 Tryz.underlying44 hi A n c (m : Int) (by omega) (by omega) hnc
  simp only [Int.toNat_natCast] at h
  exact h
theorem take_p {w : World} {ok : Nat → Prop} {A : Option Addr} {n m : Nat} {b : List Key} (h : Kd.F kp w ok A n b) (hb : b.length = n) (hm : m ≤ n) : Kd.F kp w ok A m (b.take m) := by
  subst hb
  have := Kd.F_take h hm
  rwa [List.length_take, Nat.min_eq_left hm] at this
set_option maxRecDepth 1000000 in
set_option maxHeartbeats 4000000 in
theorem recent_law {w : World} {A : Option Addr} {c : Nat} {l : List S34} (hTB : TB w) (n : Int) (hC : k34.C w A l.length l) (hl : l.length ≤ c) (hr : ∀ x ∈ l, RgO x) (g : ByteArray) {x : S32} {cs : List Value} (hK : k32.K w x cs) (hrx : Rg32 x) :
    Calls Tryz.prog 4 #[.int .i64 n, .slice A l.length c, .string g, .agg cs.toArray] w fun e w' => e = .returned (.bool true) ∧ Below w.heap.size w w' := by
  have HTB := Lib.hid hTB
  have HC := Lib.hid hC
  have HR := Lib.hid hr
  have HKK := Lib.hid hK
  have HX := Lib.hid (self_F hK)
  have HRX := Lib.hid hrx
  obtain ⟨A2, c2, A5, c5, rfl, -⟩ := k32_open hK
  have HB0 := Lib.hid (one_blk w #[.int .i64 x.f0, .string x.f1, .slice A2 x.f2.length c2, .int .i64 x.f3, .int .i64 x.f4, .slice A5 x.f5.length c5])
  have HAW := Lib.hid (awake_any (tb_below HTB.out HB0.out.2 (Or.inl (Nat.le_refl _))))
  clear hTB hC hr hK hrx
  go_enter Tryz.func4, Tryz.ntmps4
  go_wp2_with fail
  refine HAW.out.mono ?_
  rintro e w1 ⟨rfl, hb1⟩
  have HB1 := Lib.hid (below_then HB0.out.2 HB0.out.2.size hb1)
  have HBX1 := Lib.hid ((hb1.block _ (blk_lt HB0.out.1)).trans HB0.out.1)
  obtain ⟨b, hbo, hL⟩ := Large_any (Kd.C_below HC.out HB1.out) hl HR.out
  have HL := Lib.hid hL
  have HBO := Lib.hid hbo
  clear hb1 hL hbo
  go_wp2_with fail
  refine HL.out.mono ?_
  rintro e w2 ⟨rfl, hb2⟩
  have HB2 := Lib.hid (below_then HB1.out HB1.out.size hb2)
  have HBX2 := Lib.hid ((hb2.block _ (blk_lt HBX1.out)).trans HBX1.out)
  clear hb2
  cases b with
  | true =>
    go_wp2
    go_ret
    exact ⟨rfl, HB2.out⟩
  | false =>
    have HO := Lib.hid (HBO.out rfl)
    by_cases hg : 50 < g.size
    · have g1 : decide (50 < (g.size : Int)) = true := decide_eq_true (by omega)
      have g2 : decide (50 < g.size) = true := decide_eq_true hg
      clear hg
      go_wp2
      go_ret
      exact ⟨rfl, HB2.out⟩
    · have g1 : decide (50 < (g.size : Int)) = false := decide_eq_false (by omega)
      have g2 : decide (50 < g.size) = false := decide_eq_false hg
      clear hg
      obtain ⟨b2, hb2o, hS⟩ := Small_any (n := 20) (k32.K_below HB2.out HKK.out) HRX.out (by omega)
      have HS := Lib.hid hS
      have HBO2 := Lib.hid hb2o
      obtain ⟨k0, k1, k2, k3, k4, k5⟩ := cells_of HBX2.out
      clear hS hb2o
      go_wp2_with fail
      refine HS.out.mono ?_
      rintro e w3 ⟨rfl, hb3⟩
      have HB3 := Lib.hid (below_then HB2.out HB2.out.size hb3)
      have HBX3 := Lib.hid ((hb3.block _ (blk_lt HBX2.out)).trans HBX2.out)
      clear hb3 k0 k1 k2 k3 k4 k5
      cases b2 with
      | false =>
        go_wp2
        go_ret
        exact ⟨rfl, HB3.out⟩
      | true =>
        have HSM := Lib.hid (HBO2.out rfl)
        have HFL := Lib.hid (filled_any (c := c) (tb_below HTB.out HB3.out (Or.inl (Nat.le_refl _))) (Kd.C_below HC.out HB3.out) HO.out n)
        clear g1 g2
        go_wp2_with fail
        refine HFL.out.mono ?_
        rintro e w4 ⟨m, rfl, ha4⟩
        have HE4 := Lib.hid ha4.entries
        have HLE := Lib.hid (show (fillF (roomOf n) l).length ≤ roomOf n ∧ roomOf n ≤ 256 ∧ 1 ≤ roomOf n by
          obtain ⟨_, _, _, _, _, _, _, _, _, h1, h3, h2⟩ := ha4.ms
          omega)
        clear ha4
        obtain ⟨es, hes⟩ : ∃ es, fillF (roomOf n) l = es := ⟨_, rfl⟩
        rw [hes] at HE4 HLE
        clear hes
        go_wp2_with fail
        refine HE4.out.mono ?_
        rintro e w5 ⟨A6, c6, rfl, hcap, hr5, ha5, -⟩
        obtain ⟨V, hV⟩ : ∃ V, V = fun k => k < w3.heap.size ∨ (w4.heap.size ≤ k ∧ k < w5.heap.size) := ⟨_, rfl⟩
        rw [← hV] at ha5 hr5
        clear hV
        have HCAP := Lib.hid hcap
        clear hcap
        have HR5 := Lib.hid hr5
        have HA5 := Lib.hid ha5
        have HW5 := Lib.hid (show Below w3.heap.size w3 w5 from ha5.bl)
        have HB5 := Lib.hid (below_then HB3.out HB3.out.size HW5.out)
        have HBX5 := Lib.hid ((HW5.out.block _ (blk_lt HBX3.out)).trans HBX3.out)
        have HF5 := Lib.hid (Kd.FK_below HX.out HB5.out)
        have HFI := Lib.hid (HA5.out.find g HF5.out (fun k hk => Nat.lt_of_lt_of_le hk HB5.out.size) HSM.out.2 (by have := HSM.out.1; omega))
        obtain ⟨q, hq⟩ : ∃ q, keyF g x = q := ⟨_, rfl⟩
        have HKQ := Lib.hid hq
        obtain ⟨k0, k1, k2, k3, k4, k5⟩ := cells_of HBX5.out
        clear hr5 ha5
        obtain ⟨kk, z⟩ := q
        by_cases hz : z = 0
        · subst hz
          cases hh : hasK es kk with
          | true =>
            obtain ⟨fs, tt, hfe⟩ := find_has hq hh
            rw [hfe] at HFI
            clear hq hh hfe
            go_wp2_with fail
            refine HFI.out.mono ?_
            rintro e w6 ⟨rfl, ha6, hb6⟩
            have HB6 := Lib.hid (show Below w.heap.size w w6 from below_then HB3.out HB3.out.size ha6.bl)
            clear ha6 hb6
            go_wp2
            go_ret
            exact ⟨rfl, HB6.out⟩
          | false =>
            have hfe : findF es g x = (es, eStr, false, 0) := by
              unfold findF
              rw [hq, find_nokey hh]
              rfl
            have HPN := Lib.hid (put_new (room := roomOf n) hq hh)
            have HKL := Lib.hid (keyF_lang hq)
            rw [hfe] at HFI
            clear hq hh hfe
            go_wp2_with fail
            refine HFI.out.mono ?_
            rintro e w6 ⟨rfl, ha6, hb6⟩
            have HB6 := Lib.hid (show Below w.heap.size w w6 from below_then HB3.out HB3.out.size ha6.bl)
            have HBX6 := Lib.hid ((hb6 _ (HA5.out.old _ (blk_lt HBX3.out))).trans HBX5.out)
            have HR6 := Lib.hid (HR5.out.kv hb6)
            have HLN := Lib.hid ha6.len
            have HPT := Lib.hid (ha6.put g nw (Kd.FK_below HX.out HB6.out) (fun k hk => Nat.lt_of_lt_of_le hk HB6.out.size) HSM.out.2 (by have := HSM.out.1; omega))
            rw [HPN.out] at HPT
            clear ha6 hb6 k0 k1 k2 k3 k4 k5
            obtain ⟨k0, k1, k2, k3, k4, k5⟩ := cells_of HBX6.out
            by_cases hf : es.length = roomOf n
            · obtain ⟨k, hk⟩ : ∃ k, es.length = k + 1 := ⟨es.length - 1, by have := HLE.out; omega⟩
              have hk256 : k ≤ 256 := by have := HLE.out; omega
              have gq : ((k : Int) + 1 == min (max n 1) 256) = true := by
                have := roomOf_is n
                rw [beq_iff_eq]
                omega
              obtain ⟨L, hL⟩ : ∃ L, (if es.length = roomOf n then es.tail else es) ++ [(⟨kk.1, kk.2, nw⟩ : Ent)] = L := ⟨_, rfl⟩
              rw [hL] at HPT
              have HPR := Lib.hid (show L.map pr = (es.map pr).drop 1 ++ [(g, nw)] by
                rw [← hL, if_pos hf, List.map_append, ← List.drop_one, List.map_drop]
                show _ ++ [(kk.1, nw)] = _
                rw [HKL.out])
              have HNL := Lib.hid (show L.length = k + 1 by rw [← hL, if_pos hf, List.length_append, List.length_tail, hk]; rfl)
              have hml : (es.map pr).length = k + 1 := by rw [List.length_map, hk]
              have HML := Lib.hid hml
              rw [hk] at HR6 HLN HCAP ⊢
              have hc6 := HCAP.out
              obtain ⟨A7, hcut, hF7⟩ := cut_from_p A6 (k + 1) c6 1 1 rfl (by omega)
              rw [Nat.add_sub_cancel] at hcut hF7
              have HF7 := Lib.hid hF7
              clear hf hL hk hml hF7
              go_wp2_with fail
              refine HLN.out.mono ?_
              rintro e w6' ⟨rfl, rfl⟩
              go_wp2_with fail
              refine HPT.out.mono ?_
              rintro e w7 ⟨rfl, ha7, hb7⟩
              have HE7 := Lib.hid ha7.entries
              have HR7 := Lib.hid (HR6.out.kv hb7)
              have HNL2 := Lib.hid HNL.out
              rw [HNL2.out] at HE7
              obtain ⟨n8, hn8⟩ : ∃ n8, k + 1 = n8 := ⟨_, rfl⟩
              rw [hn8] at HE7 HNL2
              have HN8 := Lib.hid hn8
              clear hn8 ha7 hb7 k0 k1 k2 k3 k4 k5
              go_wp2_with fail
              refine HE7.out.mono ?_
              rintro e w8 ⟨A8, c8, rfl, hcap8, hr8, ha8, hb8⟩
              have hn8 := HN8.out
              have HR8 := Lib.hid hr8
              have HB8 := Lib.hid (show Below w.heap.size w w8 from below_then HB3.out HB3.out.size ha8.bl)
              have HR8b := Lib.hid (HR7.out.below hb8)
              have HLP := Lib.hid (show (L.map pr).length = n8 by rw [List.length_map]; exact HNL2.out)
              have HFB := Lib.hid (show Kd.F kp w8 _ A7 k ((es.map pr).drop 1) from HF7.out _ _ _ HML.out HCAP.out HR8b.out.1.read)
              have hyl : (((es.map pr).drop 1)).length = k := (by rw [List.length_drop, HML.out]; omega)
              have HYL := Lib.hid hyl
              have hct := cut_to_p A8 n8 c8 k (k : Int) rfl (by omega) hcap8
              have HFA := Lib.hid (take_p (m := k) HR8.out.1.read HLP.out (by omega))
              have HTK := Lib.hid (show (L.map pr).take k = ((es.map pr).drop 1) by rw [HPR.out, List.take_append_of_le_length (by omega), List.take_of_length_le (by omega)])
              have HLT := Lib.hid (show (L.map pr)[k]'(by rw [HLP.out]; omega) = (g, nw) by
                simp only [HPR.out]
                rw [List.getElem_append_right (by omega)]
                simp [hyl])
              obtain ⟨ad, eA, q0, q1⟩ := pair_F (l := L.map pr) (show Kd.F kp w8 _ A8 (L.map pr).length (L.map pr) by rw [HLP.out]; exact HR8.out.1.read) (Below.refl _ _) k (by rw [HLP.out]; omega)
              rw [HLT.out] at q0 q1
              dsimp only at q0 q1
              have HEQ := Lib.hid (equal_any (A1 := A8) (A2 := A7) (c1 := c8) (c2 := (c6 - 1)) (l1 := ((es.map pr).drop 1)) (l2 := ((es.map pr).drop 1)) (show Kd.F kp w8 _ A8 (((es.map pr).drop 1)).length ((es.map pr).drop 1) by rw [HYL.out, ← HTK.out]; exact HFA.out) (show Kd.F kp w8 _ A7 (((es.map pr).drop 1)).length ((es.map pr).drop 1) by rw [HYL.out]; exact HFB.out))
              rw [HYL.out, decide_eq_true (show ((es.map pr).drop 1) = ((es.map pr).drop 1) from rfl)] at HEQ
              have g8 : ((n8 : Int) == IntKind.i64.wrap ((k : Int) + 1)) = true := by
                rw [IntKind.wrap_i64, beq_iff_eq]
                omega
              have g9 : ((n8 : Int) == wrap64 ((k : Int) + 1)) = true := by
                rw [wrap_small (by omega) (by omega), beq_iff_eq]
                omega
              have g7 : ((n8 : Int) == (k : Int) + 1) = true := by rw [beq_iff_eq]; omega
              clear g8 g9
              have heq := fun W => eql48 W (g, nw) (g, nw)
              rw [decide_eq_true (show ((g, nw) : Key) = (g, nw) from rfl)] at heq
              dsimp only at heq
              have hk0 : 0 ≤ (k : Int) := by omega
              have hk1 : (k : Int) < (n8 : Int) := by omega
              subst eA
              clear hr8 ha8 hyl HLT hn8
              go_wp2_with fail
              refine HEQ.out.mono ?_
              rintro e w9 ⟨rfl, hb9⟩
              have HB9 := Lib.hid (below_then HB8.out HB8.out.size hb9)
              replace q0 := cell_up hb9 q0
              replace q1 := cell_up hb9 q1
              clear hb9
              go_wp2
              go_ret
              exact ⟨rfl, HB9.out⟩
            · obtain ⟨k, hk⟩ : ∃ k, es.length = k := ⟨_, rfl⟩
              have hk256 : k ≤ 256 := by have := HLE.out; omega
              have gq : ((k : Int) == min (max n 1) 256) = false := by
                have := roomOf_is n
                rw [beq_eq_false_iff_ne]
                omega
              obtain ⟨L, hL⟩ : ∃ L, (if es.length = roomOf n then es.tail else es) ++ [(⟨kk.1, kk.2, nw⟩ : Ent)] = L := ⟨_, rfl⟩
              rw [hL] at HPT
              have HPR := Lib.hid (show L.map pr = es.map pr ++ [(g, nw)] by
                rw [← hL, if_neg hf, List.map_append]
                show _ ++ [(kk.1, nw)] = _
                rw [HKL.out])
              have HNL := Lib.hid (show L.length = k + 1 by rw [← hL, if_neg hf, List.length_append, hk]; rfl)
              have hml : (es.map pr).length = k := by rw [List.length_map, hk]
              have HML := Lib.hid hml
              rw [hk] at HR6 HLN HCAP ⊢
              have hc6 := HCAP.out
              clear hf hL hk hml
              go_wp2_with fail
              refine HLN.out.mono ?_
              rintro e w6' ⟨rfl, rfl⟩
              go_wp2_with fail
              refine HPT.out.mono ?_
              rintro e w7 ⟨rfl, ha7, hb7⟩
              have HE7 := Lib.hid ha7.entries
              have HR7 := Lib.hid (HR6.out.kv hb7)
              have HNL2 := Lib.hid HNL.out
              rw [HNL2.out] at HE7
              obtain ⟨n8, hn8⟩ : ∃ n8, k + 1 = n8 := ⟨_, rfl⟩
              rw [hn8] at HE7 HNL2
              have HN8 := Lib.hid hn8
              clear hn8 ha7 hb7 k0 k1 k2 k3 k4 k5
              go_wp2_with fail
              refine HE7.out.mono ?_
              rintro e w8 ⟨A8, c8, rfl, hcap8, hr8, ha8, hb8⟩
              have hn8 := HN8.out
              have HR8 := Lib.hid hr8
              have HB8 := Lib.hid (show Below w.heap.size w w8 from below_then HB3.out HB3.out.size ha8.bl)
              have HR8b := Lib.hid (HR7.out.below hb8)
              have HLP := Lib.hid (show (L.map pr).length = n8 by rw [List.length_map]; exact HNL2.out)
              have HFB := Lib.hid (show Kd.F kp w8 _ A6 k (es.map pr) from HR8b.out.1.read)
              have hyl : ((es.map pr)).length = k := HML.out
              have HYL := Lib.hid hyl
              have hct := cut_to_p A8 n8 c8 k (k : Int) rfl (by omega) hcap8
              have HFA := Lib.hid (take_p (m := k) HR8.out.1.read HLP.out (by omega))
              have HTK := Lib.hid (show (L.map pr).take k = (es.map pr) by rw [HPR.out, List.take_append_of_le_length (by omega), List.take_of_length_le (by omega)])
              have HLT := Lib.hid (show (L.map pr)[k]'(by rw [HLP.out]; omega) = (g, nw) by
                simp only [HPR.out]
                rw [List.getElem_append_right (by omega)]
                simp [hyl])
              obtain ⟨ad, eA, q0, q1⟩ := pair_F (l := L.map pr) (show Kd.F kp w8 _ A8 (L.map pr).length (L.map pr) by rw [HLP.out]; exact HR8.out.1.read) (Below.refl _ _) k (by rw [HLP.out]; omega)
              rw [HLT.out] at q0 q1
              dsimp only at q0 q1
              have HEQ := Lib.hid (equal_any (A1 := A8) (A2 := A6) (c1 := c8) (c2 := c6) (l1 := (es.map pr)) (l2 := (es.map pr)) (show Kd.F kp w8 _ A8 ((es.map pr)).length (es.map pr) by rw [HYL.out, ← HTK.out]; exact HFA.out) (show Kd.F kp w8 _ A6 ((es.map pr)).length (es.map pr) by rw [HYL.out]; exact HFB.out))
              rw [HYL.out, decide_eq_true (show (es.map pr) = (es.map pr) from rfl)] at HEQ
              have g8 : ((n8 : Int) == IntKind.i64.wrap ((k : Int) + 1)) = true := by
                rw [IntKind.wrap_i64, beq_iff_eq]
                omega
              have g9 : ((n8 : Int) == wrap64 ((k : Int) + 1)) = true := by
                rw [wrap_small (by omega) (by omega), beq_iff_eq]
                omega
              have g7 : ((n8 : Int) == (k : Int) + 1) = true := by rw [beq_iff_eq]; omega
              clear g8 g9
              have heq := fun W => eql48 W (g, nw) (g, nw)
              rw [decide_eq_true (show ((g, nw) : Key) = (g, nw) from rfl)] at heq
              dsimp only at heq
              have hk0 : 0 ≤ (k : Int) := by omega
              have hk1 : (k : Int) < (n8 : Int) := by omega
              subst eA
              clear hr8 ha8 hyl HLT hn8
              go_wp2_with fail
              refine HEQ.out.mono ?_
              rintro e w9 ⟨rfl, hb9⟩
              have HB9 := Lib.hid (below_then HB8.out HB8.out.size hb9)
              replace q0 := cell_up hb9 q0
              replace q1 := cell_up hb9 q1
              clear hb9
              go_wp2
              go_ret
              exact ⟨rfl, HB9.out⟩
        · have hfe : findF es g x = (es, eStr, false, z) := by
            unfold findF
            rw [hq, if_pos hz]
          have gz : (z != (0 : Int)) = true := bne_iff_ne.2 hz
          rw [hfe] at HFI
          clear hq hfe hz
          go_wp2_with fail
          refine HFI.out.mono ?_
          rintro e w6 ⟨rfl, ha6, hb6⟩
          have HB6 := Lib.hid (show Below w.heap.size w w6 from below_then HB3.out HB3.out.size ha6.bl)
          clear ha6 hb6
          go_wp2
          go_ret
          exact ⟨rfl, HB6.out⟩
end Go.Proofs.YtbahnpdgaoedmaaGreatDoor.Mm
namespace Go.Proofs.YtbahnpdgaoedmaaGreatDoor.memoryRecent
open Go.ChangeShapes Go.WideShapes Go.ChangeAt Go.RowKit
open Go.ChangeMaps (open_string shut_string)
set_option linter.unusedVariables false
theorem own : ownKnob Tryz.prog.godebug = none := by kernel_rfl
theorem laidOut : laidOutB Tryz.prog = true := by kernel_rfl
theorem tab_of {W : World} (h : laidMetH Tryz.prog Rows.memoryRecentRow.laid W) : Mm.TB W := by
  rw [MakeChecks.laidMetH_plain _ _ _ (by kernel_rfl)] at h
  have h2 := laidMet.filter (fun x => x.1 == "internal/strconv.uint64pow10") h
  exact Lib.tabIs_of_head (name := "internal/strconv.uint64pow10") (k := .u64) (zs := Lib.pow10Tab) (rest := []) (g := 0) (t := 166) (e := 153) (n := 20) (by kernel_rfl) (by kernel_rfl) Tryz.underlying166 Tryz.underlying153 (by kernel_rfl) (by kernel_rfl) h2
theorem door_met (os : Os) (args : Array Value) : laidMetH Tryz.prog Rows.memoryRecentRow.laid ((World.doorLaid Tryz.prog 400 os).forCall (fun _ _ => 0) ⟨#[], args, []⟩).memory :=
  laidMetH_of_parts3 (fuel := 8) (laidMet_of_run' 8 (by kernel_rfl) (by kernel_rfl)) (by kernel_rfl) (by kernel_rfl)
set_option maxRecDepth 100000 in
set_option maxHeartbeats 8000000 in
theorem lifted (os : Os) (started : os.Started) (H : Type) (enc : TypeId × Value → H) :
    ReturnsInHanded {} Tryz.checked os 4 .any (fun w args => (Rows.memoryRecentSpec.pre enc Tryz.prog Tryz.f4 [] false w args ∧ laidMetH Tryz.prog Rows.memoryRecentRow.laid w) ∧ sizedMet enc Tryz.prog Tryz.f4 (OpenSpec.ofChange Rows.memoryRecentSpec) false w args) (Rows.memoryRecentSpec.post enc Tryz.prog Tryz.f4 false true false false) := by
  refine returnsInHanded_of_change_and (C := Tryz.checked) (X := fun w _ => laidMetH Tryz.prog Rows.memoryRecentRow.laid w) (fun _ _ _ hh h => h.of_heap hh) own started (by kernel_rfl) Tryz.func4
    (ChangeSpec.witness_shaped (enc := enc) (C := Tryz.checked) (os := os) (X := fun w _ => laidMetH Tryz.prog Rows.memoryRecentRow.laid w) false (World.doorLaid Tryz.prog 400 os) #[.int .i64 0, .slice none 0 0, .string ByteArray.empty, .agg #[.int .i64 0, .string ByteArray.empty, .slice none 0 0, .int .i64 0, .int .i64 0, .slice none 0 0]] 8 rfl (World.shaped_of_RefB (by kernel_rfl) (by kernel_rfl)) (by kernel_rfl) (by kernel_rfl) (by kernel_rfl) (door_met os _)) ?_
  intro W base args ds gs before hval0 hW _ _ hL _
  have hval : ∀ (j : Nat) t v, Tryz.f4.params[j]? = some t → args[j]? = some v → Value.okWide Tryz.prog W .any base t v := hval0
  have hW' := hW
  obtain ⟨p, q, hA0, hV, rfl, hfz, hnd⟩ := hW
  have hA : DataW.TrodAll enc Tryz.prog W 0 (fun _ => true) true Tryz.f4.params.toList args.toList ds p := hA0
  rw [Tryz.params4] at hA hval
  obtain ⟨v0, vs0, d0, ds0, p0, q0, hargs, rfl, rfl, h0, r0⟩ := trodAll_cons hA
  obtain ⟨v1, vs1, d1, ds1, p1, q1, rfl, rfl, rfl, h1, r1⟩ := trodAll_cons r0
  obtain ⟨v2, vs2, d2, ds2, p2, q2, rfl, rfl, rfl, h2, r2⟩ := trodAll_cons r1
  obtain ⟨v3, vs3, d3, ds3, p3, q3, rfl, rfl, rfl, h3, r3⟩ := trodAll_cons r2
  obtain ⟨rfl, rfl, rfl⟩ := trodAll_nil r3
  obtain rfl : args = #[v0, v1, v2, v3] := by cases args; simp_all
  obtain ⟨rfl, rfl⟩ := trodVars_none hV
  obtain ⟨a0, rfl, rfl, rfl, w0⟩ := open_int Tryz.underlying3 (hval 0 3 v0 rfl rfl) h0
  obtain ⟨A1, c1, l1, rfl, x1, y1, z1⟩ := Mm.open_ops (hval 1 22 v1 rfl rfl) h1
  have k1 := h1
  have lt1 : ∀ x ∈ p1, x.block < W.heap.size := by obtain ⟨m, hm⟩ := k1; exact DataW.trod_lt m _ _ _ hm
  obtain ⟨a2, rfl, rfl, rfl, y2⟩ := open_string Tryz.underlying9 (hval 2 9 v2 rfl rfl) h2
  obtain ⟨c3, x3, rfl, y3, z3⟩ := Mm.open_form h3
  have k3 := h3
  have lt3 : ∀ x ∈ p3, x.block < W.heap.size := by obtain ⟨m, hm⟩ := k3; exact DataW.trod_lt m _ _ _ hm
  clear hA0 hval0
  refine (Mm.recent_law (tab_of hL) a0 y1 x1 z1 a2 y3 z3).mono fun e W' ⟨he, bel⟩ => ?_
  subst he
  exact ⟨_, rfl, _, _, _, [], _, [], hW', trodAll_mk1 (shut_bool Tryz.underlying4 _), (trodAll_cons_mk (shut_int Tryz.underlying3 w0) (trodAll_cons_mk (Below.trod laidOut (by kernel_rfl) (of_decide_eq_true (by kernel_rfl)) k1 bel lt1) (trodAll_cons_mk (shut_string Tryz.underlying9 y2) (trodAll_cons_mk (Below.trod laidOut (by kernel_rfl) (of_decide_eq_true (by kernel_rfl)) k3 bel lt3) trodAll_mk0)))), rfl, bel.frame _, fun h => by cases h⟩
theorem over : Rows.memoryRecentRow.holds Tryz.pinned (OpenSpec.ofChange Rows.memoryRecentSpec) :=
  OpenClaim.holds_of_wide 4 Tryz.f4 rfl rfl rfl rfl rfl rfl rfl ⟨rfl, rfl, rfl, rfl, rfl⟩ rfl rfl rfl rfl rfl (by kernel_rfl) Tryz.func4 (by kernel_rfl)
    (of_decide_eq_true (by kernel_rfl)) (by unfold Func.isWrapper; first | (rw [if_pos (by decide +kernel)]; kernel_rfl) | (rw [if_neg (by decide +kernel)]; exact ⟨rfl, rfl⟩))
    (fun os started H enc _ => lifted os started H enc)
end Go.Proofs.YtbahnpdgaoedmaaGreatDoor.memoryRecent
namespace Go.Proofs.YtbahnpdgaoedmaaGreatDoor
/-- The tied card, under a short name, for the claim. -/
theorem memoryRecent_card : Rows.MemoryRecentCardSaid :=
  Claim7.holds_tied_plain_at .later [] [.data, .data, .data] true (true, "fbf65e274c62c20eb874d022cfd42280684e99080fc4f1cdb62d30aa60215bb8") false
    memoryRecent.over (fun _ h => by cases h) (by kernel_rfl) (fun _ h => by cases h) memoryRecent_row_tie rfl ⟨rfl, rfl⟩ (by kernel_rfl) rfl
    (fun f fn hf hfn => by
      obtain rfl : f = 4 := Option.some.inj ((show Tryz.prog.funcNamed "pentaglot/pentaglotlaw52.MemoryRecent" = some 4 by kernel_rfl).symm.trans hf) |>.symm
      obtain rfl : fn = Tryz.f4 := (Option.some.inj (Tryz.func4.symm.trans hfn)).symm
      exact ⟨by kernel_rfl, fun j t ht => by
        rw [Tryz.params4] at ht
        have hm : t ∈ [3, 22, 9, 32] := by simpa using Array.mem_of_getElem? ht
        have hall : ([3, 22, 9, 32].all fun u => !Tryz.prog.wantsStandIn u) = true := by kernel_rfl
        exact (show Tryz.prog.wantsStandIn t = false by simpa using List.all_eq_true.1 hall t hm)⟩)
    (by kernel_rfl)
#print axioms memoryRecent_card
end Go.Proofs.YtbahnpdgaoedmaaGreatDoor
