/- The heap's sift down, Push and Pop over a queue of entries. -/
import Derived.Test.YtipdejalohmkpaaIU
namespace Go.Proofs.Ytipdejalohmkpaa.I
open Go.RowKit Hp

def DnRel (D : Nat → EntD) (base q : Nat) (v : Value) (l : List Nat) (w : World) (n : Nat) (l' : List Nat) (k : Nat) (w' : World) : Prop := Same D base q v l w l' w' ∧ DnInv (kf D) l' n k ∧ at_ l' n = at_ l n
def DnPost (D : Nat → EntD) (base q : Nat) (v : Value) (l : List Nat) (n : Nat) (w : World) (e : Ending) (w' : World) : Prop := (∃ r, e = .returned (.bool r)) ∧ ∃ l', Same D base q v l w l' w' ∧ HeapN (kf D) l' n ∧ at_ l' n = at_ l n

set_option maxRecDepth 100000 in
set_option maxHeartbeats 4000000 in
theorem down_any (D : Nat → EntD) (base q : Nat) (v : Value) (l : List Nat) (n : Nat) (w : World) (hs : Same D base q v l w l w) (hn : n < l.length) (hlen : l.length ≤ 1000000000) (hu : DnInv (kf D) l n 0) :
    Calls Try.prog 45 #[.iface 97 (.pointer (some ⟨q, 0, none⟩)), .int .i64 0, .int .i64 (n : Int)] w (DnPost D base q v l n w) := by
  have HU : DnRel D base q v l w n l 0 w := ⟨hs, hu, rfl⟩
  clear hs hu
  go_enter Try.func45, Try.ntmps45
  go_wp2
  go_loopw [7] (fun x wr => ∃ (k : Nat) (l' : List Nat), k ≤ l.length ∧ x = .int .i64 k ∧ DnRel D base q v l w n l' k wr) (fun x _ => l.length - (intOf x).toNat)
  case atStart => exact ⟨0, l, by omega, rfl, HU⟩
  case round =>
    clear HU
    obtain ⟨k, l', hk, rfl, hrel⟩ := hrel
    have HL := Lib.hid hrel.1.length
    have b2 : (k : Int) ≤ 1000000000 := by omega
    have b3 : (n : Int) ≤ 1000000000 := by omega
    have hml : ∀ n, (method 230 97 (.pointer (some ⟨q, 0, none⟩)) "Less").run Try.prog (wr.drewN n) = .ok (75, v) (wr.drewN n) := fun n => meth_less _ _ _ hrel.1.qat.cell
    have hml0 : (method 230 97 (.pointer (some ⟨q, 0, none⟩)) "Less").run Try.prog wr = .ok (75, v) wr := meth_less _ _ _ hrel.1.qat.cell
    have hms : ∀ n, (method 230 97 (.pointer (some ⟨q, 0, none⟩)) "Swap").run Try.prog (wr.drewN n) = .ok (78, v) (wr.drewN n) := fun n => meth_swap _ _ _ hrel.1.qat.cell
    by_cases c1 : n ≤ 2 * k + 1
    · have d1 : (n : Int) ≤ 2 * (k : Int) + 1 := by omega
      have HPOST := Lib.hid (dn_leaf hrel.2.1 c1)
      go_wp2
      go_ret
      exact ⟨⟨_, rfl⟩, l', hrel.1, HPOST.out, hrel.2.2⟩
    · have d1 : 2 * (k : Int) + 1 < (n : Int) := by omega
      have HLL : l'.length = l.length := HL.out
      have HLH := Lib.hid HLL
      have hln : n < l'.length := by omega
      clear HLL
      by_cases c2 : 2 * k + 2 < n
      · have d2 : 2 * (k : Int) + 1 + 1 < (n : Int) := by omega
        rcases hb : ltK (D (at_ l' (2 * k + 2))).key (D (at_ l' (2 * k + 1))).key with _ | _
        · have HSM := Lib.hid (show ∀ i, 0 < i → i < n → (i - 1) / 2 = k → leK (kf D (at_ l' (2 * k + 1))) (kf D (at_ l' i)) from fun i h0 hi he => by
            rcases (by omega : i = 2 * k + 1 ∨ i = 2 * k + 2) with rfl | rfl
            · exact leK_refl _
            · exact leK_of_not hb)
          have HB := Lib.hid hb
          clear hb
          go_wp2_with fail
          refine (less_is base v l' D _ _ (2 * k + 2) (2 * k + 1) false wr hrel.1.row hrel.1.ents (by omega) (by omega) (by omega) (by omega) HB.out).mono ?_
          rintro e w' ⟨⟨m1, rfl⟩, rfl⟩
          go_wp2_with fail
          rcases hb2 : ltK (D (at_ l' (2 * k + 1))).key (D (at_ l' k)).key with _ | _
          · have HPOST := Lib.hid (dn_stop (j := 2 * k + 1) hrel.2.1 HSM.out hb2)
            have HB2 := Lib.hid hb2
            clear hb2
            refine (less_is base v l' D _ _ (2 * k + 1) k false _ (hrel.1.drewN _).row (hrel.1.drewN _).ents (by omega) rfl (by omega) (by omega) HB2.out).mono ?_
            rintro e w' ⟨⟨m2, rfl⟩, rfl⟩
            go_wp2_with fail
            go_ret
            exact ⟨⟨_, rfl⟩, l', hrel.1.drewN _, HPOST.out, hrel.2.2⟩
          · have HSTEP := Lib.hid (dn_step (i := k) (j := 2 * k + 1) (by omega) (by omega) (by omega) (by omega) hrel.2.1 HSM.out hb2)
            have HB2 := Lib.hid hb2
            clear hb2
            refine (less_is base v l' D _ _ (2 * k + 1) k true _ (hrel.1.drewN _).row (hrel.1.drewN _).ents (by omega) rfl (by omega) (by omega) HB2.out).mono ?_
            rintro e w' ⟨⟨m2, rfl⟩, rfl⟩
            go_wp2_with fail
            refine (swap_is base v l' _ _ k (2 * k + 1) _ (hrel.1.drewN _).row rfl (by omega) (by omega) (by omega)).mono ?_
            rintro e w2 ⟨rfl, HS⟩
            go_wp2_with fail
            go_roundw
            case rel => exact ⟨2 * k + 1, swp l' k (2 * k + 1), by omega, by go_num, (hrel.1.drewN _).swap (by omega) (by omega) HS, HSTEP.out, by rw [at_swp (by omega) (by omega), if_neg (by omega), if_neg (by omega)]; exact hrel.2.2⟩
            case measure => simp [intOf]; omega
        · have HSM := Lib.hid (show ∀ i, 0 < i → i < n → (i - 1) / 2 = k → leK (kf D (at_ l' (2 * k + 2))) (kf D (at_ l' i)) from fun i h0 hi he => by
            rcases (by omega : i = 2 * k + 1 ∨ i = 2 * k + 2) with rfl | rfl
            · exact leK_of_lt hb
            · exact leK_refl _)
          have HB := Lib.hid hb
          clear hb
          go_wp2_with fail
          refine (less_is base v l' D _ _ (2 * k + 2) (2 * k + 1) true wr hrel.1.row hrel.1.ents (by omega) (by omega) (by omega) (by omega) HB.out).mono ?_
          rintro e w' ⟨⟨m1, rfl⟩, rfl⟩
          go_wp2_with fail
          rcases hb2 : ltK (D (at_ l' (2 * k + 2))).key (D (at_ l' k)).key with _ | _
          · have HPOST := Lib.hid (dn_stop (j := 2 * k + 2) hrel.2.1 HSM.out hb2)
            have HB2 := Lib.hid hb2
            clear hb2
            refine (less_is base v l' D _ _ (2 * k + 2) k false _ (hrel.1.drewN _).row (hrel.1.drewN _).ents (by omega) rfl (by omega) (by omega) HB2.out).mono ?_
            rintro e w' ⟨⟨m2, rfl⟩, rfl⟩
            go_wp2_with fail
            go_ret
            exact ⟨⟨_, rfl⟩, l', hrel.1.drewN _, HPOST.out, hrel.2.2⟩
          · have HSTEP := Lib.hid (dn_step (i := k) (j := 2 * k + 2) (by omega) (by omega) (by omega) (by omega) hrel.2.1 HSM.out hb2)
            have HB2 := Lib.hid hb2
            clear hb2
            refine (less_is base v l' D _ _ (2 * k + 2) k true _ (hrel.1.drewN _).row (hrel.1.drewN _).ents (by omega) rfl (by omega) (by omega) HB2.out).mono ?_
            rintro e w' ⟨⟨m2, rfl⟩, rfl⟩
            go_wp2_with fail
            refine (swap_is base v l' _ _ k (2 * k + 2) _ (hrel.1.drewN _).row rfl (by omega) (by omega) (by omega)).mono ?_
            rintro e w2 ⟨rfl, HS⟩
            go_wp2_with fail
            go_roundw
            case rel => exact ⟨2 * k + 2, swp l' k (2 * k + 2), by omega, by go_num, (hrel.1.drewN _).swap (by omega) (by omega) HS, HSTEP.out, by rw [at_swp (by omega) (by omega), if_neg (by omega), if_neg (by omega)]; exact hrel.2.2⟩
            case measure => simp [intOf]; omega
      · have d2 : (n : Int) ≤ 2 * (k : Int) + 1 + 1 := by omega
        have HSM := Lib.hid (show ∀ i, 0 < i → i < n → (i - 1) / 2 = k → leK (kf D (at_ l' (2 * k + 1))) (kf D (at_ l' i)) from fun i h0 hi he => by
          obtain rfl : i = 2 * k + 1 := by omega
          exact leK_refl _)
        go_wp2_with fail
        rcases hb2 : ltK (D (at_ l' (2 * k + 1))).key (D (at_ l' k)).key with _ | _
        · have HPOST := Lib.hid (dn_stop (j := 2 * k + 1) hrel.2.1 HSM.out hb2)
          have HB2 := Lib.hid hb2
          clear hb2
          refine (less_is base v l' D _ _ (2 * k + 1) k false _ hrel.1.row hrel.1.ents (by omega) rfl (by omega) (by omega) HB2.out).mono ?_
          rintro e w' ⟨⟨m2, rfl⟩, rfl⟩
          go_wp2_with fail
          go_ret
          exact ⟨⟨_, rfl⟩, l', hrel.1.drewN _, HPOST.out, hrel.2.2⟩
        · have HSTEP := Lib.hid (dn_step (i := k) (j := 2 * k + 1) (by omega) (by omega) (by omega) (by omega) hrel.2.1 HSM.out hb2)
          have HB2 := Lib.hid hb2
          clear hb2
          refine (less_is base v l' D _ _ (2 * k + 1) k true _ hrel.1.row hrel.1.ents (by omega) rfl (by omega) (by omega) HB2.out).mono ?_
          rintro e w' ⟨⟨m2, rfl⟩, rfl⟩
          go_wp2_with fail
          refine (swap_is base v l' _ _ k (2 * k + 1) _ (hrel.1.drewN _).row rfl (by omega) (by omega) (by omega)).mono ?_
          rintro e w2 ⟨rfl, HS⟩
          go_wp2_with fail
          go_roundw
          case rel => exact ⟨2 * k + 1, swp l' k (2 * k + 1), by omega, by go_num, (hrel.1.drewN _).swap (by omega) (by omega) HS, HSTEP.out, by rw [at_swp (by omega) (by omega), if_neg (by omega), if_neg (by omega)]; exact hrel.2.2⟩
          case measure => simp [intOf]; omega

end Go.Proofs.Ytipdejalohmkpaa.I
