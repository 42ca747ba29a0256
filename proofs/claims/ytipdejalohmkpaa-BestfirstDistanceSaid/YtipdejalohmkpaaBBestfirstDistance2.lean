/- Part 2 of the proof of BestfirstDistance: ID, IP, ISi, ISc, Rv, IPa, ISeG. -/
import Derived.Test.YtipdejalohmkpaaBBestfirstDistance1
import Derived.WalkSpells
import Derived.StillTailTactics
import Derived.Deep.LoopGhost
import Derived.Test.YtipdejalohmkpaaPBestfirstDistancesx1
import Derived.Deep.RegionWith
import Derived.RegionCalls
/- The heap's sift down, Push and Pop over a queue of entries. -/
namespace Go.Proofs.Ytipdejalohmkpaa.I
open Go.RowKit Hp

def DnRel (D : Nat → EntD) (base q : Nat) (v : Value) (l : List Nat) (w : World) (n : Nat) (l' : List Nat) (k : Nat) (w' : World) : Prop := Same D base q v l w l' w' ∧ DnInv (kf D) l' n k ∧ at_ l' n = at_ l n
def DnPost (D : Nat → EntD) (base q : Nat) (v : Value) (l : List Nat) (n : Nat) (w : World) (e : Ending) (w' : World) : Prop := (∃ r, e = .returned (.bool r)) ∧ ∃ l', Same D base q v l w l' w' ∧ HeapN (kf D) l' n ∧ at_ l' n = at_ l n

set_option maxRecDepth 100000 in
set_option maxHeartbeats 4000000 in
theorem down_any (D : Nat → EntD) (base q : Nat) (v : Value) (l : List Nat) (n : Nat) (w : World) (hs : Same D base q v l w l w) (hn : n < l.length) (hlen : l.length ≤ 1000000000) (hu : DnInv (kf D) l n 0) :
    Calls Try.prog 45 #[.iface 97 (.pointer (some ⟨q, 0, none⟩)), .int .i64 0, .int .i64 (n : Int)] w (DnPost D base q v l n w) := by
  have HU : DnRel D base q v l w n l 0 w := ⟨hs, hu, rfl⟩
  clear hs hu
  go_enter Try.func45, Try.ntmps45
  go_wp2
  go_loopw [7] (fun x wr => ∃ (k : Nat) (l' : List Nat), k ≤ l.length ∧ x = .int .i64 k ∧ DnRel D base q v l w n l' k wr) (fun x _ => l.length - (intOf x).toNat)
  case atStart => exact ⟨0, l, by omega, rfl, HU⟩
  case round =>
    clear HU
    obtain ⟨k, l', hk, rfl, hrel⟩ := hrel
    have HL := Lib.hid hrel.1.length
    have b2 : (k : Int) ≤ 1000000000 := by omega
    have b3 : (n : Int) ≤ 1000000000 := by omega
    have hml : ∀ n, (method 230 97 (.pointer (some ⟨q, 0, none⟩)) "Less").run Try.prog (wr.drewN n) = .ok (75, v) (wr.drewN n) := fun n => meth_less _ _ _ hrel.1.qat.cell
    have hml0 : (method 230 97 (.pointer (some ⟨q, 0, none⟩)) "Less").run Try.prog wr = .ok (75, v) wr := meth_less _ _ _ hrel.1.qat.cell
    have hms : ∀ n, (method 230 97 (.pointer (some ⟨q, 0, none⟩)) "Swap").run Try.prog (wr.drewN n) = .ok (78, v) (wr.drewN n) := fun n => meth_swap _ _ _ hrel.1.qat.cell
    by_cases c1 : n ≤ 2 * k + 1
    · have d1 : (n : Int) ≤ 2 * (k : Int) + 1 := by omega
      have HPOST := Lib.hid (dn_leaf hrel.2.1 c1)
      go_wp2
      go_ret
      exact ⟨⟨_, rfl⟩, l', hrel.1, HPOST.out, hrel.2.2⟩
    · have d1 : 2 * (k : Int) + 1 < (n : Int) := by omega
      have HLL : l'.length = l.length := HL.out
      have HLH := Lib.hid HLL
      have hln : n < l'.length := by omega
      clear HLL
      by_cases c2 : 2 * k + 2 < n
      · have d2 : 2 * (k : Int) + 1 + 1 < (n : Int) := by omega
        rcases hb : ltK (D (at_ l' (2 * k + 2))).key (D (at_ l' (2 * k + 1))).key with _ | _
        · have HSM := Lib.hid (show ∀ i, 0 < i → i < n → (i - 1) / 2 = k → leK (kf D (at_ l' (2 * k + 1))) (kf D (at_ l' i)) from fun i h0 hi he => by
            rcases (by omega : i = 2 * k + 1 ∨ i = 2 * k + 2) with rfl | rfl
            · exact leK_refl _
            · exact leK_of_not hb)
          have HB := Lib.hid hb
          clear hb
          go_wp2_with fail
          refine (less_is base v l' D _ _ (2 * k + 2) (2 * k + 1) false wr hrel.1.row hrel.1.ents (by omega) (by omega) (by omega) (by omega) HB.out).mono ?_
          rintro e w' ⟨⟨m1, rfl⟩, rfl⟩
          go_wp2_with fail
          rcases hb2 : ltK (D (at_ l' (2 * k + 1))).key (D (at_ l' k)).key with _ | _
          · have HPOST := Lib.hid (dn_stop (j := 2 * k + 1) hrel.2.1 HSM.out hb2)
            have HB2 := Lib.hid hb2
            clear hb2
            refine (less_is base v l' D _ _ (2 * k + 1) k false _ (hrel.1.drewN _).row (hrel.1.drewN _).ents (by omega) rfl (by omega) (by omega) HB2.out).mono ?_
            rintro e w' ⟨⟨m2, rfl⟩, rfl⟩
            go_wp2_with fail
            go_ret
            exact ⟨⟨_, rfl⟩, l', hrel.1.drewN _, HPOST.out, hrel.2.2⟩
          · have HSTEP := Lib.hid (dn_step (i := k) (j := 2 * k + 1) (by omega) (by omega) (by omega) (by omega) hrel.2.1 HSM.out hb2)
            have HB2 := Lib.hid hb2
            clear hb2
            refine (less_is base v l' D _ _ (2 * k + 1) k true _ (hrel.1.drewN _).row (hrel.1.drewN _).ents (by omega) rfl (by omega) (by omega) HB2.out).mono ?_
            rintro e w' ⟨⟨m2, rfl⟩, rfl⟩
            go_wp2_with fail
            refine (swap_is base v l' _ _ k (2 * k + 1) _ (hrel.1.drewN _).row rfl (by omega) (by omega) (by omega)).mono ?_
            rintro e w2 ⟨rfl, HS⟩
            go_wp2_with fail
            go_roundw
            case rel => exact ⟨2 * k + 1, swp l' k (2 * k + 1), by omega, by go_num, (hrel.1.drewN _).swap (by omega) (by omega) HS, HSTEP.out, by rw [at_swp (by omega) (by omega), if_neg (by omega), if_neg (by omega)]; exact hrel.2.2⟩
            case measure => simp [intOf]; omega
        · have HSM := Lib.hid (show ∀ i, 0 < i → i < n → (i - 1) / 2 = k → leK (kf D (at_ l' (2 * k + 2))) (kf D (at_ l' i)) from fun i h0 hi he => by
            rcases (by omega : i = 2 * k + 1 ∨ i = 2 * k + 2) with rfl | rfl
            · exact leK_of_lt hb
            · exact leK_refl _)
          have HB := Lib.hid hb
          clear hb
          go_wp2_with fail
          refine (less_is base v l' D _ _ (2 * k + 2) (2 * k + 1) true wr hrel.1.row hrel.1.ents (by omega) (by omega) (by omega) (by omega) HB.out).mono ?_
          rintro e w' ⟨⟨m1, rfl⟩, rfl⟩
          go_wp2_with fail
          rcases hb2 : ltK (D (at_ l' (2 * k + 2))).key (D (at_ l' k)).key with _ | _
          · have HPOST := Lib.hid (dn_stop (j := 2 * k + 2) hrel.2.1 HSM.out hb2)
            have HB2 := Lib.hid hb2
            clear hb2
            refine (less_is base v l' D _ _ (2 * k + 2) k false _ (hrel.1.drewN _).row (hrel.1.drewN _).ents (by omega) rfl (by omega) (by omega) HB2.out).mono ?_
            rintro e w' ⟨⟨m2, rfl⟩, rfl⟩
            go_wp2_with fail
            go_ret
            exact ⟨⟨_, rfl⟩, l', hrel.1.drewN _, HPOST.out, hrel.2.2⟩
          · have HSTEP := Lib.hid (dn_step (i := k) (j := 2 * k + 2) (by omega) (by omega) (by omega) (by omega) hrel.2.1 HSM.out hb2)
            have HB2 := Lib.hid hb2
            clear hb2
            refine (less_is base v l' D _ _ (2 * k + 2) k true _ (hrel.1.drewN _).row (hrel.1.drewN _).ents (by omega) rfl (by omega) (by omega) HB2.out).mono ?_
            rintro e w' ⟨⟨m2, rfl⟩, rfl⟩
            go_wp2_with fail
            refine (swap_is base v l' _ _ k (2 * k + 2) _ (hrel.1.drewN _).row rfl (by omega) (by omega) (by omega)).mono ?_
            rintro e w2 ⟨rfl, HS⟩
            go_wp2_with fail
            go_roundw
            case rel => exact ⟨2 * k + 2, swp l' k (2 * k + 2), by omega, by go_num, (hrel.1.drewN _).swap (by omega) (by omega) HS, HSTEP.out, by rw [at_swp (by omega) (by omega), if_neg (by omega), if_neg (by omega)]; exact hrel.2.2⟩
            case measure => simp [intOf]; omega
      · have d2 : (n : Int) ≤ 2 * (k : Int) + 1 + 1 := by omega
        have HSM := Lib.hid (show ∀ i, 0 < i → i < n → (i - 1) / 2 = k → leK (kf D (at_ l' (2 * k + 1))) (kf D (at_ l' i)) from fun i h0 hi he => by
          obtain rfl : i = 2 * k + 1 := by omega
          exact leK_refl _)
        go_wp2_with fail
        rcases hb2 : ltK (D (at_ l' (2 * k + 1))).key (D (at_ l' k)).key with _ | _
        · have HPOST := Lib.hid (dn_stop (j := 2 * k + 1) hrel.2.1 HSM.out hb2)
          have HB2 := Lib.hid hb2
          clear hb2
          refine (less_is base v l' D _ _ (2 * k + 1) k false _ hrel.1.row hrel.1.ents (by omega) rfl (by omega) (by omega) HB2.out).mono ?_
          rintro e w' ⟨⟨m2, rfl⟩, rfl⟩
          go_wp2_with fail
          go_ret
          exact ⟨⟨_, rfl⟩, l', hrel.1.drewN _, HPOST.out, hrel.2.2⟩
        · have HSTEP := Lib.hid (dn_step (i := k) (j := 2 * k + 1) (by omega) (by omega) (by omega) (by omega) hrel.2.1 HSM.out hb2)
          have HB2 := Lib.hid hb2
          clear hb2
          refine (less_is base v l' D _ _ (2 * k + 1) k true _ hrel.1.row hrel.1.ents (by omega) rfl (by omega) (by omega) HB2.out).mono ?_
          rintro e w' ⟨⟨m2, rfl⟩, rfl⟩
          go_wp2_with fail
          refine (swap_is base v l' _ _ k (2 * k + 1) _ (hrel.1.drewN _).row rfl (by omega) (by omega) (by omega)).mono ?_
          rintro e w2 ⟨rfl, HS⟩
          go_wp2_with fail
          go_roundw
          case rel => exact ⟨2 * k + 1, swp l' k (2 * k + 1), by omega, by go_num, (hrel.1.drewN _).swap (by omega) (by omega) HS, HSTEP.out, by rw [at_swp (by omega) (by omega), if_neg (by omega), if_neg (by omega)]; exact hrel.2.2⟩
          case measure => simp [intOf]; omega

end Go.Proofs.Ytipdejalohmkpaa.I

/- heap.Push and heap.Pop over a queue of entries. -/
namespace Go.Proofs.Ytipdejalohmkpaa.I
open Go.RowKit Hp

/-- The blocks that the heap's functions may write. -/
def QS (base q : Nat) (w : World) : Nat → Prop := fun k => k = q ∨ (base ≤ k ∧ ∃ c f, w.heap[k]? = some (.cells c 77 f))
theorem QS.of_row {base q : Nat} {w : World} {v : Value} {l : List Nat} (h : RowOf w base v l) (k : Nat) (hk : some k = v.ownBlock) : QS base q w k := by
  rcases h.2 with ⟨rfl, _⟩ | ⟨g, cap, cur, rfl, hb, hh, _⟩
  · simp [Value.ownBlock] at hk
  · have : k = g := by simpa [Value.ownBlock] using hk
    subst this
    exact .inr ⟨hb, _, _, hh⟩
theorem QS.back {base q : Nat} {w w1 : World} (h : Chg (QS base q w) w w1) (i : Nat) (hi : QS base q w1 i) : QS base q w i ∨ w.heap.size ≤ i := by
  rcases hi with rfl | ⟨hb, c, f, hh⟩
  · exact .inl (.inl rfl)
  · by_cases hlt : i < w.heap.size
    · by_cases hq : QS base q w i
      · exact .inl hq
      · exact .inl (.inr ⟨hb, c, f, (h.block i hlt hq).symm.trans hh⟩)
    · exact .inr (by omega)
theorem QS.trans {base q : Nat} {w w1 w2 : World} (h : Chg (QS base q w) w w1) (k : Chg (QS base q w1) w1 w2) : Chg (QS base q w) w w2 := h.trans k (QS.back h)
theorem QS.not_ent {base q : Nat} {w : World} {u : Value} {e : Nat} {d : EntD} (hq : QAt w q u) (he : EntAt w e d) : ¬ QS base q w e := by
  rintro (rfl | ⟨_, c, f, hh⟩)
  · exact hq.ne_ent he rfl
  · unfold EntAt at he
    rw [he] at hh
    injection hh with hh
    injection hh with _ ht
    exact absurd ht (by decide)

/-- A queue in memory that is a heap: its entries' blocks are l. -/
structure HeapAt (D : Nat → EntD) (base q : Nat) (l : List Nat) (w : World) : Prop where
  ex : ∃ v, QAt w q v ∧ RowOf w base v l
  ents : ∀ e ∈ l, EntAt w e (D e)
  heap : HeapN (kf D) l l.length

def HPushPost (D : Nat → EntD) (base q : Nat) (l : List Nat) (x : Nat) (w w' : World) : Prop := ∃ l', l'.Perm (l ++ [x]) ∧ HeapAt D base q l' w' ∧ Chg (QS base q w) w w'
set_option maxHeartbeats 400000 in
theorem hpush_any (D : Nat → EntD) (base q : Nat) (l : List Nat) (x : Nat) (w : World) (hh : HeapAt D base q l w) (hx : EntAt w x (D x)) (hl : l.length < 1000000000) (hbase : base ≤ w.heap.size) :
    Calls Try.prog 41 #[.iface 97 (.pointer (some ⟨q, 0, none⟩)), .iface 77 (ptrV x)] w fun e w' => e = .returned (.tuple #[]) ∧ HPushPost D base q l x w w' := by
  obtain ⟨⟨v, hq, hr⟩, hents, hheap⟩ := hh
  have hmp := meth_push ⟨q, 0, none⟩
  have HU := Lib.hid (up_start (x := x) hheap)
  have HE := Lib.hid hents
  have HR := Lib.hid hr
  have HQ := Lib.hid hq
  have HX := Lib.hid hx
  clear hheap hents hr hq hx
  go_enter Try.func41, Try.ntmps41
  go_wp2_with fail
  refine (push_any base q v l x w HQ.out HR.out hl hbase).mono ?_
  rintro e w1 ⟨rfl, v1, hq1, hr1, hc1⟩
  have hml : (method 230 97 (.pointer (some ⟨q, 0, none⟩)) "Len").run Try.prog w1 = .ok (43, v1) w1 := meth_len _ _ _ hq1.cell
  have hE1 : ∀ e ∈ l ++ [x], EntAt w1 e (D e) := fun e he => by
    have h0 : EntAt w e (D e) := by
      rcases List.mem_append.1 he with h | h
      · exact HE.out e h
      · obtain rfl : e = x := by simpa using h
        exact HX.out
    refine h0.chg hc1 ?_
    rintro (rfl | h)
    · exact HQ.out.ne_ent h0 rfl
    · exact HR.out.ne_ent h0 h
  obtain ⟨g, cap, rfl, _, _⟩ := hr1.form (by simp)
  have hlen1 : (l ++ [x]).length = l.length + 1 := by simp
  have HF : ∀ w2, UpPost D base q (.slice (some ⟨g, 0, none⟩) (l ++ [x]).length cap) (l ++ [x]) w1 w2 → HPushPost D base q l x w w2 := by
    rintro w2 ⟨l', hs, hh'⟩
    refine ⟨l', hs.perm, ⟨⟨_, hs.qat, hs.row⟩, hs.ents, hh'⟩, QS.trans (hc1.mono ?_) (hs.chg.mono ?_)⟩
    · rintro k (rfl | hk)
      · exact .inl rfl
      · exact QS.of_row HR.out k hk
    · exact fun k hk => QS.of_row hr1 k hk
  have HC := up_any D base q (.slice (some ⟨g, 0, none⟩) (l ++ [x]).length cap) (l ++ [x]) l.length w1 (Same.refl hq1 hr1 hE1) (by simp) (by rw [hlen1]; omega) HU.out
  have HF' := Lib.hid HF
  have HC' := Lib.hid HC
  have e9 : ((l.length + 1 : Nat) : Int) - 1 = (l.length : Int) := by omega
  clear HF HC hE1 hr1 hc1 hq1
  rw [hlen1] at hml
  have b9 : (l.length : Int) < 1000000000 := by omega
  clear hlen1
  go_wp2_with (first | (go_at_call 43; refine (len_any _ _ _ _).mono ?_; rintro e w' ⟨rfl, rfl⟩))
  refine HC'.out.mono ?_
  rintro e w2 ⟨rfl, hp⟩
  have hp' := HF'.out w2 hp
  clear hp
  go_wp2
  go_end0
  exact ⟨rfl, hp'⟩

def HPopPost (D : Nat → EntD) (base q : Nat) (l : List Nat) (w w' : World) : Prop := ∃ l', (at_ l 0 :: l').Perm l ∧ HeapAt D base q l' w' ∧ Chg (QS base q w) w w'
set_option maxHeartbeats 400000 in
theorem hpop_any (D : Nat → EntD) (base q : Nat) (l : List Nat) (n : Nat) (w : World) (hh : HeapAt D base q l w) (hn : l.length = n + 1) (hl : l.length < 1000000000) :
    Calls Try.prog 40 #[.iface 97 (.pointer (some ⟨q, 0, none⟩))] w fun e w' => e = .returned (.iface 77 (ptrV (at_ l 0))) ∧ HPopPost D base q l w w' := by
  obtain ⟨⟨v, hq, hr⟩, hents, hheap⟩ := hh
  obtain ⟨g, cap, rfl, _, _⟩ := hr.form (by omega)
  have hml := meth_len ⟨q, 0, none⟩ w _ hq.cell
  have hms := meth_swap ⟨q, 0, none⟩ w _ hq.cell
  have hmp := meth_pop ⟨q, 0, none⟩
  have HSW := swap_is base _ l 0 n 0 n w hr rfl rfl (by omega) (by omega)
  have HDN := Lib.hid (dn_start (m := n) (by omega) hheap)
  have HS0 := Lib.hid (Same.refl hq hr hents)
  have HN := Lib.hid hn
  have HRow := Lib.hid hr
  have e9 : ((n + 1 : Nat) : Int) - 1 = (n : Int) := by omega
  have b9 : (n : Int) < 1000000000 := by omega
  rw [hn] at hml hms
  have HSW' : Hid (Calls Try.prog 78 #[.slice (some ⟨g, 0, none⟩) (n + 1) cap, .int .i64 0, .int .i64 n] w fun e w' => e = .returned (.tuple #[]) ∧ SwapPost base (.slice (some ⟨g, 0, none⟩) l.length cap) l w 0 n w') := by rw [hn] at HSW ⊢; exact HSW
  clear HSW hr hq hents hheap hn
  go_enter Try.func40, Try.ntmps40
  go_wp2_with (first | (go_at_call 43; refine (len_any _ _ _ _).mono ?_; rintro e w' ⟨rfl, rfl⟩))
  refine HSW'.out.mono ?_
  rintro e w1 ⟨rfl, hp⟩
  have HS1 := Lib.hid (HS0.out.swap (by have := HN.out; omega) (by have := HN.out; omega) hp)
  have HC := Lib.hid (down_any D base q _ (swp l 0 n) n w1 (Same.refl HS1.out.qat HS1.out.row HS1.out.ents) (by rw [swp_length]; have := HN.out; omega) (by rw [swp_length]; omega) HDN.out)
  clear hp
  go_wp2_with fail
  refine HC.out.mono ?_
  rintro e w2 ⟨⟨r, rfl⟩, l', hs2, hheap2, hlast⟩
  have hlen2 : l'.length = n + 1 := by rw [hs2.length, swp_length]; exact HN.out
  have hlast' : at_ l' n = at_ l 0 := by rw [hlast, at_swp (by have := HN.out; omega) (by have := HN.out; omega), if_pos rfl]
  have hsplit : l' = l'.take n ++ [at_ l 0] := by
    have h1 : l'.take n ++ l'.drop n = l' := List.take_append_drop n l'
    have h2 : l'.drop n = [at_ l 0] := by
      rw [List.drop_eq_getElem_cons (by omega), List.drop_eq_nil_of_le (by omega)]
      rw [← hlast']; simp [at_, List.getElem?_eq_getElem (show n < l'.length by omega)]
    rw [← h2]; exact h1.symm
  have hlt : (l'.take n).length = n := by simp; omega
  have HPP := pop_any base q _ (l'.take n) (at_ l 0) w2 hs2.qat (by rw [← hsplit]; exact hs2.row) (by rw [hlt]; have := HN.out; omega)
  have HF : ∀ w3, PopPost base q (l'.take n) w2 w3 → HPopPost D base q l w w3 := by
    rintro w3 ⟨v3, hq3, hr3, hc3⟩
    refine ⟨l'.take n, ?_, ⟨⟨v3, hq3, hr3⟩, fun e he => ?_, ?_⟩, ?_⟩
    · have p1 : (at_ l 0 :: l'.take n).Perm l' := by
        conv => rhs; rw [hsplit]
        exact (List.perm_append_singleton (at_ l 0) (l'.take n)).symm
      exact p1.trans (hs2.perm.trans HS1.out.perm)
    · have h2 := hs2.ents e (List.mem_of_mem_take he)
      exact h2.chg hc3 (by rintro rfl; exact hs2.qat.ne_ent h2 rfl)
    · exact heap_take (by omega) hheap2
    · refine QS.trans (HS1.out.chg.mono (fun k hk => QS.of_row HRow.out k hk)) (QS.trans (hs2.chg.mono (fun k hk => QS.of_row HS1.out.row k hk)) (hc3.mono (fun k hk => .inl hk)))
  have HF' := Lib.hid HF
  have HPP' := Lib.hid HPP
  clear HF HPP hs2 hheap2 hlast hlen2 hlast' hsplit hlt
  go_wp2_with fail
  refine HPP'.out.mono ?_
  rintro e w3 ⟨rfl, hp⟩
  have hp' := HF'.out w3 hp
  clear hp
  go_wp2
  go_ret
  exact ⟨rfl, hp'⟩

end Go.Proofs.Ytipdejalohmkpaa.I

/- What the search keeps in memory, and what each of its steps does to it. -/
namespace Go.Proofs.Ytipdejalohmkpaa.I
open Go.RowKit Hp Go.Proofs.YtipdejalohmkpaaW.PrintWords

abbrev ST : Type := Int
def stV : ST → Value := fun s => .int .i64 s
/-- The kind of a step's cells: where it leads, and its cost. -/
def kst : Kd (ST × Int) := Kd.pair (Kd.int .i64) (Kd.int .i64)
/-- The states before an entry, the last one first, by the entries' chain. -/
def EPath (w : World) : List ST → Option Addr → Prop
  | [], a => a = none
  | s :: r, a => ∃ e d, a = some ⟨e, 0, none⟩ ∧ EntAt w e d ∧ d.st = stV s ∧ EPath w r d.bf
def EK (w w' : World) : Prop := ∀ e d, EntAt w e d → EntAt w' e d
theorem EPath.keep {w w' : World} (h : EK w w') : ∀ {l : List ST} {a : Option Addr}, EPath w l a → EPath w' l a
  | [], _, h1 => h1
  | _ :: _, _, ⟨e, d, h1, h2, h3, h4⟩ => ⟨e, d, h1, h e d h2, h3, EPath.keep h h4⟩
theorem EK.below {w w' : World} (h : Below w.heap.size w w') : EK w w' := fun _ _ he => he.below h
theorem EK.trans {a b c : World} (h : EK a b) (k : EK b c) : EK a c := fun e d he => k e d (h e d he)
theorem EK.qs {base q : Nat} {u : Value} {w w' : World} (hq : QAt w q u) (h : Chg (QS base q w) w w') : EK w w' := fun _ _ he => he.chg h (QS.not_ent hq he)
theorem EK.map {w w' : World} {b : Nat} {ks : List ByteArray} (hs : SetAt w b ks) (h : w.grownBy w' (some b)) : EK w w' := fun e d he => he.of_block (h.block e he.lt (by
  rintro hk
  injection hk with hk
  subst hk
  obtain ⟨es, cl, h1, _⟩ := hs
  unfold EntAt at he
  rw [he] at h1
  injection h1 with h1
  cases h1))
theorem EK.row {w w' : World} {base : Nat} {v : Value} {n : Nat} {xs : List Value} (hr : w.ownsRow base 3 1 v n xs) (h : w.grownBy w' v.ownBlock) : EK w w' := fun e d he => he.of_block (h.block e he.lt (by
  intro hk
  obtain ⟨cells, hc⟩ := own_typed hr e hk.symm
  unfold EntAt at he
  rw [hc] at he
  injection he with he
  injection he with _ ht
  exact absurd ht (by decide)))

def dat (pe : Nat → Sr.Ent ST) (bf : Nat → Option Addr) (b : Nat) : EntD := ⟨stV (pe b).st, bf b, (pe b).cost, (pe b).num⟩
structure SI (p : Sr.Prob ST) (W0 : World) (q M : Nat) (order : List ST) (vo : Value) (pe : Nat → Sr.Ent ST) (bf : Nat → Option Addr) (l : List Nat) (L : List (Sr.Ent ST)) (added : Nat) (w : World) : Prop where
  heap : HeapAt (dat pe bf) W0.heap.size q l w
  path : ∀ b ∈ l, EPath w (pe b).bk (bf b)
  perm : (l.map pe).Perm L
  rise : Sr.Rising L added
  set : SetAt w M (order.map p.key)
  ord : w.ownsRow W0.heap.size 3 1 vo order.length (order.map stV)
  below : Below W0.heap.size W0 w
  q0 : W0.heap.size ≤ q
  M0 : W0.heap.size ≤ M

section
variable {p : Sr.Prob ST} {W0 : World} {q M : Nat} {order : List ST} {vo : Value} {pe : Nat → Sr.Ent ST} {bf : Nat → Option Addr} {l : List Nat} {L : List (Sr.Ent ST)} {added : Nat} {w w' : World}

theorem HeapAt.below {D : Nat → EntD} {base : Nat} (h : HeapAt D base q l w) (hb : Below w.heap.size w w') : HeapAt D base q l w' := by
  obtain ⟨⟨v, hq, hr⟩, he, hh⟩ := h
  exact ⟨⟨v, hq.of_block (hb.block q hq.lt), hr.below hb⟩, fun e hm => (he e hm).below hb, hh⟩
theorem HeapAt.grown {D : Nat → EntD} {base : Nat} {row : Option Nat} (h : HeapAt D base q l w) (hg : w.grownBy w' row) (hk : EK w w') (hq : some q ≠ row) (hr : ∀ v, RowOf w base v l → v.ownBlock = none ∨ v.ownBlock ≠ row) : HeapAt D base q l w' := by
  obtain ⟨⟨v, hq1, hr1⟩, he, hh⟩ := h
  exact ⟨⟨v, hq1.of_block (hg.block q hq1.lt hq), hr1.kept hg (hr v hr1)⟩, fun e hm => hk e _ (he e hm), hh⟩
theorem below_lower {B : Nat} {a b c : World} (h : Below B a b) (k : Below b.heap.size b c) (hB : B ≤ b.heap.size) : Below B a c := h.trans (k.mono hB)
theorem SI.step (h : SI p W0 q M order vo pe bf l L added w) (hb : Below w.heap.size w w') : SI p W0 q M order vo pe bf l L added w' :=
  ⟨h.heap.below hb, fun b hm => (h.path b hm).keep (EK.below hb), h.perm, h.rise, h.set.of_block (hb.block M h.set.lt), pw_own_below h.ord hb, below_lower h.below hb h.below.size, h.q0, h.M0⟩
theorem SI.len (h : SI p W0 q M order vo pe bf l L added w) : l.length = L.length := by have := h.perm.length_eq; simpa using this

theorem not_row_qs {base : Nat} {u v : Value} {n : Nat} {xs : List Value} (hq : QAt w q u) (hr : w.ownsRow base 3 1 v n xs) (hc : Chg (QS base q w) w w') : w'.ownsRow base 3 1 v n xs := own_move hr (fun k hk => hc.block k (own_lt hr k hk) (by
  obtain ⟨cells, hcl⟩ := own_typed hr k hk
  rintro (rfl | ⟨_, c, f, hh⟩)
  · unfold QAt at hq
    rw [hcl] at hq
    injection hq with hq
    injection hq with _ ht
    exact absurd ht (by decide)
  · rw [hcl] at hh
    injection hh with hh
    injection hh with _ ht
    exact absurd ht (by decide)))
theorem not_set_qs {base : Nat} {u : Value} {ks : List ByteArray} (hq : QAt w q u) (hs : SetAt w M ks) (hc : Chg (QS base q w) w w') : SetAt w' M ks := hs.of_block (hc.block M hs.lt (by
  obtain ⟨es, cl, h1, _⟩ := hs
  rintro (rfl | ⟨_, c, f, hh⟩)
  · unfold QAt at hq
    rw [hq] at h1
    injection h1 with h1
    cases h1
  · rw [hh] at h1
    injection h1 with h1
    cases h1))

theorem SI.pop (h : SI p W0 q M order vo pe bf l L added w) (hp : HPopPost (dat pe bf) W0.heap.size q l w w') :
    ∃ l', SI p W0 q M order vo pe bf l' (L.eraseIdx (Sr.minIdx L)) added w' ∧ L[Sr.minIdx L]? = some (pe (at_ l 0)) ∧ EntAt w' (at_ l 0) (dat pe bf (at_ l 0)) ∧ EPath w' (pe (at_ l 0)).bk (bf (at_ l 0)) := by
  obtain ⟨l', hperm, hheap, hchg⟩ := hp
  obtain ⟨v, hq, hr⟩ := h.heap.ex
  have hk := EK.qs hq hchg
  have h0 : at_ l 0 ∈ l := hperm.mem_iff.1 (by simp)
  have hp2 : (pe (at_ l 0) :: l'.map pe).Perm L := ((hperm.map pe).trans h.perm)
  have hmin : ∀ y ∈ L, (pe (at_ l 0)).cost < y.cost ∨ ((pe (at_ l 0)).cost = y.cost ∧ (pe (at_ l 0)).num ≤ y.num) := by
    intro y hy
    obtain ⟨b, hb, rfl⟩ := List.mem_map.1 (h.perm.mem_iff.2 hy)
    obtain ⟨k, hkl, hkb⟩ := List.getElem_of_mem hb
    have := heap_root h.heap.heap k hkl
    rw [leK_iff] at this
    rw [show at_ l k = b from by simp [at_, List.getElem?_eq_getElem hkl, hkb]] at this
    simp only [kf, dat, EntD.key] at this
    omega
  obtain ⟨e1, e2⟩ := Sr.min_head h.rise hp2 hmin
  refine ⟨l', ⟨hheap, fun b hb => (h.path b (hperm.mem_iff.1 (List.mem_cons_of_mem _ hb))).keep hk, e2, h.rise.erase _, not_set_qs hq h.set hchg, not_row_qs hq h.ord hchg, ?_, h.q0, h.M0⟩, e1, hk _ _ (h.heap.ents _ h0), (h.path _ h0).keep hk⟩
  exact h.below.trans (hchg.below h.below.size (by
    rintro k (rfl | ⟨hb, _⟩)
    · exact h.q0
    · exact hb))

theorem heap_congr {D D' : Nat → EntD} {base : Nat} (h : HeapAt D base q l w) (he : ∀ b ∈ l, D' b = D b) : HeapAt D' base q l w := by
  refine ⟨h.ex, fun b hb => by rw [he b hb]; exact h.ents b hb, fun k h0 hk => ?_⟩
  have m1 : at_ l k ∈ l := by simp [at_, List.getElem?_eq_getElem hk]
  have m2 : at_ l ((k - 1) / 2) ∈ l := by simp [at_, List.getElem?_eq_getElem (show (k - 1) / 2 < l.length by omega)]
  unfold kf
  rw [he _ m1, he _ m2]
  exact h.heap k h0 hk
/-- The world behind the making of an entry. -/
def mkEnt (w : World) (t : ST) (b0 : Nat) (cost : Int) (num : Nat) : World := w.alloc (.cells #[stV t, .pointer (some ⟨b0, 0, none⟩), .int .i64 cost, .int .i64 (num : Int)] 82)
theorem mkEnt_at (w : World) (t : ST) (b0 : Nat) (cost : Int) (num : Nat) : EntAt (mkEnt w t b0 cost num) w.heap.size ⟨stV t, some ⟨b0, 0, none⟩, cost, num⟩ := by
  show (w.heap.push _)[w.heap.size]? = _
  simp
def pe1 (pe : Nat → Sr.Ent ST) (x : Nat) (e : Sr.Ent ST) : Nat → Sr.Ent ST := fun b => if b = x then e else pe b
def bf1 (bf : Nat → Option Addr) (x b0 : Nat) : Nat → Option Addr := fun b => if b = x then some ⟨b0, 0, none⟩ else bf b
theorem SI.make (h : SI p W0 q M order vo pe bf l L added w) (t : ST) (b0 : Nat) (cost : Int) (e : Sr.Ent ST) (he : e.st = t) (hc : e.cost = cost) (hn : e.num = added) :
    HeapAt (dat (pe1 pe w.heap.size e) (bf1 bf w.heap.size b0)) W0.heap.size q l (mkEnt w t b0 cost added) ∧ EntAt (mkEnt w t b0 cost added) w.heap.size (dat (pe1 pe w.heap.size e) (bf1 bf w.heap.size b0) w.heap.size) := by
  have hb : Below w.heap.size w (mkEnt w t b0 cost added) := (Below.refl _ _).alloc (Nat.le_refl _) _
  refine ⟨heap_congr (h.heap.below hb) (fun b hb' => ?_), ?_⟩
  · have := (h.heap.ents b hb').lt
    unfold dat pe1 bf1
    rw [if_neg (by omega), if_neg (by omega)]
  · have := mkEnt_at w t b0 cost added
    unfold dat pe1 bf1
    rw [if_pos rfl, if_pos rfl, he, hc, hn]
    exact this
theorem SI.push (h : SI p W0 q M order vo pe bf l L added w) (t : ST) (b0 : Nat) (cost : Int) (e x : Sr.Ent ST) (he : e = ⟨t, x.st :: x.bk, cost, added⟩) (hb0 : EntAt w b0 (dat pe bf b0)) (hx : pe b0 = x) (hpath : EPath w x.bk (bf b0))
    (hp : HPushPost (dat (pe1 pe w.heap.size e) (bf1 bf w.heap.size b0)) W0.heap.size q l w.heap.size (mkEnt w t b0 cost added) w') :
    (∃ l', SI p W0 q M order vo (pe1 pe w.heap.size e) (bf1 bf w.heap.size b0) l' (L ++ [e]) (added + 1) w') ∧ EK w w' ∧ Chg (QS W0.heap.size q w) w w' := by
  obtain ⟨l', hperm, hheap, hchg⟩ := hp
  have hb : Below w.heap.size w (mkEnt w t b0 cost added) := (Below.refl _ _).alloc (Nat.le_refl _) _
  obtain ⟨v, hq, hr⟩ := h.heap.ex
  have hq1 : QAt (mkEnt w t b0 cost added) q v := hq.of_block (hb.block q hq.lt)
  have hk : EK w w' := (EK.below hb).trans (EK.qs hq1 hchg)
  have hk1 : EK (mkEnt w t b0 cost added) w' := EK.qs hq1 hchg
  have hlt : ∀ b ∈ l, b ≠ w.heap.size := fun b hm => by have := (h.heap.ents b hm).lt; omega
  have hchg' : Chg (QS W0.heap.size q w) w w' := by
    refine (Chg.of_below hb _).trans hchg (fun i hi => ?_)
    by_cases hil : i < w.heap.size
    · rcases hi with rfl | ⟨h1, c, f, h2⟩
      · exact .inl (.inl rfl)
      · exact .inl (.inr ⟨h1, c, f, by rw [hb.block i hil] at h2; exact h2⟩)
    · exact .inr (by omega)
  refine ⟨⟨l', hheap, fun b hbm => ?_, ?_, ?_, not_set_qs hq1 (h.set.of_block (hb.block M h.set.lt)) hchg, not_row_qs hq1 (pw_own_below h.ord hb) hchg, ?_, h.q0, h.M0⟩, hk, hchg'⟩
  · rcases List.mem_append.1 (hperm.mem_iff.1 hbm) with hbl | hbl
    · have hne := hlt b hbl
      unfold pe1 bf1
      rw [if_neg hne, if_neg hne]
      exact (h.path b hbl).keep hk
    · obtain rfl : b = w.heap.size := by simpa using hbl
      unfold pe1 bf1
      rw [if_pos rfl, if_pos rfl, he]
      refine ⟨b0, dat pe bf b0, rfl, hk _ _ hb0, ?_, ?_⟩
      · show stV (pe b0).st = _; rw [hx]
      · exact hpath.keep hk
  · have h1 : (l ++ [w.heap.size]).map (pe1 pe w.heap.size e) = l.map pe ++ [e] := by
      rw [List.map_append]
      congr 1
      · exact List.map_congr_left (fun b hm => by unfold pe1; rw [if_neg (hlt b hm)])
      · simp [pe1]
    have h2 := hperm.map (pe1 pe w.heap.size e)
    rw [h1] at h2
    exact h2.trans (h.perm.append_right _)
  · refine ⟨List.pairwise_append.2 ⟨h.rise.1, by simp, fun a ha b hbm => ?_⟩, fun y hy => ?_⟩
    · obtain rfl : b = e := by simpa using hbm
      have := h.rise.2 a ha
      rw [he]; exact this
    · rcases List.mem_append.1 hy with hy | hy
      · have := h.rise.2 y hy; omega
      · obtain rfl : y = e := by simpa using hy
        rw [he]; exact Nat.lt_succ_self _
  · exact h.below.trans (hchg'.below h.below.size (by
      rintro k (rfl | ⟨hb', _⟩)
      · exact h.q0
      · exact hb'))

theorem SI.mark (h : SI p W0 q M order vo pe bf l L added w) (s : ST) (hs : SetAt w' M ((order.map p.key) ++ [p.key s])) (hg : w.grownBy w' (some M)) : 
    HeapAt (dat pe bf) W0.heap.size q l w' ∧ (∀ b ∈ l, EPath w' (pe b).bk (bf b)) ∧ SetAt w' M ((order ++ [s]).map p.key) ∧ w'.ownsRow W0.heap.size 3 1 vo order.length (order.map stV) ∧ Below W0.heap.size W0 w' ∧ EK w w' := by
  have hk := EK.map h.set hg
  have hcell : ∀ {k c t f}, w.heap[k]? = some (.cells c t f) → k ≠ M := by
    rintro k c t f hk' rfl
    obtain ⟨es, cl, h1, _⟩ := h.set
    rw [hk'] at h1
    injection h1 with h1
    cases h1
  obtain ⟨v, hq, hr⟩ := h.heap.ex
  refine ⟨h.heap.grown hg hk (fun e => hcell hq (by injection e)) (fun v hv => ?_), fun b hb => (h.path b hb).keep hk, by rw [List.map_append]; exact hs, h.ord.kept hg ?_, h.below.grown hg h.below.size (fun k e => by injection e with e; subst e; exact h.M0), hk⟩
  · cases e : v.ownBlock with
    | none => exact .inl rfl
    | some k =>
      obtain ⟨cells, hc⟩ := own_typed hv k e
      exact .inr (fun e' => hcell hc (by injection e'))
  · cases e : vo.ownBlock with
    | none => exact .inl rfl
    | some k =>
      obtain ⟨cells, hc⟩ := own_typed h.ord k e
      exact .inr (fun e' => hcell hc (by injection e'))
end
end Go.Proofs.Ytipdejalohmkpaa.I

/- The search, walked. -/
namespace Go.Proofs.Ytipdejalohmkpaa.I
open Go.RowKit Hp Go.Proofs.YtipdejalohmkpaaW.PrintWords

/-- A problem in memory: what its methods answer in every world that grew out of W0. -/
structure PrC (p : Sr.Prob ST) (ok : ST → Prop) (pr : Value) (W0 : World) : Prop where
  key : ∀ (w : World) (s : ST), ok s → Below W0.heap.size W0 w → Calls Try.prog 69 #[pr, stV s] w fun e w' => e = .returned (.string (p.key s)) ∧ Below w.heap.size w w'
  next : ∀ (w : World) (s : ST), ok s → Below W0.heap.size W0 w → Calls Try.prog 70 #[pr, stV s] w fun e w' => ∃ v : Value, e = .returned v ∧ kst.R 102 w' w.heap.size (fun _ => True) v (p.next s) ∧ Below w.heap.size w w'
  few : ∀ s, (p.next s).length ≤ 100
  oks : ∀ s x, ok s → x ∈ p.next s → ok x.1
  mkey : ∀ w, (method 230 62 pr "Key").run Try.prog w = .ok (69, pr) w
  mnext : ∀ w, (method 230 62 pr "Next").run Try.prog w = .ok (70, pr) w
  nkey : ∀ w, (nilAhead 230 62 pr "Key").run Try.prog w = .ok (some false) w
  nnext : ∀ w, (nilAhead 230 62 pr "Next").run Try.prog w = .ok (some false) w
  mgoal : ∀ w, (method 230 62 pr "Goal").run Try.prog w = .ok (68, pr) w

/-- What the search hands back. -/
def SPost (W0 : World) (out : Sr.Out ST) (e : Ending) (w' : World) : Prop :=
  Below W0.heap.size W0 w' ∧ match out with
  | .notFound order => ∃ vo, e = .returned (.tuple #[.pointer none, vo, .int .i64 4]) ∧ w'.ownsRow W0.heap.size 3 1 vo order.length (order.map stV)
  | .budget _ => e = .returned (.tuple #[.pointer none, .slice none 0 0, .int .i64 7])
  | .found x _ => ∃ b vo d, e = .returned (.tuple #[.pointer (some ⟨b, 0, none⟩), vo, .int .i64 0]) ∧ EntAt w' b d ∧ d.st = stV x.st ∧ d.cost = x.cost ∧ EPath w' x.bk d.bf

/-- Behind the taking of the first entry. -/
def Popped (p : Sr.Prob ST) (W0 : World) (q M : Nat) (order : List ST) (vo : Value) (L : List (Sr.Ent ST)) (added : Nat) (b0 : Nat) (x : Sr.Ent ST) (w : World) : Prop :=
  ∃ pe bf l', SI p W0 q M order vo pe bf l' L added w ∧ pe b0 = x ∧ EntAt w b0 (dat pe bf b0) ∧ EPath w x.bk (bf b0)
theorem Popped.step {p : Sr.Prob ST} {W0 : World} {q M : Nat} {order : List ST} {vo : Value} {L : List (Sr.Ent ST)} {added : Nat} {b0 : Nat} {x : Sr.Ent ST} {w w' : World} (h : Popped p W0 q M order vo L added b0 x w) (hb : Below w.heap.size w w') : Popped p W0 q M order vo L added b0 x w' := by
  obtain ⟨pe, bf, l', h1, h2, h3, h4⟩ := h
  exact ⟨pe, bf, l', h1.step hb, h2, h3.below hb, h4.keep (EK.below hb)⟩
theorem Popped.c0 {p : Sr.Prob ST} {W0 : World} {q M : Nat} {order : List ST} {vo : Value} {L : List (Sr.Ent ST)} {added : Nat} {b0 : Nat} {x : Sr.Ent ST} {w : World} (h : Popped p W0 q M order vo L added b0 x w) : w.cell? ⟨b0, 0, none⟩ = some (stV x.st) := by
  obtain ⟨pe, bf, l', h1, h2, h3, h4⟩ := h
  rw [← h2]; exact h3.c0
theorem Popped.below {p : Sr.Prob ST} {W0 : World} {q M : Nat} {order : List ST} {vo : Value} {L : List (Sr.Ent ST)} {added : Nat} {b0 : Nat} {x : Sr.Ent ST} {w : World} (h : Popped p W0 q M order vo L added b0 x w) : Below W0.heap.size W0 w := by
  obtain ⟨pe, bf, l', h1, _⟩ := h
  exact h1.below
theorem Popped.set {p : Sr.Prob ST} {W0 : World} {q M : Nat} {order : List ST} {vo : Value} {L : List (Sr.Ent ST)} {added : Nat} {b0 : Nat} {x : Sr.Ent ST} {w : World} (h : Popped p W0 q M order vo L added b0 x w) : SetAt w M (order.map p.key) := by
  obtain ⟨pe, bf, l', h1, _⟩ := h
  exact h1.set
theorem pop_popped {p : Sr.Prob ST} {W0 : World} {q M : Nat} {order : List ST} {vo : Value} {pe : Nat → Sr.Ent ST} {bf : Nat → Option Addr} {l : List Nat} {L : List (Sr.Ent ST)} {added : Nat} {w : World} (h : SI p W0 q M order vo pe bf l L added w) {n : Nat} (hn : l.length = n + 1) (hl : l.length < 1000000000) :
    ∃ b0 x, L[Sr.minIdx L]? = some x ∧ Calls Try.prog 40 #[.iface 97 (.pointer (some ⟨q, 0, none⟩))] w fun e w' => e = .returned (.iface 77 (.pointer (some ⟨b0, 0, none⟩))) ∧ Popped p W0 q M order vo (L.eraseIdx (Sr.minIdx L)) added b0 x w' := by
  have hne : L ≠ [] := by rintro rfl; have := h.len; rw [hn] at this; simp at this
  obtain ⟨hlt, _⟩ := Sr.minIdx_spec L hne
  refine ⟨at_ l 0, L[Sr.minIdx L], List.getElem?_eq_getElem hlt, (hpop_any (dat pe bf) W0.heap.size q l n w h.heap hn hl).mono ?_⟩
  rintro e w' ⟨rfl, hp⟩
  obtain ⟨l', h1, h2, h3, h4⟩ := h.pop hp
  rw [List.getElem?_eq_getElem hlt] at h2
  injection h2 with h2
  refine ⟨rfl, pe, bf, l', h1, h2.symm, h3, ?_⟩
  rw [h2]; exact h4
theorem mark_append {p : Sr.Prob ST} {W0 : World} {q M : Nat} {order : List ST} {vo v1 : Value} {L : List (Sr.Ent ST)} {added : Nat} {b0 : Nat} {x : Sr.Ent ST} {w w' w1 : World} (h : Popped p W0 q M order vo L added b0 x w)
    (hset : SetAt w' M (order.map p.key ++ [p.key x.st])) (hg : w.grownBy w' (some M)) (hrow : w1.ownsRow W0.heap.size 3 1 v1 (order ++ [x.st]).length ((order ++ [x.st]).map stV)) (hB : Below W0.heap.size W0 w1) (hgr : w'.grownBy w1 vo.ownBlock) :
    Popped p W0 q M (order ++ [x.st]) v1 L added b0 x w1 := by
  obtain ⟨pe, bf, l', h1, h2, h3, h4⟩ := h
  obtain ⟨a1, a2, a3, a4, a5, a6⟩ := h1.mark x.st hset hg
  have hk := EK.row a4 hgr
  have hne : ∀ {k c t}, t ≠ 3 → w'.heap[k]? = some (.cells c t (0, 0)) → some k ≠ vo.ownBlock := by
    intro k c t ht hk' e
    obtain ⟨cells, hc⟩ := own_typed a4 k e.symm
    rw [hc] at hk'
    injection hk' with hk'
    injection hk' with _ e2
    exact ht e2.symm
  obtain ⟨v, hq, hr⟩ := a1.ex
  refine ⟨pe, bf, l', ⟨a1.grown hgr hk (hne (by decide) hq) (fun v hv => ?_), fun b hb => (a2 b hb).keep hk, h1.perm, h1.rise, a3.of_block (hgr.block M a3.lt ?_), hrow, hB, h1.q0, h1.M0⟩, h2, hk _ _ (a6 _ _ h3), (h4.keep a6).keep hk⟩
  · cases e : v.ownBlock with
    | none => exact .inl rfl
    | some k =>
      obtain ⟨cells, hc⟩ := own_typed hv k e
      exact .inr (hne (by decide) hc)
  · intro e
    obtain ⟨cells, hc⟩ := own_typed a4 M e.symm
    obtain ⟨es, cl, h5, _⟩ := a3
    rw [hc] at h5
    injection h5 with h5
    cases h5
theorem mark_c0 {p : Sr.Prob ST} {W0 : World} {q M : Nat} {order : List ST} {vo : Value} {L : List (Sr.Ent ST)} {added : Nat} {b0 : Nat} {x : Sr.Ent ST} {w w' : World} (h : Popped p W0 q M order vo L added b0 x w)
    (hset : SetAt w' M (order.map p.key ++ [p.key x.st])) (hg : w.grownBy w' (some M)) : w'.cell? ⟨b0, 0, none⟩ = some (stV x.st) ∧ w'.ownsRow W0.heap.size 3 1 vo order.length (order.map stV) ∧ Below W0.heap.size W0 w' := by
  obtain ⟨pe, bf, l', h1, h2, h3, h4⟩ := h
  obtain ⟨a1, a2, a3, a4, a5, a6⟩ := h1.mark x.st hset hg
  exact ⟨by rw [← h2]; exact (a6 _ _ h3).c0, a4, a5⟩
theorem info_st : (Try.prog.info? 3).map (fun i => (i.zero, i.size, i.bytes)) = some (some (.int .i64 0), 1, 8) := by kernel_rfl
theorem Popped.ord {p : Sr.Prob ST} {W0 : World} {q M : Nat} {order : List ST} {vo : Value} {L : List (Sr.Ent ST)} {added : Nat} {b0 : Nat} {x : Sr.Ent ST} {w : World} (h : Popped p W0 q M order vo L added b0 x w) : w.ownsRow W0.heap.size 3 1 vo order.length (order.map stV) := by
  obtain ⟨pe, bf, l', h1, _⟩ := h
  exact h1.ord
theorem Popped.c2 {p : Sr.Prob ST} {W0 : World} {q M : Nat} {order : List ST} {vo : Value} {L : List (Sr.Ent ST)} {added : Nat} {b0 : Nat} {x : Sr.Ent ST} {w : World} (h : Popped p W0 q M order vo L added b0 x w) : w.cell? ⟨b0, 2, none⟩ = some (.int .i64 x.cost) := by
  obtain ⟨pe, bf, l', h1, h2, h3, h4⟩ := h
  rw [← h2]; exact h3.c2
theorem Popped.qat {p : Sr.Prob ST} {W0 : World} {q M : Nat} {order : List ST} {vo : Value} {L : List (Sr.Ent ST)} {added : Nat} {b0 : Nat} {x : Sr.Ent ST} {w : World} (h : Popped p W0 q M order vo L added b0 x w) : ∃ v, QAt w q v := by
  obtain ⟨pe, bf, l', h1, h2, h3, h4⟩ := h
  obtain ⟨v, hq, _⟩ := h1.heap.ex
  exact ⟨v, hq⟩
theorem push_popped {p : Sr.Prob ST} {W0 : World} {q M : Nat} {order : List ST} {vo : Value} {L : List (Sr.Ent ST)} {added : Nat} {b0 : Nat} {x : Sr.Ent ST} {w : World} (h : Popped p W0 q M order vo L added b0 x w) (t : ST) (c : Int) (hadd : added < 900000000) :
    Calls Try.prog 41 #[.iface 97 (.pointer (some ⟨q, 0, none⟩)), .iface 77 (.pointer (some ⟨w.heap.size, 0, none⟩))] (mkEnt w t b0 (x.cost + c) added) fun e w' => e = .returned (.tuple #[]) ∧ Popped p W0 q M order vo (L ++ [⟨t, x.st :: x.bk, x.cost + c, added⟩]) (added + 1) b0 x w' ∧ Chg (QS W0.heap.size q w) w w' := by
  obtain ⟨pe, bf, l', h1, h2, h3, h4⟩ := h
  have hlen := h1.len
  have hlen2 := h1.rise.length
  obtain ⟨m1, m2⟩ := h1.make t b0 (x.cost + c) ⟨t, x.st :: x.bk, x.cost + c, added⟩ rfl rfl rfl
  refine (hpush_any _ W0.heap.size q l' w.heap.size (mkEnt w t b0 (x.cost + c) added) m1 m2 (by omega) (by unfold mkEnt; simp; have := h1.below.size; omega)).mono ?_
  rintro e w' ⟨rfl, hp⟩
  obtain ⟨⟨l2, s1⟩, k1, c1⟩ := h1.push t b0 (x.cost + c) ⟨t, x.st :: x.bk, x.cost + c, added⟩ x rfl h3 h2 h4 hp
  have hne : b0 ≠ w.heap.size := by have := h3.lt; omega
  refine ⟨rfl, ⟨_, _, l2, s1, ?_, ?_, ?_⟩, c1⟩
  · unfold pe1; rw [if_neg hne]; exact h2
  · have := k1 _ _ h3
    unfold dat pe1 bf1
    rw [if_neg hne, if_neg hne]
    exact this
  · unfold bf1; rw [if_neg hne]; exact h4.keep k1
theorem steps_keep {base q : Nat} {w w' : World} {u v : Value} {B : Nat} {ns : List (ST × Int)} (h : kst.R 102 w B (fun _ => True) v ns) (hq : QAt w q u) (hc : Chg (QS base q w) w w') : kst.R 102 w' B (fun _ => True) v ns := by
  refine Kd.R_mono (Kd.R_step (Kd.R_bound h) (fun k hk hlt => hc.block k hlt ?_)) (fun _ _ => trivial)
  obtain ⟨_, _, _, t, ht, cells, hcl⟩ := hk
  obtain rfl : t = 102 := by
    simp only [kst, Kd.pair, Kd.int, Kd.scalar, List.append_nil, List.mem_cons, List.not_mem_nil, or_false] at ht
    exact ht
  rintro (rfl | ⟨_, c, f, hh⟩)
  · unfold QAt at hq
    rw [hcl] at hq
    injection hq with hq
    injection hq with _ e
    exact absurd e (by decide)
  · rw [hcl] at hh
    injection hh with hh
    injection hh with _ e
    exact absurd e (by decide)
theorem at_step {w : World} {A : Option Addr} {n : Nat} {xs : List (ST × Int)} (h : kst.C w A n xs) (i : Nat) (h1 : i < n) (x : ST × Int) (hx : xs[i]? = some x) : ∃ ad, A = some ad ∧ w.cell? (ad.add (i * 2)) = some (stV x.1) ∧ w.cell? ⟨(ad.add (i * 2)).block, (ad.add (i * 2)).off + 1, none⟩ = some (.int .i64 x.2) := by
  obtain ⟨ad, c, e, _, hK, hc0⟩ := Kd.C_get h x (i : Int) (by omega) (by omega)
  rw [Int.toNat_natCast] at hK hc0
  rw [show xs.getD i x = x from by simp [hx]] at hK
  obtain ⟨_, _, rfl, rfl, rfl⟩ := hK
  have hc : ∀ j u, [stV x.1, .int .i64 x.2][j]? = some u → w.cell? (ad.add (i * 2 + j)) = some u := hc0
  exact ⟨ad, e, hc 0 _ rfl, by rw [← add_field _ _ 1 (by omega)]; exact hc 1 _ rfl⟩
theorem new_cells (w : World) (a b : Value) (t : TypeId) (n : Nat) : ((w.alloc (.cells #[a, b] t)).drewN n).cell? ⟨w.heap.size, 0, none⟩ = some a ∧ ((w.alloc (.cells #[a, b] t)).drewN n).cell? ⟨w.heap.size, 1, none⟩ = some b := by
  have h : ((w.alloc (.cells #[a, b] t)).drewN n).heap[w.heap.size]? = some (.cells #[a, b] t) := by show (w.heap.push _)[w.heap.size]? = _; simp
  constructor
  · unfold World.cell?; rw [h]; rfl
  · unfold World.cell?; rw [h]; rfl
theorem Popped.lt {p : Sr.Prob ST} {W0 : World} {q M : Nat} {order : List ST} {vo : Value} {L : List (Sr.Ent ST)} {added : Nat} {b0 : Nat} {x : Sr.Ent ST} {w : World} (h : Popped p W0 q M order vo L added b0 x w) : b0 < w.heap.size := by
  obtain ⟨pe, bf, l', h1, h2, h3, h4⟩ := h
  exact h3.lt
theorem below_new (w : World) (o : Obj) (n : Nat) : Below w.heap.size w ((w.alloc o).drewN n) := pw_below_drewN ((Below.refl _ _).alloc (Nat.le_refl _) _) n
/-- The relation of the rounds that add an expansion's entries. -/
def IRel (p : Sr.Prob ST) (W0 : World) (q M : Nat) (order : List ST) (vo : Value) (b0 : Nat) (x : Sr.Ent ST) (ns : List (ST × Int)) (Lf : List (Sr.Ent ST)) (addf : Nat) (w8 : World) (va vj : Value) (wr : World) : Prop :=
  ∃ (j : Nat) (Lc : List (Sr.Ent ST)) (addc : Nat), vj = .int .i64 j ∧ j ≤ ns.length ∧ va = .int .i64 addc ∧ Popped p W0 q M order vo Lc addc b0 x wr ∧ Lc ++ Sr.pushes x (ns.drop j) addc = Lf ∧ addc + (Sr.pushes x (ns.drop j) addc).length = addf ∧ Chg (QS W0.heap.size q w8) w8 wr
theorem IRel.skip {p : Sr.Prob ST} {W0 : World} {q M : Nat} {order : List ST} {vo : Value} {b0 : Nat} {x : Sr.Ent ST} {ns : List (ST × Int)} {Lf : List (Sr.Ent ST)} {addf : Nat} {w8 wr w' : World} {j : Nat} {Lc : List (Sr.Ent ST)} {addc : Nat} {y : ST × Int} (hy : ns[j]? = some y)
    (hp : Popped p W0 q M order vo Lc addc b0 x wr) (hL : Lc ++ Sr.pushes x (ns.drop j) addc = Lf) (ha : addc + (Sr.pushes x (ns.drop j) addc).length = addf) (hc : Chg (QS W0.heap.size q w8) w8 wr) (hs : Sr.pushes x (y :: ns.drop (j + 1)) addc = Sr.pushes x (ns.drop (j + 1)) addc) (hb : Below wr.heap.size wr w') :
    IRel p W0 q M order vo b0 x ns Lf addf w8 (.int .i64 (addc : Int)) (.int .i64 ((j : Int) + 1)) w' := by
  obtain ⟨hlt, hy'⟩ := List.getElem?_eq_some_iff.1 hy
  rw [List.drop_eq_getElem_cons hlt, hy', hs] at hL ha
  exact ⟨j + 1, Lc, addc, by simp, hlt, rfl, hp.step hb, hL, ha, hc.trans (Chg.of_below hb (fun _ => False)) (fun _ hi => hi.elim)⟩
theorem IRel.take {p : Sr.Prob ST} {W0 : World} {q M : Nat} {order : List ST} {vo : Value} {b0 : Nat} {x : Sr.Ent ST} {ns : List (ST × Int)} {Lf : List (Sr.Ent ST)} {addf : Nat} {w8 wr w9 w' : World} {j : Nat} {Lc : List (Sr.Ent ST)} {addc : Nat} {y : ST × Int} (hy : ns[j]? = some y)
    (hL : Lc ++ Sr.pushes x (ns.drop j) addc = Lf) (ha : addc + (Sr.pushes x (ns.drop j) addc).length = addf) (hc : Chg (QS W0.heap.size q w8) w8 wr) (hs : Sr.pushes x (y :: ns.drop (j + 1)) addc = ⟨y.1, x.st :: x.bk, x.cost + y.2, addc⟩ :: Sr.pushes x (ns.drop (j + 1)) (addc + 1)) (hb : Below wr.heap.size wr w9)
    (hp : Popped p W0 q M order vo (Lc ++ [⟨y.1, x.st :: x.bk, x.cost + y.2, addc⟩]) (addc + 1) b0 x w') (hc9 : Chg (QS W0.heap.size q w9) w9 w') :
    IRel p W0 q M order vo b0 x ns Lf addf w8 (.int .i64 ((addc : Int) + 1)) (.int .i64 ((j : Int) + 1)) w' := by
  obtain ⟨hlt, hy'⟩ := List.getElem?_eq_some_iff.1 hy
  rw [List.drop_eq_getElem_cons hlt, hy', hs] at hL ha
  refine ⟨j + 1, _, addc + 1, by simp, hlt, by simp, hp, by rw [← hL]; simp, by rw [← ha]; simp; omega, QS.trans (hc.trans (Chg.of_below hb (fun _ => False)) (fun _ hi => hi.elim)) hc9⟩
theorem chg_of_below {base q : Nat} {w8 w w' : World} (h : Chg (QS base q w8) w8 w) (hb : Below w.heap.size w w') : Chg (QS base q w8) w8 w' := h.trans (Chg.of_below hb (fun _ => False)) (fun _ hi => hi.elim)
theorem chg_trans {base q : Nat} {w8 w w' : World} (h : Chg (QS base q w8) w8 w) (k : Chg (QS base q w) w w') : Chg (QS base q w8) w8 w' := QS.trans h k
theorem pushes_len (x : Sr.Ent ST) : ∀ (r : List (ST × Int)) (n : Nat), (Sr.pushes x r n).length ≤ r.length := by
  intro r
  induction r with
  | nil => intro n; simp [Sr.pushes]
  | cons y r ih =>
    intro n
    unfold Sr.pushes
    split
    · have := ih n; simp; omega
    · have := ih (n + 1); simp; omega
theorem pushes_skip (x : Sr.Ent ST) (y : ST × Int) (r : List (ST × Int)) (n : Nat) (h : y.2 < 0 ∨ y.2 > Sr.maxCount - x.cost) : Sr.pushes x (y :: r) n = Sr.pushes x r n := by
  conv => lhs; unfold Sr.pushes
  rw [if_pos h]
theorem pushes_take (x : Sr.Ent ST) (y : ST × Int) (r : List (ST × Int)) (n : Nat) (h : ¬ (y.2 < 0 ∨ y.2 > Sr.maxCount - x.cost)) : Sr.pushes x (y :: r) n = ⟨y.1, x.st :: x.bk, x.cost + y.2, n⟩ :: Sr.pushes x r (n + 1) := by
  conv => lhs; unfold Sr.pushes
  rw [if_neg h]
theorem pushes_ok {ok : ST → Prop} (x : Sr.Ent ST) (hx : 0 ≤ x.cost ∧ x.cost ≤ Sr.maxCount) : ∀ (r : List (ST × Int)) (n : Nat), (∀ y ∈ r, ok y.1) → ∀ e ∈ Sr.pushes x r n, ok e.st ∧ 0 ≤ e.cost ∧ e.cost ≤ Sr.maxCount := by
  intro r
  induction r with
  | nil => intro n _ e he; simp [Sr.pushes] at he
  | cons y r ih =>
    intro n hr e he
    by_cases h : y.2 < 0 ∨ y.2 > Sr.maxCount - x.cost
    · rw [pushes_skip x y r n h] at he
      exact ih n (fun z hz => hr z (by simp [hz])) e he
    · rw [pushes_take x y r n h] at he
      rcases List.mem_cons.1 he with rfl | he
      · exact ⟨hr y (by simp), by simp only; omega, by simp only; omega⟩
      · exact ih (n + 1) (fun z hz => hr z (by simp [hz])) e he
theorem I_assert : ∀ (v : Value) (w : World), (Instr.typeAssert (.iface 77 v) 20 77 false).run Try.prog w = .ok v w := fun _ _ => by kernel_rfl

/-- The relation of the search's rounds. -/
def SRel (p : Sr.Prob ST) (ok : ST → Prop) (goal : ST → Bool) (budget : Nat) (W0 : World) (q M : Nat) (out : Sr.Out ST) (kq : Nat) (order : List ST) (vo : Value) (L : List (Sr.Ent ST)) (added : Nat) (l : List Nat) (w : World) : Prop :=
  (∃ pe bf, SI p W0 q M order vo pe bf l L added w) ∧ (∀ e ∈ L, ok e.st ∧ 0 ≤ e.cost ∧ e.cost ≤ Sr.maxCount) ∧ order.length ≤ budget ∧ added ≤ 1 + 100 * order.length ∧ Sr.run p goal budget kq L order added = some out

def SRelV (p : Sr.Prob ST) (ok : ST → Prop) (goal : ST → Bool) (budget : Nat) (W0 : World) (q M : Nat) (out : Sr.Out ST) (kq : Nat) (vo va : Value) (wr : World) : Prop :=
  ∃ (order : List ST) (L : List (Sr.Ent ST)) (added : Nat) (l : List Nat) (vo1 : Value), va = .int .i64 added ∧ vo1 = vo ∧ SRel p ok goal budget W0 q M out kq order vo1 L added l wr

theorem start_rel (p : Sr.Prob ST) (ok : ST → Prop) (goal : ST → Bool) (budget : Nat) (W0 : World) (s0 : ST) (out : Sr.Out ST) (k : Nat) (hok : ok s0) (hrun : Sr.run p goal budget k [⟨s0, [], 0, 0⟩] [] 1 = some out) :
    SRel p ok goal budget W0 (W0.heap.size + 1 + 1) (W0.heap.size + 1 + 1 + 1) out k [] (.slice none 0 0) [⟨s0, [], 0, 0⟩] 1 [W0.heap.size]
      ((((W0.alloc (.cells #[stV s0, .pointer none, .int .i64 0, .int .i64 0] 82)).alloc (.cells #[.pointer (some ⟨W0.heap.size, 0, none⟩)] 77)).alloc (.cells #[.slice (some ⟨W0.heap.size + 1, 0, none⟩) 1 1] 99)).alloc (.map #[] 0)) := by
  have e0 : ∀ (w : World) (o : Obj) (n : Nat), n = w.heap.size → (w.alloc o).heap[n]? = some o := fun w o n e => by subst e; show (w.heap.push o)[w.heap.size]? = _; simp
  have b0 : ∀ (w : World) (o o' : Obj) (n : Nat), n = w.heap.size → ((w.alloc o).alloc o').heap[n]? = some o := fun w o o' n e => by
    rw [Below.heap_alloc _ _ _ (by simp; omega)]; exact e0 w o n e
  have m0 : ∀ (w : World) (n : Nat), n = w.heap.size → SetAt (w.alloc (.map #[] 0)) n [] := fun w n e => by subst e; exact SetAt.made w
  refine ⟨⟨fun _ => ⟨s0, [], 0, 0⟩, fun _ => none, ⟨⟨⟨.slice (some ⟨W0.heap.size + 1, 0, none⟩) 1 1, ?_, ?_⟩, ?_, ?_⟩, ?_, ?_, ?_, ?_, own_nil _ _ _ _, ?_, ?_, ?_⟩⟩, ?_, by simp, by simp, hrun⟩
  · exact b0 _ _ _ _ (by simp)
  · refine (World.ownsRow.alloc (World.ownsRow.alloc ⟨by simp, .inr ⟨W0.heap.size + 1, 1, #[.pointer (some ⟨W0.heap.size, 0, none⟩)], rfl, by omega, ?_, by simp, by simp [maxLen], by simp, by simp [ptrV]⟩⟩ _) _)
    exact e0 _ _ _ (by simp)
  · intro e he
    obtain rfl : e = W0.heap.size := by simpa using he
    unfold EntAt
    rw [Below.heap_alloc _ _ _ (by simp; omega), Below.heap_alloc _ _ _ (by simp; omega), Below.heap_alloc _ _ _ (by simp), e0 _ _ _ rfl]
    rfl
  · intro k h0 hk; simp at hk; omega
  · intro b _; rfl
  · simp
  · exact ⟨by simp, by simp⟩
  · exact m0 _ _ (by simp)
  · exact ((((Below.refl _ _).alloc (Nat.le_refl _) _).alloc (by simp) _).alloc (by simp; omega) _).alloc (by simp; omega) _
  · omega
  · omega
  · intro e he
    obtain rfl : e = ⟨s0, [], 0, 0⟩ := by simpa using he
    exact ⟨hok, by simp, by simp [Sr.maxCount]⟩

end Go.Proofs.Ytipdejalohmkpaa.I

/- Reversing a list in place by exchanging its ends: the loop's answer is the reversed list. -/
namespace Go.Proofs.Ytipdejalohmkpaa.Gr
open Go.RowKit

def RevOk {α : Type} (xs x : List α) (i : Nat) : Prop := x.length = xs.length ∧ ∀ t, t < xs.length → x[t]? = if t < i ∨ xs.length - i ≤ t then xs[xs.length - 1 - t]? else xs[t]?
theorem rev_done {α : Type} {xs x : List α} {i : Nat} (h : RevOk xs x i) (hi : xs.length ≤ 2 * i + 1) : x = xs.reverse := by
  apply List.ext_getElem?
  intro t
  by_cases ht : t < xs.length
  · rw [h.2 t ht, List.getElem?_reverse ht]
    by_cases c : t < i ∨ xs.length - i ≤ t
    · rw [if_pos c]
    · rw [if_neg c]
      congr 1; omega
  · have hl := h.1
    rw [List.getElem?_eq_none (by omega), List.getElem?_eq_none (by simp; omega)]
theorem rev_step {α : Type} (d : α) {xs x : List α} {i : Nat} (h : RevOk xs x i) (hi : 2 * i + 1 < xs.length) : RevOk xs ((x.set i (x.getD (xs.length - 1 - i) d)).set (xs.length - 1 - i) (x.getD i d)) (i + 1) := by
  obtain ⟨hl, hx⟩ := h
  refine ⟨by simp [hl], fun t ht => ?_⟩
  have e1 : x.getD i d = xs[i] := by
    have := hx i (by omega)
    rw [if_neg (by omega), List.getElem?_eq_getElem (show i < xs.length by omega)] at this
    simp [List.getD_eq_getElem?_getD, this]
  have e2 : x.getD (xs.length - 1 - i) d = xs[xs.length - 1 - i] := by
    have := hx (xs.length - 1 - i) (by omega)
    rw [if_neg (by omega), List.getElem?_eq_getElem (show xs.length - 1 - i < xs.length by omega)] at this
    simp [List.getD_eq_getElem?_getD, this]
  rw [e1, e2, List.getElem?_set, List.getElem?_set]
  simp only [List.length_set, hl]
  by_cases c1 : xs.length - 1 - i = t
  · rw [if_pos c1, if_pos (by omega), if_pos (by omega)]
    rw [← c1, List.getElem?_eq_getElem (show xs.length - 1 - (xs.length - 1 - i) < xs.length by omega)]
    congr 2; omega
  · rw [if_neg c1]
    by_cases c2 : i = t
    · rw [if_pos c2, if_pos (by omega), if_pos (by omega), ← c2, List.getElem?_eq_getElem (show xs.length - 1 - i < xs.length by omega)]
    · rw [if_neg c2, hx t ht]
      by_cases c3 : t < i ∨ xs.length - i ≤ t
      · rw [if_pos c3, if_pos (by omega)]
      · rw [if_neg c3, if_neg (by omega)]
theorem rev_loop {α : Type} (d : α) (l0 : Nat → List α → Int → Int → Option (List α))
    (h0 : ∀ k x (i j : Int), l0 (k + 1) x i j = if i < j then (if 0 ≤ j then (if j < (x.length : Int) then (if 0 ≤ i then (if i < (x.length : Int) then (l0 k ((x.set i.toNat (x.getD j.toNat d)).set j.toNat (x.getD i.toNat d)) (wrap64 (i + 1)) (wrap64 (j - 1))) else none) else none) else none) else none) else some x)
    (xs : List α) (hx : xs.length < 1000000000) : ∀ (n k i : Nat) (x : List α), xs.length - 2 * i ≤ n → n < k → RevOk xs x i → i ≤ xs.length → l0 k x (i : Int) ((xs.length : Int) - 1 - i) = some xs.reverse := by
  intro n
  induction n with
  | zero =>
    intro k i x hn hk hr hi
    obtain ⟨k, rfl⟩ : ∃ m, k = m + 1 := ⟨k - 1, by omega⟩
    rw [h0, if_neg (by omega), rev_done hr (by omega)]
  | succ n ih =>
    intro k i x hn hk hr hi
    obtain ⟨k, rfl⟩ : ∃ m, k = m + 1 := ⟨k - 1, by omega⟩
    rw [h0]
    by_cases c : 2 * i + 1 < xs.length
    · have hl := hr.1
      have a1 : ((xs.length : Int) - 1 - i).toNat = xs.length - 1 - i := by omega
      have w1 : wrap64 ((i : Int) + 1) = ((i + 1 : Nat) : Int) := by rw [w64 (by omega) (by omega)]; omega
      have w2 : wrap64 ((xs.length : Int) - 1 - i - 1) = (xs.length : Int) - 1 - ((i + 1 : Nat) : Int) := by rw [w64 (by omega) (by omega)]; omega
      have c1 : (i : Int) < (xs.length : Int) - 1 - i := by omega
      have c2 : 0 ≤ (xs.length : Int) - 1 - i := by omega
      have c3 : (xs.length : Int) - 1 - i < (x.length : Int) := by omega
      have c4 : 0 ≤ (i : Int) := by omega
      have c5 : (i : Int) < (x.length : Int) := by omega
      have e := ih k (i + 1) _ (by omega) (by omega) (rev_step d hr c) (by omega)
      rw [if_pos c1, if_pos c2, if_pos c3, if_pos c4, if_pos c5, w1, w2, a1, Int.toNat_natCast]
      exact e
    · rw [if_neg (by omega), rev_done hr (by omega)]
theorem rev_all {α : Type} (d : α) (l0 : Nat → List α → Int → Int → Option (List α))
    (h0 : ∀ k x (i j : Int), l0 (k + 1) x i j = if i < j then (if 0 ≤ j then (if j < (x.length : Int) then (if 0 ≤ i then (if i < (x.length : Int) then (l0 k ((x.set i.toNat (x.getD j.toNat d)).set j.toNat (x.getD i.toNat d)) (wrap64 (i + 1)) (wrap64 (j - 1))) else none) else none) else none) else none) else some x)
    (xs : List α) (hx : xs.length < 1000000000) : l0 (xs.length + 1) xs 0 (wrap64 ((xs.length : Int) - 1)) = some xs.reverse := by
  have h := rev_loop d l0 h0 xs hx xs.length (xs.length + 1) 0 xs (by omega) (by omega) ⟨rfl, fun t ht => by rw [if_neg (by omega)]⟩ (by omega)
  have w : wrap64 ((xs.length : Int) - 1) = (xs.length : Int) - 1 - ((0 : Nat) : Int) := by rw [w64 (by omega) (by omega)]; omega
  rw [w]
  exact h
end Go.Proofs.Ytipdejalohmkpaa.Gr

/- The states of an entry's path, from the start on. -/
namespace Go.Proofs.Ytipdejalohmkpaa.I
open Go.RowKit Hp Go.Proofs.YtipdejalohmkpaaW.PrintWords Go.Proofs.YtipdejalohmkpaaW.PrintLast

theorem rev_f (xs : List ST) (hx : xs.length < 1000000000) : PBestfirstDistances.slices_Reverse_int_int.f (xs.length + 1) xs = some xs.reverse :=
  Gr.rev_all 0 PBestfirstDistances.slices_Reverse_int_int.l0 (fun _ _ _ _ => rfl) xs hx
def PaRel (w : World) (rp : List ST) (n : Nat) (a v : Value) (wr : World) : Prop :=
  ∃ (d r : List ST) (ad : Option Addr), a = .pointer ad ∧ rp = d ++ r ∧ r.length = n ∧ EPath w r ad ∧ (Kd.int .i64).R 3 wr w.heap.size (fun _ => True) v d ∧ Below w.heap.size w wr
theorem app_len {α : Type} {rp d r : List α} (h : rp = d ++ r) : d.length ≤ rp.length := by rw [h]; simp
theorem path_cell {w w1 : World} {e : Nat} {dd : EntD} {v u : Value} {d : List ST} {B : Nat} (hc : w.cell? ⟨e, 1, none⟩ = some v) (hw : EntAt w e dd) (hg : w.grownBy w1 u.ownBlock) (hr : (Kd.int .i64).R 3 w B (fun _ => True) u d) : w1.cell? ⟨e, 1, none⟩ = some v := by
  refine (World.cell?_of_block (hg.block e hw.lt ?_)).trans hc
  intro hk
  obtain ⟨inner, ho⟩ := Kd.R_own hr
  obtain ⟨cells, hcl⟩ := own_typed ho e hk.symm
  unfold EntAt at hw
  rw [hcl] at hw
  injection hw with hw
  injection hw with _ ht
  exact absurd ht (by decide)
set_option maxHeartbeats 1000000 in
theorem path_any (w : World) (rp : List ST) (a : Option Addr) (hp : EPath w rp a) (hl : rp.length < 1000000000) :
    Calls Try.prog 36 #[.pointer a] w fun e w' => ∃ v : Value, e = .returned v ∧ (Kd.int .i64).R 3 w' w.heap.size (fun _ => True) v rp.reverse ∧ Below w.heap.size w w' := by
  have HR : PaRel w rp rp.length (.pointer a) (.slice none 0 0) w := ⟨[], rp, a, rfl, rfl, rfl, hp, Kd.R_nil _ _ _ _ _, Below.refl _ _⟩
  clear hp
  go_enter Try.func36, Try.ntmps36
  go_wp2
  go_loopg [0, 3] rp.length (fun n a v wr => PaRel w rp n a v wr)
  case atStart => exact HR
  case round =>
    clear HR
    obtain ⟨d, r, ad, rfl, hd, hr, hpath, hv, hb⟩ := hrel
    have HD := Lib.hid hd
    have HV := Lib.hid hv
    have HB := Lib.hid hb
    have hdl := app_len hd
    clear hd hv hb
    cases r with
    | nil =>
      have h1 : ad = none := hpath
      subst h1
      have HC := Lib.hid (PBestfirstDistances.slices_Reverse_int_int.calls (rp.length + 1) (fun _ => True) _ rp rp.reverse w wr HB.out (by have := HV.out; rw [show d = rp from by rw [HD.out]; simp] at this; exact this) (rev_f rp hl))
      clear hpath hr
      go_wp2_with (go_at_call 44; refine HC.out.mono ?_; rintro e w2 ⟨rfl, hr2, hb2, _⟩; have HR2 := Lib.hid hr2; have HB2 := Lib.hid hb2; clear hr2 hb2)
      go_ret
      exact ⟨_, rfl, Kd.R_mono HR2.out (fun _ _ => trivial), HB2.out⟩
    | cons s r =>
      obtain ⟨e, dd, h1, h2, h3, h4⟩ := hpath
      subst h1
      have hw := EK.below HB.out e dd h2
      have hc0 := hw.c0
      have hc1 := hw.c1
      rw [h3] at hc0
      simp only [stV] at hc0
      obtain ⟨bf, hbf⟩ : ∃ bf, dd.bf = bf := ⟨_, rfl⟩
      rw [hbf] at hc1 h4
      have H4 := Lib.hid h4
      have HW := Lib.hid hw
      clear hw h2 h3 h4 hbf
      have HRN := Lib.hid hr
      clear hr
      go_wp2_with (first | (at_builtin; refine Kd.R_append (Kd.int .i64) (w0 := w) w.heap.size rfl (.tmp 10) (.tmp 15) 24 3 (.int .i64 0) 8 rfl Try.underlying24 info_st rfl (by decide) (by decide) _ d s [Value.int .i64 s] (fun _ => True) (fun _ => False) rfl rfl rfl (fun _ h => h.elim) (fun _ _ => trivial) HV.out HB.out HB.out.size (by omega) ?_; intro v1 w1 hR1 hB1 hg1 _; have HP : PaRel w rp r.length (.pointer bf) v1 w1 := ⟨d ++ [s], r, bf, rfl, by rw [HD.out]; simp, rfl, H4.out, hR1, hB1⟩; have hc1' : w1.cell? ⟨e, 1, none⟩ = some (.pointer bf) := path_cell hc1 HW.out hg1 HV.out; clear hR1 hB1 hg1) | fail)
      go_roundg r.length
      case measure => have := HRN.out; simp at this; omega
      case rel => exact HP
end Go.Proofs.Ytipdejalohmkpaa.I

/- The search, walked, with one kind of goal function (G). -/
namespace Go.Proofs.Ytipdejalohmkpaa.I
open Go.RowKit Hp Go.Proofs.YtipdejalohmkpaaW.PrintWords Go.Proofs.YtipdejalohmkpaaW.PrintLast

set_option linter.unusedVariables false
set_option maxRecDepth 1000000 in
set_option maxHeartbeats 4000000 in
theorem search_G (p : Sr.Prob ST) (ok : ST → Prop) (goal : ST → Bool) (pr : Value) (ga gb : Addr) (s0 : ST) (budget : Nat) (W0 : World) (hp : PrC p ok pr W0) (hb1 : 1 ≤ budget) (hb2 : budget ≤ 1048576) (hok : ok s0) (hgoal : ∀ (w : World) (s : ST), ok s → Below W0.heap.size W0 w → Calls Try.prog 68 #[pr, stV s] w fun e w' => e = .returned (.bool (goal s)) ∧ Below w.heap.size w w') (k : Nat) (out : Sr.Out ST)
    (hrun : Sr.run p goal budget k [⟨s0, [], 0, 0⟩] [] 1 = some out) :
    Calls Try.prog 35 #[.iface 62 pr, stV s0, .int .i64 (budget : Int), .func (.method "Goal") #[.iface 62 pr] #[]] W0 (SPost W0 out) := by
  show Calls Try.prog 35 #[.iface 62 pr, .int .i64 s0, .int .i64 (budget : Int), .func (.method "Goal") #[.iface 62 pr] #[]] W0 _
  have HS := Lib.hid (start_rel p ok goal budget W0 s0 out k hok hrun)
  have HP := Lib.hid hp
  have HG := Lib.hid hgoal
  have hmg := hp.mgoal
  clear hrun hp hok hgoal
  have hmm := @run_makeMap Try.prog
  have d1 : decide ((budget : Int) < 1) = false := decide_eq_false (by omega)
  have d2 : decide (1048576 < (budget : Int)) = false := decide_eq_false (by omega)
  go_enter Try.func35, Try.ntmps35
  go_wp2
  generalize W0.heap.size + 1 + 1 + 1 = M at HS ⊢
  generalize W0.heap.size + 1 + 1 = q at HS ⊢
  go_loopg [13, 14] k (fun kq vo va wr => SRelV p ok goal budget W0 q M out kq vo va wr)
  case atStart => exact ⟨[], [⟨s0, [], 0, 0⟩], 1, [W0.heap.size], _, rfl, rfl, HS.out⟩
  case round =>
    clear HS
    obtain ⟨order, L, added, l, vo, rfl, rfl, hrel⟩ := hrel
    cases gk with
    | zero => exact absurd hrel.2.2.2.2 (by simp [Sr.run])
    | succ k1 =>
    obtain ⟨⟨pe, bf, hsi⟩, hoks, hob, hadd, hrun⟩ := hrel
    obtain ⟨v, hq, hr⟩ := hsi.heap.ex
    obtain ⟨A, c, rfl⟩ := own_slice hr
    obtain ⟨Ao, co, rfl⟩ := own_slice hsi.ord
    have hqc := hq.cell
    have hlen := hsi.len
    have hlen2 := hsi.rise.length
    have HSI := Lib.hid hsi
    have HRUN := Lib.hid hrun
    have HOK := Lib.hid hoks
    have hl9 : (l.length : Int) < 1000000000 := by omega
    have HLEN := Lib.hid hlen
    clear hsi hrun hoks hq hr hlen
    by_cases hl : l.length = 0
    · have HPOST : SPost W0 out (.returned (.tuple #[.pointer none, (.slice Ao order.length co), .int .i64 4])) wr := by
        have hL : L = [] := List.eq_nil_of_length_eq_zero (by rw [← HLEN.out]; exact hl)
        have h1 := HRUN.out
        subst hL
        simp only [Sr.run, List.getElem?_nil, Option.some.injEq] at h1
        subst h1
        exact ⟨HSI.out.below, _, rfl, HSI.out.ord⟩
      rw [hl] at hqc
      have HP2 := Lib.hid HPOST
      clear HPOST hl hl9
      go_wp2_with (first | (go_at_call 43; refine (len_any _ _ _ _).mono ?_; rintro e w' ⟨rfl, rfl⟩))
      go_ret3
      exact HP2.out
    · obtain ⟨n, hn⟩ : ∃ n, l.length = n + 1 := ⟨l.length - 1, by omega⟩
      obtain ⟨b0, x, hx, hpop⟩ := pop_popped HSI.out hn (by omega)
      have HX := Lib.hid hx
      have HPOP := Lib.hid hpop
      have hpos : 0 < l.length := by omega
      have hta := I_assert
      have HN := Lib.hid hn
      have hokx : ok x.st := (HOK.out x (List.mem_of_getElem? hx)).1
      have HCX := Lib.hid (HOK.out x (List.mem_of_getElem? hx)).2
      clear hx hpop hn hl
      go_wp2_with (first | (go_at_call 43; refine (len_any _ _ _ _).mono ?_; rintro e w' ⟨rfl, rfl⟩) | (go_at_call 40; refine HPOP.out.mono ?_; rintro e w1 ⟨rfl, hp1⟩))
      have hc0 := hp1.c0
      have hmk := HP.out.mkey
      have hnk := HP.out.nkey
      simp only [stV] at hc0
      have HP1 := Lib.hid hp1
      clear hp1 hta hqc
      go_still_tail 8, (by kernel_rfl)
      have hp2 := HP1.out.step (Below.drew (Below.refl w1.heap.size w1))
      change wpList _ _ _ _ _ w1.drew
      clear HP1 HPOP
      generalize w1.drew = w2 at hp2 ⊢
      have HP2 := Lib.hid hp2
      clear hp2 hc0
      go_wp2_with fail
      refine (HP.out.key w2 x.st hokx HP2.out.below).mono ?_
      rintro e w3 ⟨rfl, hb3⟩
      have HP3 := Lib.hid (HP2.out.step hb3)
      have hlk := HP3.out.set.lookup (p.key x.st)
      rw [Sr.was_any] at hlk
      clear hb3 HP2 hmk hnk
      cases hw : Sr.was p order x.st with
      | true =>
        rw [hw] at hlk
        have HR := Lib.hid (Sr.run_was HX.out hw HRUN.out)
        clear hw
        go_wp2
        go_roundg k1
        case measure => omega
        case rel =>
          obtain ⟨pe2, bf2, l2, h1, _⟩ := HP3.out
          exact ⟨order, L.eraseIdx (Sr.minIdx L), added, l2, _, rfl, rfl, ⟨pe2, bf2, h1⟩, fun e he => HOK.out e ((List.eraseIdx_sublist ..).subset he), hob, hadd, HR.out⟩
      | false =>
        rw [hw] at hlk
        have HW := Lib.hid hw
        clear hw
        have hc3 := HP3.out.c0
        simp only [stV] at hc3
        go_wp2_with fail
        refine (HG.out w3 x.st hokx HP3.out.below).mono ?_
        rintro e w4 ⟨rfl, hb4⟩
        have HP4 := Lib.hid (HP3.out.step hb4)
        clear hb4 hc3 hlk HP3
        cases hg : goal x.st with
        | true =>
          have HPOST : SPost W0 out (.returned (.tuple #[.pointer (some ⟨b0, 0, none⟩), .slice Ao order.length co, .int .i64 0])) w4 := by
            rw [Sr.run_goal HX.out HW.out hg HRUN.out]
            obtain ⟨pe2, bf2, l2, h1, h2, h3, h4⟩ := HP4.out
            exact ⟨h1.below, b0, _, _, rfl, h3, by show stV (pe2 b0).st = _; rw [h2], by show (pe2 b0).cost = _; rw [h2], h4⟩
          have HPO := Lib.hid HPOST
          clear HPOST hg
          go_wp2
          go_ret3
          exact HPO.out
        | false =>
          have HGF := Lib.hid hg
          clear hg
          by_cases hbe : order.length = budget
          · have HPOST : SPost W0 out (.returned (.tuple #[.pointer none, .slice none 0 0, .int .i64 7])) w4 := by
              rw [Sr.run_budget HX.out HW.out HGF.out hbe HRUN.out]
              exact ⟨HP4.out.below, rfl⟩
            have HPO := Lib.hid HPOST
            have e1 : ((order.length : Int) == (budget : Int)) = true := by simp [hbe]
            have e2 : (order.length == budget) = true := by simp [hbe]
            clear HPOST hbe
            go_wp2
            go_ret3
            exact HPO.out
          · have HE := Lib.hid (Sr.run_expand HX.out HW.out HGF.out hbe HRUN.out)
            have e1 : ((order.length : Int) == (budget : Int)) = false := by rw [beq_eq_false_iff_ne]; omega
            have e2 : (order.length == budget) = false := by rw [beq_eq_false_iff_ne]; exact hbe
            have HBE : order.length < budget := by omega
            clear hbe
            obtain ⟨w5, hup, hset5, hg5⟩ := HP4.out.set.add (p.key x.st) (by rw [Sr.was_any]; exact HW.out)
            have HSET5 := Lib.hid hset5
            have HG5 := Lib.hid hg5
            have HM := Lib.hid (mark_c0 HP4.out hset5 hg5)
            have HORD : Hid (w5.ownsRow W0.heap.size 3 1 (.slice Ao order.length co) (order.map stV).length (order.map stV)) := by rw [List.length_map]; exact HM.out.2.1
            have hc5 := HM.out.1
            simp only [stV] at hc5
            clear hset5 hg5
            go_wp2_with (first | (at_builtin; go_loud (refine print_append (w0 := W0) (W := w5) W0.heap.size rfl (.tmp 66) (.tmp 71) 24 3 (.int .i64 0) 8 rfl Try.underlying24 info_st rfl (by decide) (.slice Ao order.length co) (order.map stV) (stV x.st) rfl rfl rfl HORD.out HM.out.2.2 HM.out.2.2.size (by rw [List.length_map]; omega) ?_); intro v1 w6 hrow6 hB6 hg6 _; have HP6 := Lib.hid (mark_append HP4.out HSET5.out HG5.out (by simpa using hrow6) hB6 hg6); clear hrow6 hB6 hg6) | fail)
            have hc6 := HP6.out.c0
            simp only [stV] at hc6
            have hmn := HP.out.mnext
            have hnn := HP.out.nnext
            clear hc5 hup
            have hp7 := HP6.out.step (Below.drew (Below.refl w6.heap.size w6))
            clear HM HSET5 HG5 HP4
            have HP7 := Lib.hid hp7
            clear hp7
            refine start_ (n := 11) (S := fun w' => w'.cell? ⟨b0, 0, none⟩ = some (Value.int .i64 x.st)) (ds := [8]) #[false, false, false, false, false, false, false, false, false, false, false] (by kernel_rfl) rfl rfl hc6 (fun hHeld => ?_)
            generalize w6.drew = w7 at HP7 hHeld ⊢
            refine pure_ (i := 0) (N := (some 73)) (v := ?_) (a' := ?_) #[true, false, false, false, false, false, false, false, false, false, false] rfl rfl (by kernel_rfl) (fun _ _ _ h => h) (Or.inl ⟨by rfl, ?_⟩) ?_ ?_
            rotate_left
            · intro w'
              go_simp
              with_reducible rfl
            rotate_left
            · simp only [Act.put, List.setIfInBounds_toArray, List.set_cons_zero, List.set_cons_succ]
              rfl
            refine pure_ (i := 1) (N := (some 74)) (v := ?_) (a' := ?_) #[true, true, false, false, false, false, false, false, false, false, false] rfl rfl (by kernel_rfl) (fun _ _ _ h => h) (Or.inl ⟨by rfl, ?_⟩) ?_ ?_
            rotate_left
            · intro w'
              go_simp
              with_reducible rfl
            rotate_left
            · simp only [Act.put, List.setIfInBounds_toArray, List.set_cons_zero, List.set_cons_succ]
              rfl
            refine pure_ (i := 2) (N := (some 75)) (v := ?_) (a' := ?_) #[true, true, true, false, false, false, false, false, false, false, false] rfl rfl (by kernel_rfl) (fun _ _ _ h => h) (Or.inl ⟨by rfl, ?_⟩) ?_ ?_
            rotate_left
            · intro w'
              go_simp
              with_reducible rfl
            rotate_left
            · simp only [Act.put, List.setIfInBounds_toArray, List.set_cons_zero, List.set_cons_succ]
              rfl
            refine pure_ (i := 3) (N := (some 76)) (v := ?_) (a' := ?_) #[true, true, true, true, false, false, false, false, false, false, false] rfl rfl (by kernel_rfl) (fun _ _ _ h => h) (Or.inl ⟨by rfl, ?_⟩) ?_ ?_
            rotate_left
            · intro w'
              go_simp
              with_reducible rfl
            rotate_left
            · simp only [Act.put, List.setIfInBounds_toArray, List.set_cons_zero, List.set_cons_succ]
              rfl
            refine take_ (i := 4) (N := (some 77)) (v := ?_) (a' := ?_) #[true, true, true, true, true, false, false, false, false, false, false] rfl rfl (by kernel_rfl) (fun _ _ _ h => h) (Or.inl ⟨by rfl, ?_⟩) hHeld ?_ ?_
            rotate_left
            · rintro w' s0
              go_simp
              with_reducible rfl
            rotate_left
            · simp only [Act.put, List.setIfInBounds_toArray, List.set_cons_zero, List.set_cons_succ]
              rfl
            refine pure_ (i := 5) (N := (some 78)) (v := ?_) (a' := ?_) #[true, true, true, true, true, true, false, false, false, false, false] rfl rfl (by kernel_rfl) (fun _ _ _ h => h) (Or.inl ⟨by rfl, ?_⟩) ?_ ?_
            rotate_left
            · intro w'
              go_simp
              with_reducible rfl
            rotate_left
            · simp only [Act.put, List.setIfInBounds_toArray, List.set_cons_zero, List.set_cons_succ]
              rfl
            refine pure_ (i := 6) (N := (some 79)) (v := ?_) (a' := ?_) #[true, true, true, true, true, true, true, false, false, false, false] rfl rfl (by kernel_rfl) (fun _ _ _ h => h) (Or.inl ⟨by rfl, ?_⟩) ?_ ?_
            rotate_left
            · intro w'
              go_simp
              with_reducible rfl
            rotate_left
            · simp only [Act.put, List.setIfInBounds_toArray, List.set_cons_zero, List.set_cons_succ]
              rfl
            refine pure_ (i := 7) (N := (some 80)) (v := ?_) (a' := ?_) #[true, true, true, true, true, true, true, true, false, false, false] rfl rfl (by kernel_rfl) (fun _ _ _ h => h) (Or.inl ⟨by rfl, ?_⟩) ?_ ?_
            rotate_left
            · intro w'
              go_simp
              with_reducible rfl
            rotate_left
            · simp only [Act.put, List.setIfInBounds_toArray, List.set_cons_zero, List.set_cons_succ]
              rfl
            refine pure_ (i := 10) (N := (some 83)) (v := ?_) (a' := ?_) #[true, true, true, true, true, true, true, true, false, false, true] rfl rfl (by kernel_rfl) (fun _ _ _ h => h) (Or.inl ⟨by rfl, ?_⟩) ?_ ?_
            rotate_left
            · intro w'
              go_simp
              with_reducible rfl
            rotate_left
            · simp only [Act.put, List.setIfInBounds_toArray, List.set_cons_zero, List.set_cons_succ]
              rfl
            refine last_ (i := 8) (N := (some 81)) #[true, true, true, true, true, true, true, true, true, false, true] rfl rfl (by kernel_rfl) (by decide) (fun K hK => ?_)
            go_simp
            refine (HP.out.next w7 x.st hokx HP7.out.below).mono ?_
            rintro e w8 ⟨vs, rfl, hvs, hb8⟩
            obtain ⟨As, cs, rfl, hlc, hCs⟩ := Kd.R_reads hvs
            refine hK.out _ _ ?_
            clear hK K
            (try simp only [Act.put, List.setIfInBounds_toArray, List.set_cons_zero, List.set_cons_succ])
            refine pure_ (i := 9) (N := (some 82)) (v := ?_) (a' := ?_) #[true, true, true, true, true, true, true, true, true, true, true] rfl rfl (by kernel_rfl) (fun _ _ _ h => h) (Or.inl ⟨by rfl, ?_⟩) ?_ ?_
            rotate_left
            · intro w'
              go_simp
              with_reducible rfl
            rotate_left
            · simp only [Act.put, List.setIfInBounds_toArray, List.set_cons_zero, List.set_cons_succ]
              rfl
            refine done_ (by kernel_rfl) ?_
            clear hc6 hHeld
            have HP8 := Lib.hid (HP7.out.step hb8)
            have HVS := Lib.hid hvs
            have hfew := HP.out.few x.st
            have HNS := Lib.hid (show ∀ y ∈ p.next x.st, ok y.1 from fun y hy => HP.out.oks x.st y hokx hy)
            clear hvs hb8 hCs HP7 hmn hnn HP6
            go_wp2_with fail
            have HI0 : Hid (IRel p W0 q M (order ++ [x.st]) v1 b0 x (p.next x.st) (L.eraseIdx (Sr.minIdx L) ++ Sr.pushes x (p.next x.st) added) (added + (Sr.pushes x (p.next x.st) added).length) w8 (.int .i64 (added : Int)) (.int .i64 0) w8) :=
              ⟨0, _, added, rfl, Nat.zero_le _, rfl, HP8.out, rfl, rfl, Chg.refl _ _⟩
            have HAF := pushes_len x (p.next x.st) added
            have HAF2 : added + (Sr.pushes x (p.next x.st) added).length ≤ 200000000 := by omega
            obtain ⟨Lf, hLf⟩ : ∃ Lf, L.eraseIdx (Sr.minIdx L) ++ Sr.pushes x (p.next x.st) added = Lf := ⟨_, rfl⟩
            obtain ⟨addf, haddf⟩ : ∃ addf, added + (Sr.pushes x (p.next x.st) added).length = addf := ⟨_, rfl⟩
            have HLOK : Hid (∀ e ∈ Lf, ok e.st ∧ 0 ≤ e.cost ∧ e.cost ≤ Sr.maxCount) := by
              rw [← hLf]
              intro e he
              rcases List.mem_append.1 he with he | he
              · exact HOK.out e ((List.eraseIdx_sublist ..).subset he)
              · exact pushes_ok x HCX.out _ _ HNS.out e he
            have HADD2 : addf ≤ 1 + 100 * (order ++ [x.st]).length := by rw [← haddf]; simp; omega
            rw [hLf, haddf] at HE HI0
            rw [haddf] at HAF2
            have HADDF := Lib.hid HADD2
            clear hLf haddf HAF HADD2 hadd
            go_loopw [14, 83] (fun va vj wr2 => IRel p W0 q M (order ++ [x.st]) v1 b0 x (p.next x.st) Lf addf w8 va vj wr2) (fun _ vj _ => (p.next x.st).length - (intOf vj).toNat)
            case atStart => exact HI0.out
            case round =>
              clear HI0
              obtain ⟨j, Lc, addc, rfl, hj, rfl, hpc, hLc, haddc, hchg⟩ := hrel
              have hac : addc ≤ 200000000 := by omega
              have HPC := Lib.hid hpc
              have HLC := Lib.hid hLc
              have HADC := Lib.hid haddc
              have HCHG := Lib.hid hchg
              clear hpc hLc haddc hchg
              by_cases hlt : j < (p.next x.st).length
              · obtain ⟨y, hy⟩ : ∃ y, (p.next x.st)[j]? = some y := ⟨_, List.getElem?_eq_getElem hlt⟩
                obtain ⟨t, c⟩ := y
                obtain ⟨u, hqa⟩ := HP8.out.qat
                obtain ⟨ad, eA, hx0, hx1⟩ := at_step (Kd.R_reads' (steps_keep HVS.out hqa HCHG.out)).2.2 j hlt _ hy
                subst eA
                have hc2 := HPC.out.c2
                have hb0l := HPC.out.lt
                have HY := Lib.hid hy
                have hj0 : 0 ≤ (j : Int) := by omega
                have hjl : (j : Int) < ((p.next x.st).length : Int) := by omega
                simp only [stV] at hx0
                have hc0x := HCX.out.1
                have hc1x : x.cost ≤ 1099511627776 := HCX.out.2
                clear hqa hy
                by_cases hneg : c < 0
                · have g1 : decide (c < 0) = true := decide_eq_true hneg
                  have HSK := Lib.hid (pushes_skip x (t, c) ((p.next x.st).drop (j + 1)) addc (.inl hneg))
                  go_wp2_with fail
                  go_quiet (fail)
                  go_wp2
                  go_roundw
                  case rel => exact IRel.skip HY.out HPC.out HLC.out HADC.out HCHG.out HSK.out (below_new _ _ _)
                  case measure => simp [intOf]; omega
                · have g1 : decide (c < 0) = false := decide_eq_false hneg
                  have g2 : 0 ≤ c := by omega
                  by_cases hbig : 1099511627776 - x.cost < c
                  · have g3 : decide (1099511627776 - x.cost < c) = true := decide_eq_true hbig
                    have HSK := Lib.hid (pushes_skip x (t, c) ((p.next x.st).drop (j + 1)) addc (.inr hbig))
                    go_wp2_with fail
                    go_quiet (fail)
                    go_wp2
                    go_roundw
                    case rel => exact IRel.skip HY.out HPC.out HLC.out HADC.out HCHG.out HSK.out (below_new _ _ _)
                    case measure => simp [intOf]; omega
                  · have g3 : decide (1099511627776 - x.cost < c) = false := decide_eq_false hbig
                    have HSK := Lib.hid (pushes_take x (t, c) ((p.next x.st).drop (j + 1)) addc (by rintro (h | h); exact hneg h; exact hbig h))
                    go_wp2_with fail
                    go_quiet (fail)
                    go_wp2_with fail
                    have hs := new_cells wr (Value.int .i64 t) (.int .i64 c) 102 nq
                    have HC29 := Lib.hid ((Below.cell (below_new wr (.cells #[Value.int .i64 t, .int .i64 c] 102) nq) (p := ⟨b0, 2, none⟩) hb0l).trans hc2)
                    have HBA := Lib.hid (below_new wr (.cells #[Value.int .i64 t, .int .i64 c] 102) nq).drew
                    have HPA := Lib.hid (HPC.out.step HBA.out)
                    have HHS := Lib.hid hs
                    clear hs hx0 hx1 hc2
                    have hac2 : addc < 900000000 := by omega
                    have hwr : IntKind.i64.wrap (x.cost + c) = x.cost + c := by rw [i64_w]; unfold wrap64; omega
                    generalize (World.alloc wr (.cells #[Value.int .i64 t, .int .i64 c] 102)).drewN nq = W9 at HHS HC29 HBA HPA ⊢
                    refine start_ (n := 17) (S := fun w' => w'.cell? ⟨wr.heap.size, 0, none⟩ = some (Value.int .i64 t) ∧ w'.cell? ⟨b0, 2, none⟩ = some (.int .i64 x.cost) ∧ w'.cell? ⟨wr.heap.size, 1, none⟩ = some (.int .i64 c)) (ds := [14, 16]) #[false, false, false, false, false, false, false, false, false, false, false, false, false, false, false, false, false] (by kernel_rfl) rfl rfl ⟨HHS.out.1, HC29.out, HHS.out.2⟩ (fun hHeld => ?_)
                    clear HHS HC29
                    generalize W9.drew = WA at HBA HPA hHeld ⊢
                    refine pure_ (i := 0) (N := (some 100)) (v := ?_) (a' := ?_) #[true, false, false, false, false, false, false, false, false, false, false, false, false, false, false, false, false] rfl rfl (by kernel_rfl) (fun _ _ _ h => h) (Or.inl ⟨by rfl, ?_⟩) ?_ ?_
                    rotate_left
                    · intro w'
                      go_simp
                      with_reducible rfl
                    rotate_left
                    · simp only [Act.put, List.setIfInBounds_toArray, List.set_cons_zero, List.set_cons_succ]
                      rfl
                    refine pure_ (i := 1) (N := (some 101)) (v := ?_) (a' := ?_) #[true, true, false, false, false, false, false, false, false, false, false, false, false, false, false, false, false] rfl rfl (by kernel_rfl) (fun _ _ _ h => h) (Or.inl ⟨by rfl, ?_⟩) ?_ ?_
                    rotate_left
                    · intro w'
                      go_simp
                      with_reducible rfl
                    rotate_left
                    · simp only [Act.put, List.setIfInBounds_toArray, List.set_cons_zero, List.set_cons_succ]
                      rfl
                    refine pure_ (i := 2) (N := (some 102)) (v := ?_) (a' := ?_) #[true, true, true, false, false, false, false, false, false, false, false, false, false, false, false, false, false] rfl rfl (by kernel_rfl) (fun _ _ _ h => h) (Or.inl ⟨by rfl, ?_⟩) ?_ ?_
                    rotate_left
                    · intro w'
                      go_simp
                      with_reducible rfl
                    rotate_left
                    · simp only [Act.put, List.setIfInBounds_toArray, List.set_cons_zero, List.set_cons_succ]
                      rfl
                    refine take_ (i := 3) (N := (some 103)) (v := ?_) (a' := ?_) #[true, true, true, true, false, false, false, false, false, false, false, false, false, false, false, false, false] rfl rfl (by kernel_rfl) (fun _ _ _ h => h) (Or.inl ⟨by rfl, ?_⟩) hHeld ?_ ?_
                    rotate_left
                    · rintro w' ⟨s0, s1, s2⟩
                      go_simp
                      with_reducible rfl
                    rotate_left
                    · simp only [Act.put, List.setIfInBounds_toArray, List.set_cons_zero, List.set_cons_succ]
                      rfl
                    refine pure_ (i := 4) (N := (some 104)) (v := ?_) (a' := ?_) #[true, true, true, true, true, false, false, false, false, false, false, false, false, false, false, false, false] rfl rfl (by kernel_rfl) (fun _ _ _ h => h) (Or.inl ⟨by rfl, ?_⟩) ?_ ?_
                    rotate_left
                    · intro w'
                      go_simp
                      with_reducible rfl
                    rotate_left
                    · simp only [Act.put, List.setIfInBounds_toArray, List.set_cons_zero, List.set_cons_succ]
                      rfl
                    refine pure_ (i := 5) (N := (some 105)) (v := ?_) (a' := ?_) #[true, true, true, true, true, true, false, false, false, false, false, false, false, false, false, false, false] rfl rfl (by kernel_rfl) (fun _ _ _ h => h) (Or.inl ⟨by rfl, ?_⟩) ?_ ?_
                    rotate_left
                    · intro w'
                      go_simp
                      with_reducible rfl
                    rotate_left
                    · simp only [Act.put, List.setIfInBounds_toArray, List.set_cons_zero, List.set_cons_succ]
                      rfl
                    refine pure_ (i := 6) (N := (some 106)) (v := ?_) (a' := ?_) #[true, true, true, true, true, true, true, false, false, false, false, false, false, false, false, false, false] rfl rfl (by kernel_rfl) (fun _ _ _ h => h) (Or.inl ⟨by rfl, ?_⟩) ?_ ?_
                    rotate_left
                    · intro w'
                      go_simp
                      with_reducible rfl
                    rotate_left
                    · simp only [Act.put, List.setIfInBounds_toArray, List.set_cons_zero, List.set_cons_succ]
                      rfl
                    refine pure_ (i := 7) (N := (some 107)) (v := ?_) (a' := ?_) #[true, true, true, true, true, true, true, true, false, false, false, false, false, false, false, false, false] rfl rfl (by kernel_rfl) (fun _ _ _ h => h) (Or.inl ⟨by rfl, ?_⟩) ?_ ?_
                    rotate_left
                    · intro w'
                      go_simp
                      with_reducible rfl
                    rotate_left
                    · simp only [Act.put, List.setIfInBounds_toArray, List.set_cons_zero, List.set_cons_succ]
                      rfl
                    refine take_ (i := 8) (N := (some 108)) (v := ?_) (a' := ?_) #[true, true, true, true, true, true, true, true, true, false, false, false, false, false, false, false, false] rfl rfl (by kernel_rfl) (fun _ _ _ h => h) (Or.inl ⟨by rfl, ?_⟩) hHeld ?_ ?_
                    rotate_left
                    · rintro w' ⟨s0, s1, s2⟩
                      go_simp
                      with_reducible rfl
                    rotate_left
                    · simp only [Act.put, List.setIfInBounds_toArray, List.set_cons_zero, List.set_cons_succ]
                      rfl
                    refine pure_ (i := 9) (N := (some 109)) (v := ?_) (a' := ?_) #[true, true, true, true, true, true, true, true, true, true, false, false, false, false, false, false, false] rfl rfl (by kernel_rfl) (fun _ _ _ h => h) (Or.inl ⟨by rfl, ?_⟩) ?_ ?_
                    rotate_left
                    · intro w'
                      go_simp
                      with_reducible rfl
                    rotate_left
                    · simp only [Act.put, List.setIfInBounds_toArray, List.set_cons_zero, List.set_cons_succ]
                      rfl
                    refine take_ (i := 10) (N := (some 110)) (v := ?_) (a' := ?_) #[true, true, true, true, true, true, true, true, true, true, true, false, false, false, false, false, false] rfl rfl (by kernel_rfl) (fun _ _ _ h => h) (Or.inl ⟨by rfl, ?_⟩) hHeld ?_ ?_
                    rotate_left
                    · rintro w' ⟨s0, s1, s2⟩
                      go_simp
                      with_reducible rfl
                    rotate_left
                    · simp only [Act.put, List.setIfInBounds_toArray, List.set_cons_zero, List.set_cons_succ]
                      rfl
                    refine pure_ (i := 11) (N := (some 111)) (v := ?_) (a' := ?_) #[true, true, true, true, true, true, true, true, true, true, true, true, false, false, false, false, false] rfl rfl (by kernel_rfl) (fun _ _ _ h => h) (Or.inl ⟨by rfl, ?_⟩) ?_ ?_
                    rotate_left
                    · intro w'
                      go_simp
                      with_reducible rfl
                    rotate_left
                    · simp only [Act.put, List.setIfInBounds_toArray, List.set_cons_zero, List.set_cons_succ]
                      rfl
                    refine pure_ (i := 12) (N := (some 112)) (v := ?_) (a' := ?_) #[true, true, true, true, true, true, true, true, true, true, true, true, true, false, false, false, false] rfl rfl (by kernel_rfl) (fun _ _ _ h => h) (Or.inl ⟨by rfl, ?_⟩) ?_ ?_
                    rotate_left
                    · intro w'
                      go_simp
                      with_reducible rfl
                    rotate_left
                    · simp only [Act.put, List.setIfInBounds_toArray, List.set_cons_zero, List.set_cons_succ]
                      rfl
                    refine pure_ (i := 13) (N := (some 113)) (v := ?_) (a' := ?_) #[true, true, true, true, true, true, true, true, true, true, true, true, true, true, false, false, false] rfl rfl (by kernel_rfl) (fun _ _ _ h => h) (Or.inl ⟨by rfl, ?_⟩) ?_ ?_
                    rotate_left
                    · intro w'
                      go_simp
                      with_reducible rfl
                    rotate_left
                    · simp only [Act.put, List.setIfInBounds_toArray, List.set_cons_zero, List.set_cons_succ]
                      rfl
                    refine last_ (i := 14) (N := (some 114)) #[true, true, true, true, true, true, true, true, true, true, true, true, true, true, true, false, false] rfl rfl (by kernel_rfl) (by decide) (fun K hK => ?_)
                    go_simp
                    refine hK.out _ _ ?_
                    clear hK K
                    (try simp only [Act.put, List.setIfInBounds_toArray, List.set_cons_zero, List.set_cons_succ])
                    refine pure_ (i := 15) (N := (some 115)) (v := ?_) (a' := ?_) #[true, true, true, true, true, true, true, true, true, true, true, true, true, true, true, true, false] rfl rfl (by kernel_rfl) (fun _ _ _ h => h) (Or.inl ⟨by rfl, ?_⟩) ?_ ?_
                    rotate_left
                    · intro w'
                      go_simp
                      with_reducible rfl
                    rotate_left
                    · simp only [Act.put, List.setIfInBounds_toArray, List.set_cons_zero, List.set_cons_succ]
                      rfl
                    refine last_ (i := 16) (N := (some 116)) #[true, true, true, true, true, true, true, true, true, true, true, true, true, true, true, true, true] rfl rfl (by kernel_rfl) (by decide) (fun K hK => ?_)
                    go_simp
                    refine (push_popped HPA.out t c hac2).mono ?_
                    rintro e w10 ⟨rfl, hpp, hcp⟩
                    have HPP := Lib.hid hpp
                    have HCP := Lib.hid hcp
                    clear hpp hcp
                    refine hK.out _ _ ?_
                    clear hK K
                    (try simp only [Act.put, List.setIfInBounds_toArray, List.set_cons_zero, List.set_cons_succ])
                    refine done_ (by kernel_rfl) ?_
                    clear hwr hHeld
                    go_wp2_with fail
                    go_roundw
                    case rel => exact IRel.take HY.out HLC.out HADC.out HCHG.out HSK.out HBA.out HPP.out HCP.out
                    case measure => simp [intOf]; omega
              · obtain rfl : j = (p.next x.st).length := by omega
                have hL := HLC.out
                have hA := HADC.out
                rw [List.drop_length] at hL hA
                simp only [Sr.pushes, List.append_nil, List.length_nil, Nat.add_zero] at hL hA
                have HL := Lib.hid hL
                have HA := Lib.hid hA
                clear hL hA
                go_wp2_with fail
                go_roundg k1
                case measure => omega
                case rel =>
                  obtain ⟨pe2, bf2, l2, h1, _⟩ := HPC.out
                  rw [HL.out, HA.out] at h1
                  exact ⟨order ++ [x.st], Lf, addf, l2, _, by rw [HA.out], rfl, ⟨pe2, bf2, h1⟩, HLOK.out, by simp; omega, HADDF.out, HE.out⟩
end Go.Proofs.Ytipdejalohmkpaa.I
