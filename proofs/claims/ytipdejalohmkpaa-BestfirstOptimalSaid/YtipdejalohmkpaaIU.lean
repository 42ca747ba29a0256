/- The heap's sift up and sift down over a queue of entries. -/
import Derived.Test.YtipdejalohmkpaaIR
namespace Go.Proofs.Ytipdejalohmkpaa.I
open Go.RowKit Hp

/-- Less, its answer known. -/
theorem less_is (base : Nat) (v : Value) (l : List Nat) (D : Nat → EntD) (i j : Int) (i' j' : Nat) (r : Bool) (w : World) (hr : RowOf w base v l) (hD : ∀ e ∈ l, EntAt w e (D e)) (hi : i = i') (hj : j = j') (hi' : i' < l.length) (hj' : j' < l.length)
    (hb : ltK (D (at_ l i')).key (D (at_ l j')).key = r) :
    Calls Try.prog 75 #[v, .int .i64 i, .int .i64 j] w fun e w' => (∃ n, w' = w.drewN n) ∧ e = .returned (.bool r) := by
  subst hi hj
  refine (less_any base v l D i' j' w hr hD (by omega) (by omega) (by omega) (by omega)).mono ?_
  rintro e w' ⟨h1, rfl⟩
  refine ⟨h1, ?_⟩
  simp only [Int.toNat_natCast]
  rw [hb]
/-- Swap, its places known. -/
theorem swap_is (base : Nat) (v : Value) (l : List Nat) (i j : Int) (i' j' : Nat) (w : World) (hr : RowOf w base v l) (hi : i = i') (hj : j = j') (hi' : i' < l.length) (hj' : j' < l.length) :
    Calls Try.prog 78 #[v, .int .i64 i, .int .i64 j] w fun e w' => e = .returned (.tuple #[]) ∧ SwapPost base v l w i' j' w' := by
  subst hi hj
  exact swap_any base v l i' j' w hr (by omega) (by omega) (by omega) (by omega)

def kf (D : Nat → EntD) : Nat → Int × Int := fun e => (D e).key
/-- What stays of a queue while its row is rearranged. -/
structure Same (D : Nat → EntD) (base q : Nat) (v : Value) (l : List Nat) (w : World) (l' : List Nat) (w' : World) : Prop where
  perm : l'.Perm l
  qat : QAt w' q v
  row : RowOf w' base v l'
  ents : ∀ e ∈ l', EntAt w' e (D e)
  chg : Chg (fun k => some k = v.ownBlock) w w'
theorem Same.refl {D : Nat → EntD} {base q : Nat} {v : Value} {l : List Nat} {w : World} (hq : QAt w q v) (hr : RowOf w base v l) (hD : ∀ e ∈ l, EntAt w e (D e)) : Same D base q v l w l w := ⟨List.Perm.refl _, hq, hr, hD, Chg.refl _ _⟩
theorem Same.drewN {D : Nat → EntD} {base q : Nat} {v : Value} {l l' : List Nat} {w w' : World} (h : Same D base q v l w l' w') (n : Nat) : Same D base q v l w l' (w'.drewN n) := ⟨h.perm, h.qat, h.row, h.ents, h.chg.drewN n⟩
theorem Same.swap {D : Nat → EntD} {base q : Nat} {v : Value} {l l' : List Nat} {w w' w2 : World} {i j : Nat} (h : Same D base q v l w l' w') (hi : i < l'.length) (hj : j < l'.length) (hp : SwapPost base v l' w' i j w2) : Same D base q v l w (swp l' i j) w2 := by
  obtain ⟨hr, hg⟩ := hp
  refine ⟨(swp_perm hi hj).trans h.perm, h.qat.of_block (hg.block q h.qat.lt (h.qat.ne_row h.row)), hr, fun e he => ?_, h.chg.trans (Chg.of_grown hg) (fun i hi => .inl hi)⟩
  have he' : e ∈ l' := ((swp_perm hi hj).mem_iff).1 he
  exact (h.ents e he').grown h.row hg
theorem Same.length {D : Nat → EntD} {base q : Nat} {v : Value} {l l' : List Nat} {w w' : World} (h : Same D base q v l w l' w') : l'.length = l.length := h.perm.length_eq

def UpRel (D : Nat → EntD) (base q : Nat) (v : Value) (l : List Nat) (w : World) (l' : List Nat) (k : Nat) (w' : World) : Prop := Same D base q v l w l' w' ∧ UpInv (kf D) l' k
def UpPost (D : Nat → EntD) (base q : Nat) (v : Value) (l : List Nat) (w w' : World) : Prop := ∃ l', Same D base q v l w l' w' ∧ HeapN (kf D) l' l'.length

set_option maxRecDepth 100000 in
set_option maxHeartbeats 1000000 in
theorem up_any (D : Nat → EntD) (base q : Nat) (v : Value) (l : List Nat) (j : Nat) (w : World) (hs : Same D base q v l w l w) (hj : j < l.length) (hlen : l.length ≤ 1000000000) (hu : UpInv (kf D) l j) :
    Calls Try.prog 46 #[.iface 97 (.pointer (some ⟨q, 0, none⟩)), .int .i64 (j : Int)] w fun e w' => e = .returned (.tuple #[]) ∧ UpPost D base q v l w w' := by
  have HU : UpRel D base q v l w l j w := ⟨hs, hu⟩
  clear hs hu
  go_enter Try.func46, Try.ntmps46
  go_wp2
  go_loopw [1] (fun x wr => ∃ (k : Nat) (l' : List Nat), k < l.length ∧ x = .int .i64 k ∧ UpRel D base q v l w l' k wr) (fun x _ => (intOf x).toNat)
  case atStart => exact ⟨j, l, hj, rfl, HU⟩
  case round =>
    clear HU hj
    obtain ⟨k, l', hk, rfl, hrel⟩ := hrel
    have hlen' := hrel.1.length
    have HL := Lib.hid hlen'
    clear hlen'
    by_cases h0 : k = 0
    · subst h0
      have hpost : UpPost D base q v l w wr := ⟨l', hrel.1, up_root hrel.2⟩
      clear hrel
      go_wp2
      go_end0
      exact ⟨rfl, hpost⟩
    · have b1 : 1 ≤ (k : Int) := by omega
      have b2 : (k : Int) ≤ 1000000000 := by omega
      have b3 : ((((k : Int) - 1) / 2) == (k : Int)) = false := by rw [beq_eq_false_iff_ne]; omega
      have hml : (method 230 97 (.pointer (some ⟨q, 0, none⟩)) "Less").run Try.prog wr = .ok (75, v) wr := meth_less _ _ _ hrel.1.qat.cell
      have hms : ∀ n, (method 230 97 (.pointer (some ⟨q, 0, none⟩)) "Swap").run Try.prog (wr.drewN n) = .ok (78, v) (wr.drewN n) := fun n => meth_swap _ _ _ hrel.1.qat.cell
      have hk' : k < l'.length := by rw [HL.out]; exact hk
      have hi' : (k - 1) / 2 < l'.length := by omega
      have ei : ((k : Int) - 1) / 2 = (((k - 1) / 2 : Nat) : Int) := by omega
      have HEI := Lib.hid ei
      clear ei
      rcases hb : ltK (D (at_ l' k)).key (D (at_ l' ((k - 1) / 2))).key with _ | _
      · have HPOST : UpPost D base q v l w wr := ⟨l', hrel.1, up_stop hrel.2 hb⟩
        have HB := Lib.hid hb
        clear hb
        go_wp2_with (go_at_call 75; refine (less_is base v l' D _ _ k ((k - 1) / 2) false wr hrel.1.row hrel.1.ents rfl HEI.out hk' hi' HB.out).mono ?_; rintro e w' ⟨⟨n, rfl⟩, rfl⟩)
        go_end0
        exact ⟨rfl, by obtain ⟨l2, h1, h2⟩ := HPOST; exact ⟨l2, h1.drewN _, h2⟩⟩
      · have HSTEP := up_step (by omega) hk' hrel.2 hb
        have HB := Lib.hid hb
        clear hb
        have HSTEP' := Lib.hid HSTEP
        clear HSTEP
        go_wp2_with (first | (go_at_call 75; refine (less_is base v l' D _ _ k ((k - 1) / 2) true wr hrel.1.row hrel.1.ents rfl HEI.out hk' hi' HB.out).mono ?_; rintro e w' ⟨⟨n, rfl⟩, rfl⟩) | (go_at_call 78; refine (swap_is base v l' _ _ ((k - 1) / 2) k _ (hrel.1.drewN _).row HEI.out rfl hi' hk').mono ?_; rintro e w2 ⟨rfl, HS⟩))
        go_roundw
        case rel => exact ⟨(k - 1) / 2, swp l' ((k - 1) / 2) k, by omega, by rw [HEI.out], (hrel.1.drewN _).swap hi' hk' HS, HSTEP'.out⟩
        case measure => simp [intOf]; omega

end Go.Proofs.Ytipdejalohmkpaa.I
