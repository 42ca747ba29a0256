/- Search: the path, its cost, or the error. -/
import Derived.Test.YtipdejalohmkpaaIPa
import Derived.Test.YtipdejalohmkpaaISeG
import Derived.Test.YtipdejalohmkpaaISb
namespace Go.Proofs.Ytipdejalohmkpaa.I
open Go.RowKit Hp Go.Proofs.YtipdejalohmkpaaW.PrintWords Go.Proofs.YtipdejalohmkpaaW.PrintLast

/-- What Search hands back. -/
def FnPost (W0 : World) (out : Sr.Out ST) (e : Ending) (w' : World) : Prop :=
  Below W0.heap.size W0 w' ∧ ∃ v : Value, match out with
  | .notFound _ => e = .returned (.tuple #[v, .int .i64 0, .int .i64 4]) ∧ v = .slice none 0 0
  | .budget _ => e = .returned (.tuple #[v, .int .i64 0, .int .i64 7]) ∧ v = .slice none 0 0
  | .found x _ => e = .returned (.tuple #[v, .int .i64 x.cost, .int .i64 0]) ∧ (Kd.int .i64).R 3 w' W0.heap.size (fun _ => True) v x.rp.reverse

set_option linter.unusedVariables false
set_option maxHeartbeats 1000000 in
theorem fsearch_any (p : Sr.Prob ST) (ok : ST → Prop) (goal : ST → Bool) (pr : Value) (s0 : ST) (budget : Nat) (W0 : World) (hp : PrC p ok pr W0) (hb1 : 1 ≤ budget) (hb2 : budget ≤ 1048576) (hok : ok s0)
    (hgoal : ∀ (w : World) (s : ST), ok s → Below W0.heap.size W0 w → Calls Try.prog 68 #[pr, stV s] w fun e w' => e = .returned (.bool (goal s)) ∧ Below w.heap.size w w') (k : Nat) (out : Sr.Out ST)
    (hrun : Sr.run p goal budget k [⟨s0, [], 0, 0⟩] [] 1 = some out) (hlen : ∀ x o, out = .found x o → x.rp.length < 1000000000) :
    Calls Try.prog 26 #[.iface 62 pr, stV s0, .int .i64 (budget : Int)] W0 (FnPost W0 out) := by
  show Calls Try.prog 26 #[.iface 62 pr, .int .i64 s0, .int .i64 (budget : Int)] W0 _
  have HC := Lib.hid (search_G p ok goal pr ⟨0, 0, none⟩ ⟨0, 0, none⟩ s0 budget W0 hp hb1 hb2 hok hgoal k out hrun)
  have HL := Lib.hid hlen
  clear hp hgoal hrun hlen
  cases out with
  | notFound order =>
    go_enter Try.func26, Try.ntmps26
    go_wp2_with (go_at_call 35; refine HC.out.mono ?_; rintro e w1 ⟨hb, vo, rfl, ho⟩; have HB := Lib.hid hb; clear hb ho)
    go_ret3
    exact ⟨HB.out, _, rfl, rfl⟩
  | budget order =>
    go_enter Try.func26, Try.ntmps26
    go_wp2_with (go_at_call 35; refine HC.out.mono ?_; rintro e w1 ⟨hb, rfl⟩; have HB := Lib.hid hb; clear hb)
    go_ret3
    exact ⟨HB.out, _, rfl, rfl⟩
  | found x order =>
    go_enter Try.func26, Try.ntmps26
    go_wp2_with fail
    refine HC.out.mono ?_
    rintro e w1 ⟨hb, b, vo, d, rfl, hent, hst, hcost, hpath⟩
    have hc2 := hent.c2
    rw [hcost] at hc2
    have HB := Lib.hid hb
    have HPATH := Lib.hid (show EPath w1 x.rp (some ⟨b, 0, none⟩) from ⟨b, d, rfl, hent, hst, hpath⟩)
    have HLT := Lib.hid hent.lt
    clear hb hent hst hcost hpath HC
    go_wp2_with fail
    have HPX := Lib.hid (show EPath w1.drew x.rp (some ⟨b, 0, none⟩) from HPATH.out.keep (EK.below (Below.drew (Below.refl _ _))))
    have HBX := Lib.hid (HB.out.drew)
    refine start_ (n := 9) (S := fun w' => w'.cell? ⟨b, 2, none⟩ = some (.int .i64 x.cost)) (ds := []) #[false, false, false, false, false, false, false, false, false] (by kernel_rfl) rfl rfl hc2 (fun hHeld => ?_)
    have HLX : Hid (b < w1.drew.heap.size) := HLT.out
    clear hc2 HB HPATH HLT
    generalize w1.drew = w2 at HPX HBX HLX hHeld ⊢
    refine pure_ (i := 0) (N := (some 26)) (v := ?_) (a' := ?_) #[true, false, false, false, false, false, false, false, false] rfl rfl (by kernel_rfl) (fun _ _ _ h => h) (Or.inl ⟨by rfl, ?_⟩) ?_ ?_
    rotate_left
    · intro w'
      go_simp
      with_reducible rfl
    rotate_left
    · simp only [Act.put, List.setIfInBounds_toArray, List.set_cons_zero, List.set_cons_succ]
      rfl
    refine pure_ (i := 2) (N := (some 28)) (v := ?_) (a' := ?_) #[true, false, true, false, false, false, false, false, false] rfl rfl (by kernel_rfl) (fun _ _ _ h => h) (Or.inl ⟨by rfl, ?_⟩) ?_ ?_
    rotate_left
    · intro w'
      go_simp
      with_reducible rfl
    rotate_left
    · simp only [Act.put, List.setIfInBounds_toArray, List.set_cons_zero, List.set_cons_succ]
      rfl
    refine pure_ (i := 3) (N := (some 29)) (v := ?_) (a' := ?_) #[true, false, true, true, false, false, false, false, false] rfl rfl (by kernel_rfl) (fun _ _ _ h => h) (Or.inl ⟨by rfl, ?_⟩) ?_ ?_
    rotate_left
    · intro w'
      go_simp
      with_reducible rfl
    rotate_left
    · simp only [Act.put, List.setIfInBounds_toArray, List.set_cons_zero, List.set_cons_succ]
      rfl
    refine pure_ (i := 4) (N := (some 30)) (v := ?_) (a' := ?_) #[true, false, true, true, true, false, false, false, false] rfl rfl (by kernel_rfl) (fun _ _ _ h => h) (Or.inl ⟨by rfl, ?_⟩) ?_ ?_
    rotate_left
    · intro w'
      go_simp
      with_reducible rfl
    rotate_left
    · simp only [Act.put, List.setIfInBounds_toArray, List.set_cons_zero, List.set_cons_succ]
      rfl
    refine take_ (i := 5) (N := (some 31)) (v := ?_) (a' := ?_) #[true, false, true, true, true, true, false, false, false] rfl rfl (by kernel_rfl) (fun _ _ _ h => h) (Or.inl ⟨by rfl, ?_⟩) hHeld ?_ ?_
    rotate_left
    · rintro w' s0
      go_simp
      with_reducible rfl
    rotate_left
    · simp only [Act.put, List.setIfInBounds_toArray, List.set_cons_zero, List.set_cons_succ]
      rfl
    refine one_ (i := 1) (N := (some 27)) #[true, true, true, true, true, true, false, false, false] rfl rfl (by kernel_rfl) (by decide) (fun K hK => ?_)
    go_simp
    refine (path_any w2 x.rp _ HPX.out (HL.out x order rfl)).mono ?_
    rintro e w3 ⟨v, rfl, hv, hb3⟩
    have HV := Lib.hid hv
    have HB3 := Lib.hid hb3
    clear hv hb3
    refine hK.out _ _ ((HB3.out.cell HLX.out).trans hHeld) (fun hHeld => ?_)
    clear hK K
    (try simp only [Act.put, List.setIfInBounds_toArray, List.set_cons_zero, List.set_cons_succ])
    refine pure_ (i := 6) (N := (some 6)) (v := ?_) (a' := ?_) #[true, true, true, true, true, true, true, false, false] rfl rfl (by kernel_rfl) (fun _ _ _ h => h) (Or.inl ⟨by rfl, ?_⟩) ?_ ?_
    rotate_left
    · intro w'
      go_simp
      with_reducible rfl
    rotate_left
    · simp only [Act.put, List.setIfInBounds_toArray, List.set_cons_zero, List.set_cons_succ]
      rfl
    refine pure_ (i := 7) (N := (some 7)) (v := ?_) (a' := ?_) #[true, true, true, true, true, true, true, true, false] rfl rfl (by kernel_rfl) (fun _ _ _ h => h) (Or.inl ⟨by rfl, ?_⟩) ?_ ?_
    rotate_left
    · intro w'
      go_simp
      with_reducible rfl
    rotate_left
    · simp only [Act.put, List.setIfInBounds_toArray, List.set_cons_zero, List.set_cons_succ]
      rfl
    refine pure_ (i := 8) (N := (some 8)) (v := ?_) (a' := ?_) #[true, true, true, true, true, true, true, true, true] rfl rfl (by kernel_rfl) (fun _ _ _ h => h) (Or.inl ⟨by rfl, ?_⟩) ?_ ?_
    rotate_left
    · intro w'
      go_simp
      with_reducible rfl
    rotate_left
    · simp only [Act.put, List.setIfInBounds_toArray, List.set_cons_zero, List.set_cons_succ]
      rfl
    refine done_ (by kernel_rfl) ?_
    go_wp2
    go_ret3
    exact ⟨HBX.out.trans (HB3.out.mono HBX.out.size), _, rfl, Kd.R_lower HV.out HBX.out.size⟩
end Go.Proofs.Ytipdejalohmkpaa.I
