/- Reachable and Distance. -/
import Derived.Test.YtipdejalohmkpaaIFn
import Derived.Test.YtipdejalohmkpaaISeN
import Derived.Test.YtipdejalohmkpaaISeK
namespace Go.Proofs.Ytipdejalohmkpaa.I
open Go.RowKit Hp Go.Proofs.YtipdejalohmkpaaW.PrintWords Go.Proofs.YtipdejalohmkpaaW.PrintLast
set_option linter.unusedVariables false

set_option maxHeartbeats 400000 in
theorem fsearch_bad (v0 v1 : Value) (pr : Value) (budget : Int) (w : World) (h : budget < 1 ∨ 1048576 < budget) :
    Calls Try.prog 26 #[.iface 62 pr, v1, .int .i64 budget] w fun e w' => e = .returned (.tuple #[.slice none 0 0, .int .i64 0, .int .i64 1]) ∧ w = w' := by
  go_enter Try.func26, Try.ntmps26
  go_wp2_with (go_at_call 35; refine (search_bad _ _ _ budget _ h).mono ?_; rintro e w' ⟨rfl, rfl⟩)
  go_ret3
  exact ⟨rfl, rfl⟩

theorem none_any (s : ST) (w : World) : Calls Try.prog 37 #[stV s] w fun e w' => e = .returned (.bool false) ∧ Below w.heap.size w w' := by
  go_enter Try.func37, Try.ntmps37
  go_wp2
  go_ret
  exact ⟨rfl, Below.refl _ _⟩

/-- What Reachable hands back. -/
def RcPost (W0 : World) (out : Sr.Out ST) (e : Ending) (w' : World) : Prop :=
  Below W0.heap.size W0 w' ∧ ∃ v : Value, match out with
  | .notFound order => e = .returned (.tuple #[v, .int .i64 0]) ∧ w'.ownsRow W0.heap.size 3 1 v order.length (order.map stV)
  | .budget _ => e = .returned (.tuple #[v, .int .i64 7]) ∧ v = .slice none 0 0
  | .found _ _ => False
theorem no_found (p : Sr.Prob ST) (budget : Nat) : ∀ (k : Nat) (L : List (Sr.Ent ST)) (order : List ST) (added : Nat) (x : Sr.Ent ST) (o : List ST), Sr.run p (fun _ => false) budget k L order added ≠ some (.found x o) := by
  intro k
  induction k with
  | zero => intro L order added x o h; simp [Sr.run] at h
  | succ k ih =>
    intro L order added x o h
    rw [Sr.run] at h
    split at h
    · cases h
    · split at h
      · exact ih _ _ _ _ _ h
      · rw [if_neg (by simp)] at h
        split at h
        · cases h
        · exact ih _ _ _ _ _ h
set_option maxHeartbeats 400000 in
theorem reach_any (p : Sr.Prob ST) (ok : ST → Prop) (pr : Value) (s0 : ST) (budget : Nat) (W0 : World) (hp : PrC p ok pr W0) (hb1 : 1 ≤ budget) (hb2 : budget ≤ 1048576) (hok : ok s0) (k : Nat) (out : Sr.Out ST)
    (hrun : Sr.run p (fun _ => false) budget k [⟨s0, [], 0, 0⟩] [] 1 = some out) :
    Calls Try.prog 30 #[.iface 62 pr, stV s0, .int .i64 (budget : Int)] W0 (RcPost W0 out) := by
  show Calls Try.prog 30 #[.iface 62 pr, .int .i64 s0, .int .i64 (budget : Int)] W0 _
  have HC := Lib.hid (search_N p ok (fun _ => false) pr ⟨0, 0, none⟩ ⟨0, 0, none⟩ s0 budget W0 hp hb1 hb2 hok (fun w s _ _ => none_any s w) k out hrun)
  have HNF := Lib.hid (fun x o (e : out = .found x o) => no_found p budget k [⟨s0, [], 0, 0⟩] [] 1 x o (by rw [hrun, e]))
  clear hp hrun
  cases out with
  | notFound order =>
    go_enter Try.func30, Try.ntmps30
    go_wp2_with (go_at_call 35; refine HC.out.mono ?_; rintro e w1 ⟨hb, vo, rfl, ho⟩; have HB := Lib.hid hb; have HO := Lib.hid ho; clear hb ho)
    go_ret2
    exact ⟨HB.out, _, rfl, HO.out⟩
  | budget order =>
    go_enter Try.func30, Try.ntmps30
    go_wp2_with (go_at_call 35; refine HC.out.mono ?_; rintro e w1 ⟨hb, rfl⟩; have HB := Lib.hid hb; clear hb)
    go_ret2
    exact ⟨HB.out, _, rfl, rfl⟩
  | found x order => exact absurd rfl (HNF.out x order)
set_option maxHeartbeats 400000 in
theorem reach_bad (v1 : Value) (pr : Value) (budget : Int) (w : World) (h : budget < 1 ∨ 1048576 < budget) :
    Calls Try.prog 30 #[.iface 62 pr, v1, .int .i64 budget] w fun e w' => e = .returned (.tuple #[.slice none 0 0, .int .i64 1]) ∧ w = w' := by
  go_enter Try.func30, Try.ntmps30
  go_wp2_with (go_at_call 35; refine (search_bad _ _ _ budget _ h).mono ?_; rintro e w' ⟨rfl, rfl⟩)
  go_ret2
  exact ⟨rfl, rfl⟩

theorem PrC.mono {p : Sr.Prob ST} {ok : ST → Prop} {pr : Value} {W0 W1 : World} (h : PrC p ok pr W0) (hb : Below W0.heap.size W0 W1) : PrC p ok pr W1 :=
  ⟨fun w s hs hw => h.key w s hs (hb.trans (hw.mono hb.size)), fun w s hs hw => h.next w s hs (hb.trans (hw.mono hb.size)), h.few, h.oks, h.mkey, h.mnext, h.nkey, h.nnext, h.mgoal⟩

set_option maxHeartbeats 1000000 in
theorem isgoal_any (p : Sr.Prob ST) (ok : ST → Prop) (pr : Value) (ga gb : Addr) (key : ByteArray) (s : ST) (w : World) (hok : ok s) (hp : PrC p ok pr w) (ha : w.cell? ga = some (.iface 62 pr)) (hk : w.cell? gb = some (.string key)) (hla : ga.block < w.heap.size) (hlb : gb.block < w.heap.size) :
    Calls Try.prog 38 #[stV s, .pointer (some ga), .pointer (some gb)] w fun e w' => e = .returned (.bool (p.key s == key)) ∧ Below w.heap.size w w' := by
  show Calls Try.prog 38 #[Value.int .i64 s, .pointer (some ga), .pointer (some gb)] w _
  have HP := Lib.hid hp
  have hmk := hp.mkey
  clear hp
  go_enter Try.func38, Try.ntmps38
  go_wp2
  have HX := Lib.hid (show Below w.heap.size w w.drew from Below.drew (Below.refl _ _))
  have HLA := Lib.hid (show ga.block < w.drew.heap.size from hla)
  have HLB := Lib.hid (show gb.block < w.drew.heap.size from hlb)
  refine start_ (n := 6) (S := fun w' => w'.cell? ga = some (.iface 62 pr) ∧ w'.cell? gb = some (.string key)) (ds := []) #[false, false, false, false, false, false] (by kernel_rfl) rfl rfl ⟨ha, hk⟩ (fun hHeld => ?_)
  clear ha hk
  generalize w.drew = w2 at HX HLA HLB hHeld ⊢
  refine take_ (i := 0) (N := (some 5)) (v := ?_) (a' := ?_) #[true, false, false, false, false, false] rfl rfl (by kernel_rfl) (fun _ _ _ h => h) (Or.inl ⟨by rfl, ?_⟩) hHeld ?_ ?_
  rotate_left
  · rintro w' ⟨s0, s1⟩
    go_simp
    with_reducible rfl
  rotate_left
  · simp only [Act.put, List.setIfInBounds_toArray, List.set_cons_zero, List.set_cons_succ]
    rfl
  refine pure_ (i := 1) (N := (some 6)) (v := ?_) (a' := ?_) #[true, true, false, false, false, false] rfl rfl (by kernel_rfl) (fun _ _ _ h => h) (Or.inl ⟨by rfl, ?_⟩) ?_ ?_
  rotate_left
  · intro w'
    go_simp
    with_reducible rfl
  rotate_left
  · simp only [Act.put, List.setIfInBounds_toArray, List.set_cons_zero, List.set_cons_succ]
    rfl
  refine take_ (i := 3) (N := (some 8)) (v := ?_) (a' := ?_) #[true, true, false, true, false, false] rfl rfl (by kernel_rfl) (fun _ _ _ h => h) (Or.inl ⟨by rfl, ?_⟩) hHeld ?_ ?_
  rotate_left
  · rintro w' ⟨s0, s1⟩
    go_simp
    with_reducible rfl
  rotate_left
  · simp only [Act.put, List.setIfInBounds_toArray, List.set_cons_zero, List.set_cons_succ]
    rfl
  refine one_ (i := 2) (N := (some 7)) #[true, true, true, true, false, false] rfl rfl (by kernel_rfl) (by decide) (fun K hK => ?_)
  go_simp
  refine (HP.out.key w2 s hok HX.out).mono ?_
  rintro e w3 ⟨rfl, hb3⟩
  have HB3 := Lib.hid hb3
  clear hb3
  refine hK.out _ _ ⟨(HB3.out.cell HLA.out).trans hHeld.1, (HB3.out.cell HLB.out).trans hHeld.2⟩ (fun hHeld => ?_)
  clear hK K
  (try simp only [Act.put, List.setIfInBounds_toArray, List.set_cons_zero, List.set_cons_succ])
  refine pure_ (i := 4) (N := (some 9)) (v := ?_) (a' := ?_) #[true, true, true, true, true, false] rfl rfl (by kernel_rfl) (fun _ _ _ h => h) (Or.inl ⟨by rfl, ?_⟩) ?_ ?_
  rotate_left
  · intro w'
    go_simp
    with_reducible rfl
  rotate_left
  · simp only [Act.put, List.setIfInBounds_toArray, List.set_cons_zero, List.set_cons_succ]
    rfl
  refine pure_ (i := 5) (N := (some 4)) (v := ?_) (a' := ?_) #[true, true, true, true, true, true] rfl rfl (by kernel_rfl) (fun _ _ _ h => h) (Or.inl ⟨by rfl, ?_⟩) ?_ ?_
  rotate_left
  · intro w'
    go_simp
    with_reducible rfl
  rotate_left
  · simp only [Act.put, List.setIfInBounds_toArray, List.set_cons_zero, List.set_cons_succ]
    rfl
  refine done_ (by kernel_rfl) ?_
  go_wp2
  go_ret
  exact ⟨by rw [beq_toListBytes]; rfl, HX.out.trans (HB3.out.mono HX.out.size)⟩

/-- What Distance hands back. -/
def DsPost (W0 : World) (out : Sr.Out ST) (e : Ending) (w' : World) : Prop :=
  Below W0.heap.size W0 w' ∧ match out with
  | .notFound _ => e = .returned (.tuple #[.int .i64 0, .int .i64 4])
  | .budget _ => e = .returned (.tuple #[.int .i64 0, .int .i64 7])
  | .found x _ => e = .returned (.tuple #[.int .i64 x.cost, .int .i64 0])
set_option maxHeartbeats 1000000 in
theorem dist_any (p : Sr.Prob ST) (ok : ST → Prop) (pr : Value) (s0 : ST) (key : ByteArray) (budget : Nat) (W0 : World) (hp : PrC p ok pr W0) (hb1 : 1 ≤ budget) (hb2 : budget ≤ 1048576) (hok : ok s0) (k : Nat) (out : Sr.Out ST)
    (hrun : Sr.run p (fun s => p.key s == key) budget k [⟨s0, [], 0, 0⟩] [] 1 = some out) :
    Calls Try.prog 31 #[.iface 62 pr, stV s0, .string key, .int .i64 (budget : Int)] W0 (DsPost W0 out) := by
  show Calls Try.prog 31 #[.iface 62 pr, .int .i64 s0, .string key, .int .i64 (budget : Int)] W0 _
  have HB1 := Lib.hid (((Below.refl W0.heap.size W0).alloc (Nat.le_refl _) (.cells #[.iface 62 pr] 76)).alloc (by simp) (.cells #[.string key] 9))
  have HCL := Lib.hid (show ((W0.alloc (.cells #[.iface 62 pr] 76)).alloc (.cells #[.string key] 9)).cell? ⟨W0.heap.size, 0, none⟩ = some (.iface 62 pr) ∧ ((W0.alloc (.cells #[.iface 62 pr] 76)).alloc (.cells #[.string key] 9)).cell? ⟨W0.heap.size + 1, 0, none⟩ = some (.string key) from ⟨by simp, by simp⟩)
  have HC := Lib.hid (search_K p ok (fun s => p.key s == key) pr ⟨W0.heap.size, 0, none⟩ ⟨W0.heap.size + 1, 0, none⟩ s0 budget ((W0.alloc (.cells #[.iface 62 pr] 76)).alloc (.cells #[.string key] 9)) (hp.mono HB1.out) hb1 hb2 hok (fun w s hs hw => isgoal_any p ok pr _ _ key s w hs ((hp.mono HB1.out).mono hw) ((hw.cell (by first | (simp; done) | (simp; omega))).trans HCL.out.1) ((hw.cell (by first | (simp; done) | (simp; omega))).trans HCL.out.2) (by have := hw.size; simp at this; simp; omega) (by have := hw.size; simp at this; simp; omega)) k out hrun)
  clear hp hrun
  cases out with
  | notFound order =>
    go_enter Try.func31, Try.ntmps31
    go_wp2_with (go_at_call 35; refine HC.out.mono ?_; rintro e w1 ⟨hb, vo, rfl, ho⟩; have HB := Lib.hid hb; clear hb ho)
    go_ret2
    exact ⟨HB1.out.trans (HB.out.mono (by simp; omega)), rfl⟩
  | budget order =>
    go_enter Try.func31, Try.ntmps31
    go_wp2_with (go_at_call 35; refine HC.out.mono ?_; rintro e w1 ⟨hb, rfl⟩; have HB := Lib.hid hb; clear hb)
    go_ret2
    exact ⟨HB1.out.trans (HB.out.mono (by simp; omega)), rfl⟩
  | found x order =>
    go_enter Try.func31, Try.ntmps31
    go_wp2_with (go_at_call 35; refine HC.out.mono ?_; rintro e w1 ⟨hb, b, vo, d, rfl, hent, hst, hcost, hpath⟩; have hc2 := hent.c2; rw [hcost] at hc2; have HB := Lib.hid hb; clear hb hent hst hcost hpath)
    go_ret2
    exact ⟨HB1.out.trans (HB.out.mono (by simp; omega)), rfl⟩
set_option maxHeartbeats 400000 in
theorem dist_bad (v1 : Value) (pr : Value) (key : ByteArray) (budget : Int) (w : World) (h : budget < 1 ∨ 1048576 < budget) :
    Calls Try.prog 31 #[.iface 62 pr, v1, .string key, .int .i64 budget] w fun e w' => e = .returned (.tuple #[.int .i64 0, .int .i64 1]) ∧ Below w.heap.size w w' := by
  go_enter Try.func31, Try.ntmps31
  go_wp2_with (go_at_call 35; refine (search_bad _ _ _ budget _ h).mono ?_; rintro e w' ⟨rfl, rfl⟩)
  go_ret2
  exact ⟨rfl, ((Below.refl _ _).alloc (Nat.le_refl _) _).alloc (by simp) _⟩
end Go.Proofs.Ytipdejalohmkpaa.I
