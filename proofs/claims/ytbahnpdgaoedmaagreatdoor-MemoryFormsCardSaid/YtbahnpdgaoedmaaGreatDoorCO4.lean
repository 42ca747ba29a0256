/- Part 4 of the proof of MemoryForms: Mf, Mg, Mh, Ms, Mt, Mu, Mw, Mv. -/
import Derived.Test.YtbahnpdgaoedmaaGreatDoorCO3
import Derived.Shelf.SlSortCmp.WholeK
import Derived.Shelf.SlGeneric
import Derived.Ground.SlsfProg
import Derived.Test.YtbahnpdgaoedmaaGreatDoorProg
namespace Go.Proofs.YtbahnpdgaoedmaaGreatDoor.Mm
open Go.RowKit Go.Proofs.YtbahnpdgaoedmaaGreatDoorW.PrintWords Go.Proofs.YtbahnpdgaoedmaaGreatDoorW.PrintLast Go.Proofs.YtbahnpdgaoedmaaGreatDoorW.PrintMore Go.Proofs.YtbahnpdgaoedmaaGreatDoor.PMemoryExact
set_option linter.unusedSimpArgs false
set_option linter.unusedVariables false
theorem form_at {w : World} {A : Option Addr} {l : List S32} (h : k32.C w A l.length l) (i : Nat) (hi : i < l.length) :
  ∃ ad A2 c2 A5 c5, A = some ad ∧ w.cell? (ad.add (i * 6)) = some (.int .i64 l[i].f0) ∧ w.cell? ⟨(ad.add (i * 6)).block, (ad.add (i * 6)).off + 1, none⟩ = some (.string l[i].f1) ∧ w.cell? ⟨(ad.add (i * 6)).block, (ad.add (i * 6)).off + 2, none⟩ = some (.slice A2 l[i].f2.length c2) ∧
   w.cell? ⟨(ad.add (i * 6)).block, (ad.add (i * 6)).off + 3, none⟩ = some (.int .i64 l[i].f3) ∧ w.cell? ⟨(ad.add (i * 6)).block, (ad.add (i * 6)).off + 4, none⟩ = some (.int .i64 l[i].f4) ∧ w.cell? ⟨(ad.add (i * 6)).block, (ad.add (i * 6)).off + 5, none⟩ = some (.slice A5 l[i].f5.length c5) ∧
   k32.K w l[i] [.int .i64 l[i].f0, .string l[i].f1, .slice A2 l[i].f2.length c2, .int .i64 l[i].f3, .int .i64 l[i].f4, .slice A5 l[i].f5.length c5] := by
 obtain ⟨ad, A2, c2, A5, c5, e, h0, h1, h2, h3, h4, h5, l2, g2, l5, g5⟩ := at_T32 h (i : Int) (by omega) (by omega)
 rw [Int.toNat_natCast] at h0 h1 h2 h3 h4 h5
 have hr : rd_T32 l (i : Int) = l[i] := by simp [rd_T32, hi]
 rw [hr] at h0 h1 h2 h3 h4 h5 l2 g2 l5 g5
 exact ⟨ad, A2, c2, A5, c5, e, h0, h1, h2, h3, h4, h5, k32_mk w _ l2 g2 l5 g5⟩
/-- What Compare owes, below a size. -/
def CmpTo (n : Nat) : Prop := ∀ (x y : S32), size x < n → ∀ (w : World) (cs ds : List Value), k32.K w x cs → k32.K w y ds → Calls Tryz.prog 50 #[.agg cs.toArray, .agg ds.toArray] w fun e w' => e = .returned (.int .i64 (cF x y)) ∧ Gw w w'
set_option maxRecDepth 1000000 in
set_option maxHeartbeats 4000000 in
theorem clf_any {n : Nat} (hrec : CmpTo n) {w : World} {A B : Option Addr} {a b : List S32} {c d : Nat} (ha : k32.C w A a.length a) (hb : k32.C w B b.length b) (hsz : ∀ x ∈ a, size x < n) (f : Value) (hf : f = .func (.func 50) #[] #[]) :
  Calls Tryz.prog 76 #[.slice A a.length c, .slice B b.length d, f] w fun e w' => e = .returned (.int .i64 (cl cF a b)) ∧ Gw w w' := by
 subst hf
 have HA := Lib.hid ha
 have HB := Lib.hid hb
 have hma : a.length ≤ 9223372036854775807 := ha.2.1
 have hmb : b.length ≤ 9223372036854775807 := hb.2.1
 clear ha hb
 go_enter Tryz.func76, Tryz.ntmps76
 go_wp2
 go_loopw [13] (fun v13 wr => CfRel cF a b w v13 wr) (fun v13 _ => a.length - (intOf v13).toNat)
 case atStart => exact ⟨0, rfl, Nat.zero_le _, Nat.zero_le _, rfl, Gw.refl _⟩
 case round =>
  obtain ⟨i, rfl, hia, hib, hcl, hbw⟩ := hrel
  have HCL := Lib.hid hcl
  have HW := Lib.hid hbw
  clear hcl hbw
  by_cases hlt : i < a.length
  ·have hi0 : 0 ≤ (i : Int) := by omega
   have hi1 : (i : Int) < (a.length : Int) := by omega
   obtain ⟨ad, A2, c2, A5, c5, e1, q0, q1, q2, q3, q4, q5, qK⟩ := form_at (Kd.C_below HA.out HW.out.1) i hlt
   subst e1
   by_cases hlb : i < b.length
   ·have hj1 : (i : Int) < (b.length : Int) := by omega
    have gb : decide ((b.length : Int) ≤ (i : Int)) = false := decide_eq_false (by omega)
    have gbn : decide (b.length ≤ i) = false := decide_eq_false (by omega)
    have hal := (Gw.refl wr).alloc (.cells #[.int .i64 a[i].f0, .string a[i].f1, .slice A2 a[i].f2.length c2, .int .i64 a[i].f3, .int .i64 a[i].f4, .slice A5 a[i].f5.length c5] 32)
    obtain ⟨bd, B2, d2, B5, d5, e2, p0, p1, p2, p3, p4, p5, pK⟩ := form_at (Kd.C_below (Kd.C_below HB.out HW.out.1) hal.1) i hlb
    subst e2
    have HCD := Lib.hid (cl_drop cF hlt hlb)
    have HS := Lib.hid hal
    have HQK := Lib.hid qK
    have HPK := Lib.hid pK
    clear qK pK
    clear hal
    go_wp2_with fail
    have HS2 := Lib.hid (HS.out.alloc (.cells #[.int .i64 b[i].f0, .string b[i].f1, .slice B2 b[i].f2.length d2, .int .i64 b[i].f3, .int .i64 b[i].f4, .slice B5 b[i].f5.length d5] 32))
    refine (hrec a[i] b[i] (hsz _ (List.getElem_mem _)) _ _ _ (k32.K_below HS2.out.1 HQK.out) (k32.K_below ((Gw.refl _).alloc _).1 HPK.out)).mono ?_
    rintro e w5 ⟨rfl, hb5⟩
    have HW5 := Lib.hid (Gw.trans HW.out (Gw.trans HS2.out hb5))
    clear hb5
    obtain ⟨r, hr⟩ : ∃ r, cF a[i] b[i] = r := ⟨_, rfl⟩
    rw [hr] at HCD ⊢
    clear hr q0 q1 q2 q3 q4 q5 p0 p1 p2 p3 p4 p5
    by_cases h0 : r = 0
    ·have HC2 := Lib.hid (show cl cF a b = cl cF (a.drop (i + 1)) (b.drop (i + 1)) by rw [HCL.out, HCD.out, h0]; rfl)
     clear HCL HCD
     subst h0
     go_wp2
     go_roundw
     case rel => exact ⟨i + 1, by go_num, hlt, hlb, HC2.out, HW5.out⟩
     case measure => simp [intOf]; omega
    ·have HC2 := Lib.hid (show cl cF a b = r by rw [HCL.out, HCD.out]; unfold oi; rw [if_neg h0])
     have g0 : (r != 0) = true := by simpa using h0
     clear HCL HCD
     go_wp2
     go_ret
     rw [HC2.out]
     exact ⟨rfl, HW5.out⟩
   ·have gb : decide ((b.length : Int) ≤ (i : Int)) = true := decide_eq_true (by omega)
    have gbn : decide (b.length ≤ i) = true := decide_eq_true (by omega)
    have HC2 := Lib.hid (HCL.out.trans (cl_long cF hlt hlb))
    have HS := Lib.hid ((Gw.refl wr).alloc (.cells #[.int .i64 a[i].f0, .string a[i].f1, .slice A2 a[i].f2.length c2, .int .i64 a[i].f3, .int .i64 a[i].f4, .slice A5 a[i].f5.length c5] 32))
    clear HCL
    go_wp2
    go_ret
    rw [HC2.out]
    exact ⟨rfl, Gw.trans HW.out HS.out⟩
  ·have HC2 := Lib.hid (HCL.out.trans (cl_end cF (by omega) hib))
   have g14 : decide ((i : Int) < (a.length : Int)) = false := decide_eq_false (by omega)
   clear HCL
   by_cases hab : a.length < b.length
   ·have HC3 := Lib.hid (HC2.out.trans (if_pos hab))
    have g38 : decide ((a.length : Int) < (b.length : Int)) = true := decide_eq_true (by omega)
    clear HC2
    go_wp2
    go_ret
    rw [HC3.out]
    exact ⟨rfl, HW.out⟩
   ·have HC3 := Lib.hid (HC2.out.trans (if_neg hab))
    have g38 : decide ((a.length : Int) < (b.length : Int)) = false := decide_eq_false (by omega)
    clear HC2
    go_wp2
    go_ret
    rw [HC3.out]
    exact ⟨rfl, HW.out⟩
set_option maxRecDepth 1000000 in
set_option maxHeartbeats 4000000 in
theorem cmp_step {n : Nat} (hrec : CmpTo n) : CmpTo (n + 1) := by
 intro x y hn w cs ds hx hy
 have hsz : ∀ z ∈ x.f5, size z < n := fun z hz => by have := kid_lt hz; omega
 obtain ⟨A2, c2, A5, c5, rfl, l2, g2, l5, g5⟩ := k32_open hx
 obtain ⟨B2, d2, B5, d5, rfl, m2, r2, m5, r5⟩ := k32_open hy
 clear hx hy
 have HIS := Lib.hid (cF_is x y)
 rw [HIS.out]
 have h2 := two_box w #[.int .i64 x.f0, .string x.f1, .slice A2 x.f2.length c2, .int .i64 x.f3, .int .i64 x.f4, .slice A5 x.f5.length c5] #[.int .i64 y.f0, .string y.f1, .slice B2 y.f2.length d2, .int .i64 y.f3, .int .i64 y.f4, .slice B5 y.f5.length d5] 32
 have hkids : ∀ (W : World), k32.C W A5 x.f5.length x.f5 → k32.C W B5 y.f5.length y.f5 → Calls Tryz.prog 76 #[.slice A5 x.f5.length c5, .slice B5 y.f5.length d5, .func (.func 50) #[] #[]] W fun e w' => e = .returned (.int .i64 (cl cF x.f5 y.f5)) ∧ Gw W w' := fun W h k => clf_any hrec h k hsz _ rfl
 have HG2 := Lib.hid g2
 have HG5 := Lib.hid g5
 have HR2 := Lib.hid r2
 have HR5 := Lib.hid r5
 clear g2 g5 r2 r5 hsz
 go_enter Tryz.func50, Tryz.ntmps50
 go_wp2
 obtain ⟨w2, hw2⟩ : ∃ w2, (w.alloc (.cells #[.int .i64 x.f0, .string x.f1, .slice A2 x.f2.length c2, .int .i64 x.f3, .int .i64 x.f4, .slice A5 x.f5.length c5] 32)).alloc (.cells #[.int .i64 y.f0, .string y.f1, .slice B2 y.f2.length d2, .int .i64 y.f3, .int .i64 y.f4, .slice B5 y.f5.length d5] 32) = w2 := ⟨_, rfl⟩
 rw [hw2] at h2 ⊢
 obtain ⟨hx, hy, hb⟩ := h2
 have HB := Lib.hid hb
 have HK := Lib.hid (show ∀ W, Gw w2 W → W.cell? ⟨w.heap.size, 0, none⟩ = some (.int .i64 x.f0) ∧ W.cell? ⟨w.heap.size, 1, none⟩ = some (.string x.f1) ∧ W.cell? ⟨w.heap.size, 2, none⟩ = some (.slice A2 x.f2.length c2) ∧ W.cell? ⟨w.heap.size, 3, none⟩ = some (.int .i64 x.f3) ∧ W.cell? ⟨w.heap.size, 4, none⟩ = some (.int .i64 x.f4) ∧ W.cell? ⟨w.heap.size, 5, none⟩ = some (.slice A5 x.f5.length c5) ∧
   W.cell? ⟨w.heap.size + 1, 0, none⟩ = some (.int .i64 y.f0) ∧ W.cell? ⟨w.heap.size + 1, 1, none⟩ = some (.string y.f1) ∧ W.cell? ⟨w.heap.size + 1, 2, none⟩ = some (.slice B2 y.f2.length d2) ∧ W.cell? ⟨w.heap.size + 1, 3, none⟩ = some (.int .i64 y.f3) ∧ W.cell? ⟨w.heap.size + 1, 4, none⟩ = some (.int .i64 y.f4) ∧ W.cell? ⟨w.heap.size + 1, 5, none⟩ = some (.slice B5 y.f5.length d5) from fun W hW =>
  ⟨at_blk hx hW 0, at_blk hx hW 1, at_blk hx hW 2, at_blk hx hW 3, at_blk hx hW 4, at_blk hx hW 5, at_blk hy hW 0, at_blk hy hW 1, at_blk hy hW 2, at_blk hy hW 3, at_blk hy hW 4, at_blk hy hW 5⟩)
 have HCA := Lib.hid (show ∀ W, Gw w2 W → k84.C W A2 x.f2.length x.f2 ∧ k84.C W B2 y.f2.length y.f2 ∧ k32.C W A5 x.f5.length x.f5 ∧ k32.C W B5 y.f5.length y.f5 from fun W hW =>
  have hw := Gw.trans HB.out hW
  ⟨Kd.C_below HG2.out hw.1, Kd.C_below HR2.out hw.1, Kd.C_below HG5.out hw.1, Kd.C_below HR5.out hw.1⟩)
 clear hx hy hb hw2
 have HKIDS := Lib.hid hkids
 clear hkids
 refine start_ (n := 33) (S := fun w' => Gw w2 w') (ds := []) #[false, false, false, false, false, false, false, false, false, false, false, false, false, false, false, false, false, false, false, false, false, false, false, false, false, false, false, false, false, false, false, false, false] (by kernel_rfl) rfl rfl (Gw.drew (Gw.refl _)) (fun hHeld => ?_)
 generalize w2.drew = w3 at hHeld ⊢
 refine pure_ (i := 0) (N := (some 5)) (v := ?_) (a' := ?_) #[true, false, false, false, false, false, false, false, false, false, false, false, false, false, false, false, false, false, false, false, false, false, false, false, false, false, false, false, false, false, false, false, false] rfl rfl (by kernel_rfl) (fun _ _ _ h => h) (Or.inl ⟨by rfl, ?_⟩) ?_ ?_
 rotate_left
 ·intro w'
  go_simp
  with_reducible rfl
 rotate_left
 ·simp only [Act.put, List.setIfInBounds_toArray, List.set_cons_zero, List.set_cons_succ]
  rfl
 refine take_ (i := 1) (N := (some 6)) (v := ?_) (a' := ?_) #[true, true, false, false, false, false, false, false, false, false, false, false, false, false, false, false, false, false, false, false, false, false, false, false, false, false, false, false, false, false, false, false, false] rfl rfl (by kernel_rfl) (fun _ _ _ h => h) (Or.inl ⟨by rfl, ?_⟩) hHeld ?_ ?_
 rotate_left
 ·rintro w' s0
  obtain ⟨k0, k1, k2, k3, k4, k5, m0, m1, m2, m3, m4, m5⟩ := HK.out _ s0
  go_simp
  with_reducible rfl
 rotate_left
 ·simp only [Act.put, List.setIfInBounds_toArray, List.set_cons_zero, List.set_cons_succ]
  rfl
 refine pure_ (i := 2) (N := (some 7)) (v := ?_) (a' := ?_) #[true, true, true, false, false, false, false, false, false, false, false, false, false, false, false, false, false, false, false, false, false, false, false, false, false, false, false, false, false, false, false, false, false] rfl rfl (by kernel_rfl) (fun _ _ _ h => h) (Or.inl ⟨by rfl, ?_⟩) ?_ ?_
 rotate_left
 ·intro w'
  go_simp
  with_reducible rfl
 rotate_left
 ·simp only [Act.put, List.setIfInBounds_toArray, List.set_cons_zero, List.set_cons_succ]
  rfl
 refine take_ (i := 3) (N := (some 8)) (v := ?_) (a' := ?_) #[true, true, true, true, false, false, false, false, false, false, false, false, false, false, false, false, false, false, false, false, false, false, false, false, false, false, false, false, false, false, false, false, false] rfl rfl (by kernel_rfl) (fun _ _ _ h => h) (Or.inl ⟨by rfl, ?_⟩) hHeld ?_ ?_
 rotate_left
 ·rintro w' s0
  obtain ⟨k0, k1, k2, k3, k4, k5, m0, m1, m2, m3, m4, m5⟩ := HK.out _ s0
  go_simp
  with_reducible rfl
 rotate_left
 ·simp only [Act.put, List.setIfInBounds_toArray, List.set_cons_zero, List.set_cons_succ]
  rfl
 refine pure_ (i := 5) (N := (some 10)) (v := ?_) (a' := ?_) #[true, true, true, true, false, true, false, false, false, false, false, false, false, false, false, false, false, false, false, false, false, false, false, false, false, false, false, false, false, false, false, false, false] rfl rfl (by kernel_rfl) (fun _ _ _ h => h) (Or.inl ⟨by rfl, ?_⟩) ?_ ?_
 rotate_left
 ·intro w'
  go_simp
  with_reducible rfl
 rotate_left
 ·simp only [Act.put, List.setIfInBounds_toArray, List.set_cons_zero, List.set_cons_succ]
  rfl
 refine take_ (i := 6) (N := (some 11)) (v := ?_) (a' := ?_) #[true, true, true, true, false, true, true, false, false, false, false, false, false, false, false, false, false, false, false, false, false, false, false, false, false, false, false, false, false, false, false, false, false] rfl rfl (by kernel_rfl) (fun _ _ _ h => h) (Or.inl ⟨by rfl, ?_⟩) hHeld ?_ ?_
 rotate_left
 ·rintro w' s0
  obtain ⟨k0, k1, k2, k3, k4, k5, m0, m1, m2, m3, m4, m5⟩ := HK.out _ s0
  go_simp
  with_reducible rfl
 rotate_left
 ·simp only [Act.put, List.setIfInBounds_toArray, List.set_cons_zero, List.set_cons_succ]
  rfl
 refine pure_ (i := 7) (N := (some 12)) (v := ?_) (a' := ?_) #[true, true, true, true, false, true, true, true, false, false, false, false, false, false, false, false, false, false, false, false, false, false, false, false, false, false, false, false, false, false, false, false, false] rfl rfl (by kernel_rfl) (fun _ _ _ h => h) (Or.inl ⟨by rfl, ?_⟩) ?_ ?_
 rotate_left
 ·intro w'
  go_simp
  with_reducible rfl
 rotate_left
 ·simp only [Act.put, List.setIfInBounds_toArray, List.set_cons_zero, List.set_cons_succ]
  rfl
 refine take_ (i := 8) (N := (some 13)) (v := ?_) (a' := ?_) #[true, true, true, true, false, true, true, true, true, false, false, false, false, false, false, false, false, false, false, false, false, false, false, false, false, false, false, false, false, false, false, false, false] rfl rfl (by kernel_rfl) (fun _ _ _ h => h) (Or.inl ⟨by rfl, ?_⟩) hHeld ?_ ?_
 rotate_left
 ·rintro w' s0
  obtain ⟨k0, k1, k2, k3, k4, k5, m0, m1, m2, m3, m4, m5⟩ := HK.out _ s0
  go_simp
  with_reducible rfl
 rotate_left
 ·simp only [Act.put, List.setIfInBounds_toArray, List.set_cons_zero, List.set_cons_succ]
  rfl
 refine pure_ (i := 10) (N := (some 15)) (v := ?_) (a' := ?_) #[true, true, true, true, false, true, true, true, true, false, true, false, false, false, false, false, false, false, false, false, false, false, false, false, false, false, false, false, false, false, false, false, false] rfl rfl (by kernel_rfl) (fun _ _ _ h => h) (Or.inl ⟨by rfl, ?_⟩) ?_ ?_
 rotate_left
 ·intro w'
  go_simp
  with_reducible rfl
 rotate_left
 ·simp only [Act.put, List.setIfInBounds_toArray, List.set_cons_zero, List.set_cons_succ]
  rfl
 refine take_ (i := 11) (N := (some 16)) (v := ?_) (a' := ?_) #[true, true, true, true, false, true, true, true, true, false, true, true, false, false, false, false, false, false, false, false, false, false, false, false, false, false, false, false, false, false, false, false, false] rfl rfl (by kernel_rfl) (fun _ _ _ h => h) (Or.inl ⟨by rfl, ?_⟩) hHeld ?_ ?_
 rotate_left
 ·rintro w' s0
  obtain ⟨k0, k1, k2, k3, k4, k5, m0, m1, m2, m3, m4, m5⟩ := HK.out _ s0
  go_simp
  with_reducible rfl
 rotate_left
 ·simp only [Act.put, List.setIfInBounds_toArray, List.set_cons_zero, List.set_cons_succ]
  rfl
 refine pure_ (i := 12) (N := (some 17)) (v := ?_) (a' := ?_) #[true, true, true, true, false, true, true, true, true, false, true, true, true, false, false, false, false, false, false, false, false, false, false, false, false, false, false, false, false, false, false, false, false] rfl rfl (by kernel_rfl) (fun _ _ _ h => h) (Or.inl ⟨by rfl, ?_⟩) ?_ ?_
 rotate_left
 ·intro w'
  go_simp
  with_reducible rfl
 rotate_left
 ·simp only [Act.put, List.setIfInBounds_toArray, List.set_cons_zero, List.set_cons_succ]
  rfl
 refine take_ (i := 13) (N := (some 18)) (v := ?_) (a' := ?_) #[true, true, true, true, false, true, true, true, true, false, true, true, true, true, false, false, false, false, false, false, false, false, false, false, false, false, false, false, false, false, false, false, false] rfl rfl (by kernel_rfl) (fun _ _ _ h => h) (Or.inl ⟨by rfl, ?_⟩) hHeld ?_ ?_
 rotate_left
 ·rintro w' s0
  obtain ⟨k0, k1, k2, k3, k4, k5, m0, m1, m2, m3, m4, m5⟩ := HK.out _ s0
  go_simp
  with_reducible rfl
 rotate_left
 ·simp only [Act.put, List.setIfInBounds_toArray, List.set_cons_zero, List.set_cons_succ]
  rfl
 refine pure_ (i := 15) (N := (some 20)) (v := ?_) (a' := ?_) #[true, true, true, true, false, true, true, true, true, false, true, true, true, true, false, true, false, false, false, false, false, false, false, false, false, false, false, false, false, false, false, false, false] rfl rfl (by kernel_rfl) (fun _ _ _ h => h) (Or.inl ⟨by rfl, ?_⟩) ?_ ?_
 rotate_left
 ·intro w'
  go_simp
  with_reducible rfl
 rotate_left
 ·simp only [Act.put, List.setIfInBounds_toArray, List.set_cons_zero, List.set_cons_succ]
  rfl
 refine take_ (i := 16) (N := (some 21)) (v := ?_) (a' := ?_) #[true, true, true, true, false, true, true, true, true, false, true, true, true, true, false, true, true, false, false, false, false, false, false, false, false, false, false, false, false, false, false, false, false] rfl rfl (by kernel_rfl) (fun _ _ _ h => h) (Or.inl ⟨by rfl, ?_⟩) hHeld ?_ ?_
 rotate_left
 ·rintro w' s0
  obtain ⟨k0, k1, k2, k3, k4, k5, m0, m1, m2, m3, m4, m5⟩ := HK.out _ s0
  go_simp
  with_reducible rfl
 rotate_left
 ·simp only [Act.put, List.setIfInBounds_toArray, List.set_cons_zero, List.set_cons_succ]
  rfl
 refine pure_ (i := 17) (N := (some 22)) (v := ?_) (a' := ?_) #[true, true, true, true, false, true, true, true, true, false, true, true, true, true, false, true, true, true, false, false, false, false, false, false, false, false, false, false, false, false, false, false, false] rfl rfl (by kernel_rfl) (fun _ _ _ h => h) (Or.inl ⟨by rfl, ?_⟩) ?_ ?_
 rotate_left
 ·intro w'
  go_simp
  with_reducible rfl
 rotate_left
 ·simp only [Act.put, List.setIfInBounds_toArray, List.set_cons_zero, List.set_cons_succ]
  rfl
 refine take_ (i := 18) (N := (some 23)) (v := ?_) (a' := ?_) #[true, true, true, true, false, true, true, true, true, false, true, true, true, true, false, true, true, true, true, false, false, false, false, false, false, false, false, false, false, false, false, false, false] rfl rfl (by kernel_rfl) (fun _ _ _ h => h) (Or.inl ⟨by rfl, ?_⟩) hHeld ?_ ?_
 rotate_left
 ·rintro w' s0
  obtain ⟨k0, k1, k2, k3, k4, k5, m0, m1, m2, m3, m4, m5⟩ := HK.out _ s0
  go_simp
  with_reducible rfl
 rotate_left
 ·simp only [Act.put, List.setIfInBounds_toArray, List.set_cons_zero, List.set_cons_succ]
  rfl
 refine pure_ (i := 20) (N := (some 25)) (v := ?_) (a' := ?_) #[true, true, true, true, false, true, true, true, true, false, true, true, true, true, false, true, true, true, true, false, true, false, false, false, false, false, false, false, false, false, false, false, false] rfl rfl (by kernel_rfl) (fun _ _ _ h => h) (Or.inl ⟨by rfl, ?_⟩) ?_ ?_
 rotate_left
 ·intro w'
  go_simp
  with_reducible rfl
 rotate_left
 ·simp only [Act.put, List.setIfInBounds_toArray, List.set_cons_zero, List.set_cons_succ]
  rfl
 refine take_ (i := 21) (N := (some 26)) (v := ?_) (a' := ?_) #[true, true, true, true, false, true, true, true, true, false, true, true, true, true, false, true, true, true, true, false, true, true, false, false, false, false, false, false, false, false, false, false, false] rfl rfl (by kernel_rfl) (fun _ _ _ h => h) (Or.inl ⟨by rfl, ?_⟩) hHeld ?_ ?_
 rotate_left
 ·rintro w' s0
  obtain ⟨k0, k1, k2, k3, k4, k5, m0, m1, m2, m3, m4, m5⟩ := HK.out _ s0
  go_simp
  with_reducible rfl
 rotate_left
 ·simp only [Act.put, List.setIfInBounds_toArray, List.set_cons_zero, List.set_cons_succ]
  rfl
 refine pure_ (i := 22) (N := (some 27)) (v := ?_) (a' := ?_) #[true, true, true, true, false, true, true, true, true, false, true, true, true, true, false, true, true, true, true, false, true, true, true, false, false, false, false, false, false, false, false, false, false] rfl rfl (by kernel_rfl) (fun _ _ _ h => h) (Or.inl ⟨by rfl, ?_⟩) ?_ ?_
 rotate_left
 ·intro w'
  go_simp
  with_reducible rfl
 rotate_left
 ·simp only [Act.put, List.setIfInBounds_toArray, List.set_cons_zero, List.set_cons_succ]
  rfl
 refine take_ (i := 23) (N := (some 28)) (v := ?_) (a' := ?_) #[true, true, true, true, false, true, true, true, true, false, true, true, true, true, false, true, true, true, true, false, true, true, true, true, false, false, false, false, false, false, false, false, false] rfl rfl (by kernel_rfl) (fun _ _ _ h => h) (Or.inl ⟨by rfl, ?_⟩) hHeld ?_ ?_
 rotate_left
 ·rintro w' s0
  obtain ⟨k0, k1, k2, k3, k4, k5, m0, m1, m2, m3, m4, m5⟩ := HK.out _ s0
  go_simp
  with_reducible rfl
 rotate_left
 ·simp only [Act.put, List.setIfInBounds_toArray, List.set_cons_zero, List.set_cons_succ]
  rfl
 refine pure_ (i := 25) (N := (some 30)) (v := ?_) (a' := ?_) #[true, true, true, true, false, true, true, true, true, false, true, true, true, true, false, true, true, true, true, false, true, true, true, true, false, true, false, false, false, false, false, false, false] rfl rfl (by kernel_rfl) (fun _ _ _ h => h) (Or.inl ⟨by rfl, ?_⟩) ?_ ?_
 rotate_left
 ·intro w'
  go_simp
  with_reducible rfl
 rotate_left
 ·simp only [Act.put, List.setIfInBounds_toArray, List.set_cons_zero, List.set_cons_succ]
  rfl
 refine take_ (i := 26) (N := (some 31)) (v := ?_) (a' := ?_) #[true, true, true, true, false, true, true, true, true, false, true, true, true, true, false, true, true, true, true, false, true, true, true, true, false, true, true, false, false, false, false, false, false] rfl rfl (by kernel_rfl) (fun _ _ _ h => h) (Or.inl ⟨by rfl, ?_⟩) hHeld ?_ ?_
 rotate_left
 ·rintro w' s0
  obtain ⟨k0, k1, k2, k3, k4, k5, m0, m1, m2, m3, m4, m5⟩ := HK.out _ s0
  go_simp
  with_reducible rfl
 rotate_left
 ·simp only [Act.put, List.setIfInBounds_toArray, List.set_cons_zero, List.set_cons_succ]
  rfl
 refine pure_ (i := 27) (N := (some 32)) (v := ?_) (a' := ?_) #[true, true, true, true, false, true, true, true, true, false, true, true, true, true, false, true, true, true, true, false, true, true, true, true, false, true, true, true, false, false, false, false, false] rfl rfl (by kernel_rfl) (fun _ _ _ h => h) (Or.inl ⟨by rfl, ?_⟩) ?_ ?_
 rotate_left
 ·intro w'
  go_simp
  with_reducible rfl
 rotate_left
 ·simp only [Act.put, List.setIfInBounds_toArray, List.set_cons_zero, List.set_cons_succ]
  rfl
 refine take_ (i := 28) (N := (some 33)) (v := ?_) (a' := ?_) #[true, true, true, true, false, true, true, true, true, false, true, true, true, true, false, true, true, true, true, false, true, true, true, true, false, true, true, true, true, false, false, false, false] rfl rfl (by kernel_rfl) (fun _ _ _ h => h) (Or.inl ⟨by rfl, ?_⟩) hHeld ?_ ?_
 rotate_left
 ·rintro w' s0
  obtain ⟨k0, k1, k2, k3, k4, k5, m0, m1, m2, m3, m4, m5⟩ := HK.out _ s0
  go_simp
  with_reducible rfl
 rotate_left
 ·simp only [Act.put, List.setIfInBounds_toArray, List.set_cons_zero, List.set_cons_succ]
  rfl
 refine one_ (i := 4) (N := (some 9)) #[true, true, true, true, true, true, true, true, true, false, true, true, true, true, false, true, true, true, true, false, true, true, true, true, false, true, true, true, true, false, false, false, false] rfl rfl (by kernel_rfl) (by decide) (fun K hK => ?_)
 go_simp
 refine (ci_any w3 x.f0 y.f0).mono ?_
 rintro e w4 ⟨rfl, hb4⟩
 refine hK.out _ _ (Gw.trans hHeld hb4) (fun hHeld => ?_)
 clear hK K
 (try simp only [Act.put, List.setIfInBounds_toArray, List.set_cons_zero, List.set_cons_succ])
 refine one_ (i := 9) (N := (some 14)) #[true, true, true, true, true, true, true, true, true, true, true, true, true, true, false, true, true, true, true, false, true, true, true, true, false, true, true, true, true, false, false, false, false] rfl rfl (by kernel_rfl) (by decide) (fun K hK => ?_)
 go_simp
 refine (cs_any w4 x.f1 y.f1).mono ?_
 rintro e w5 ⟨rfl, rfl⟩
 refine hK.out _ _ hHeld (fun hHeld => ?_)
 clear hK K
 (try simp only [Act.put, List.setIfInBounds_toArray, List.set_cons_zero, List.set_cons_succ])
 refine one_ (i := 14) (N := (some 19)) #[true, true, true, true, true, true, true, true, true, true, true, true, true, true, true, true, true, true, true, false, true, true, true, true, false, true, true, true, true, false, false, false, false] rfl rfl (by kernel_rfl) (by decide) (fun K hK => ?_)
 go_simp
 refine (clr_any (HCA.out _ hHeld).1 (HCA.out _ hHeld).2.1 _ rfl).mono ?_
 rintro e w6 ⟨rfl, hb6⟩
 refine hK.out _ _ (Gw.trans hHeld hb6) (fun hHeld => ?_)
 clear hK K
 (try simp only [Act.put, List.setIfInBounds_toArray, List.set_cons_zero, List.set_cons_succ])
 refine one_ (i := 19) (N := (some 24)) #[true, true, true, true, true, true, true, true, true, true, true, true, true, true, true, true, true, true, true, true, true, true, true, true, false, true, true, true, true, false, false, false, false] rfl rfl (by kernel_rfl) (by decide) (fun K hK => ?_)
 go_simp
 refine (ci_any w6 x.f3 y.f3).mono ?_
 rintro e w7 ⟨rfl, hb7⟩
 refine hK.out _ _ (Gw.trans hHeld hb7) (fun hHeld => ?_)
 clear hK K
 (try simp only [Act.put, List.setIfInBounds_toArray, List.set_cons_zero, List.set_cons_succ])
 refine one_ (i := 24) (N := (some 29)) #[true, true, true, true, true, true, true, true, true, true, true, true, true, true, true, true, true, true, true, true, true, true, true, true, true, true, true, true, true, false, false, false, false] rfl rfl (by kernel_rfl) (by decide) (fun K hK => ?_)
 go_simp
 refine (ci_any w7 x.f4 y.f4).mono ?_
 rintro e w8 ⟨rfl, hb8⟩
 refine hK.out _ _ (Gw.trans hHeld hb8) (fun hHeld => ?_)
 clear hK K
 (try simp only [Act.put, List.setIfInBounds_toArray, List.set_cons_zero, List.set_cons_succ])
 refine one_ (i := 29) (N := (some 34)) #[true, true, true, true, true, true, true, true, true, true, true, true, true, true, true, true, true, true, true, true, true, true, true, true, true, true, true, true, true, true, false, false, false] rfl rfl (by kernel_rfl) (by decide) (fun K hK => ?_)
 go_simp
 refine (HKIDS.out w8 (HCA.out _ hHeld).2.2.1 (HCA.out _ hHeld).2.2.2).mono ?_
 rintro e w9 ⟨rfl, hb9⟩
 refine hK.out _ _ (Gw.trans hHeld hb9) (fun hHeld => ?_)
 clear hK K
 (try simp only [Act.put, List.setIfInBounds_toArray, List.set_cons_zero, List.set_cons_succ])
 refine one_ (i := 30) (N := (some 35)) #[true, true, true, true, true, true, true, true, true, true, true, true, true, true, true, true, true, true, true, true, true, true, true, true, true, true, true, true, true, true, true, false, false] rfl rfl (by kernel_rfl) (by decide) (fun K hK => ?_)
 go_simp
 refine hK.out _ _ (Gw.alloc hHeld _) (fun hHeld => ?_)
 clear hK K
 (try simp only [Act.put, List.setIfInBounds_toArray, List.set_cons_zero, List.set_cons_succ])
 refine one_ (i := 31) (N := (some 36)) #[true, true, true, true, true, true, true, true, true, true, true, true, true, true, true, true, true, true, true, true, true, true, true, true, true, true, true, true, true, true, true, true, false] rfl rfl (by kernel_rfl) (by decide) (fun K hK => ?_)
 have hor := or_any (lit_C w9 [ci x.f0 y.f0, cs x.f1 y.f1, cl cr x.f2 y.f2, ci x.f3 y.f3, ci x.f4 y.f4, cl cF x.f5 y.f5]) (c := 6) (Nat.le_refl _) (by simp)
 go_simp
 refine hor.mono ?_
 rintro e w10 ⟨rfl, hb10⟩
 refine hK.out _ _ (Gw.trans hHeld hb10) (fun hHeld => ?_)
 clear hK K
 (try simp only [Act.put, List.setIfInBounds_toArray, List.set_cons_zero, List.set_cons_succ])
 refine pure_ (i := 32) (N := (some 4)) (v := ?_) (a' := ?_) #[true, true, true, true, true, true, true, true, true, true, true, true, true, true, true, true, true, true, true, true, true, true, true, true, true, true, true, true, true, true, true, true, true] rfl rfl (by kernel_rfl) (fun _ _ _ h => h) (Or.inl ⟨by rfl, ?_⟩) ?_ ?_
 rotate_left
 ·intro w'
  go_simp
  with_reducible rfl
 rotate_left
 ·simp only [Act.put, List.setIfInBounds_toArray, List.set_cons_zero, List.set_cons_succ]
  rfl
 refine done_ (by kernel_rfl) ?_
 have HS := Lib.hid hHeld
 clear hHeld
 go_wp2
 go_ret
 refine ⟨?_, Gw.trans HB.out HS.out⟩
 simp only [List.foldr, oi_zero]
 rfl
theorem cmp_all : ∀ n, CmpTo n
 | 0 => fun x y h => absurd h (Nat.not_lt_zero _)
 | n + 1 => cmp_step (cmp_all n)
/-- formula.Compare -/
theorem cmp_any {w : World} {x y : S32} {cs ds : List Value} (hx : k32.K w x cs) (hy : k32.K w y ds) : Calls Tryz.prog 50 #[.agg cs.toArray, .agg ds.toArray] w fun e w' => e = .returned (.int .i64 (cF x y)) ∧ Gw w w' :=
 cmp_all _ x y (Nat.lt_succ_self _) w cs ds hx hy
open Go.RowKit Go.Proofs.YtbahnpdgaoedmaaGreatDoor.PMemoryExact
theorem cF_refl (x : S32) : cF x x = 0 := lin_cF.refl trivial
theorem le_tr (x y z : S32) (h : cF x y ≤ 0) (k : cF y z ≤ 0) : cF x z ≤ 0 := by
 by_cases h0 : cF x y = 0
 ·rw [lin_cF.eq x y trivial trivial h0]; exact k
 ·by_cases k0 : cF y z = 0
  ·rw [← lin_cF.eq y z trivial trivial k0]; exact h
  ·have := lin_cF.tr x y z trivial trivial trivial (by omega) (by omega)
   omega
theorem le_total' (x y : S32) : cF x y ≤ 0 ∨ cF y x ≤ 0 := by
 have := lin_cF.neg x y trivial trivial
 omega
theorem le_anti (x y : S32) (h : cF x y ≤ 0) (k : cF y x ≤ 0) : x = y := by
 have := lin_cF.neg x y trivial trivial
 exact lin_cF.eq x y trivial trivial (by omega)
theorem srt_sorted (l : List S32) : (srt l).Pairwise (fun x y => cF x y ≤ 0) := by
 have := List.pairwise_mergeSort (le := fun x y : S32 => decide (cF x y ≤ 0)) (fun a b c h k => by
  simp only [decide_eq_true_eq] at *
  exact le_tr a b c h k) (fun a b => by
  simp only [Bool.or_eq_true, decide_eq_true_eq]
  exact le_total' a b) l
 unfold srt
 exact this.imp (fun h => by simpa using h)
theorem srt_perm (l : List S32) : (srt l).Perm l := List.mergeSort_perm _ _
theorem sorted_unique : ∀ {a b : List S32}, a.Perm b → a.Pairwise (fun x y => cF x y ≤ 0) → b.Pairwise (fun x y => cF x y ≤ 0) → a = b
 | [], b, hp, _, _ => (List.Perm.nil_eq hp)
 | x :: a, [], hp, _, _ => absurd hp.length_eq (by simp)
 | x :: a, y :: b, hp, ha, hb => by
  have hxy : x = y := by
   have h1 : cF x y ≤ 0 := by
    rcases List.mem_cons.1 (hp.mem_iff.2 (List.mem_cons_self (a := y) (l := b))) with e | e
    ·rw [e, cF_refl]; omega
    ·exact (List.pairwise_cons.1 ha).1 y e
   have h2 : cF y x ≤ 0 := by
    rcases List.mem_cons.1 (hp.mem_iff.1 (List.mem_cons_self (a := x) (l := a))) with e | e
    ·rw [e, cF_refl]; omega
    ·exact (List.pairwise_cons.1 hb).1 x e
   exact le_anti x y h1 h2
  subst hxy
  rw [sorted_unique (List.perm_cons x |>.1 hp) (List.pairwise_cons.1 ha).2 (List.pairwise_cons.1 hb).2]
theorem srt_is {l l' : List S32} (hp : l'.Perm l) (hs : l'.Pairwise (fun x y => cF x y ≤ 0)) : l' = srt l := sorted_unique (hp.trans (srt_perm l).symm) hs (srt_sorted l)
set_option maxRecDepth 1000000 in
set_option maxHeartbeats 4000000 in
theorem eq_any {w : World} {x y : S32} {cs ds : List Value} (hx : k32.K w x cs) (hy : k32.K w y ds) : Calls Tryz.prog 102 #[.agg cs.toArray, .agg ds.toArray] w fun e w' => e = .returned (.bool (cF x y == 0)) ∧ Gw w w' := by
 have HX := Lib.hid hx
 have HY := Lib.hid hy
 obtain ⟨A2, c2, A5, c5, rfl, l2, g2, l5, g5⟩ := k32_open hx
 obtain ⟨B2, d2, B5, d5, rfl, m2, r2, m5, r5⟩ := k32_open hy
 clear hx hy g2 g5 r2 r5
 have h2 := two_box w #[.int .i64 x.f0, .string x.f1, .slice A2 x.f2.length c2, .int .i64 x.f3, .int .i64 x.f4, .slice A5 x.f5.length c5] #[.int .i64 y.f0, .string y.f1, .slice B2 y.f2.length d2, .int .i64 y.f3, .int .i64 y.f4, .slice B5 y.f5.length d5] 32
 have HG := Lib.hid h2.2.2
 clear h2
 go_enter Tryz.func102, Tryz.ntmps102
 go_wp2_with fail
 refine (cmp_any (k32.K_below HG.out.1 HX.out) (k32.K_below HG.out.1 HY.out)).mono ?_
 rintro e w3 ⟨rfl, hg3⟩
 have HG3 := Lib.hid (Gw.trans HG.out hg3)
 clear hg3
 obtain ⟨r, hr⟩ : ∃ r, cF x y = r := ⟨_, rfl⟩
 have HR := Lib.hid hr
 rw [hr]
 clear hr
 go_wp2
 go_ret
 exact ⟨by rw [HR.out]; rfl, HG3.out⟩
/-- A closed world of growth: what the sort asks of its comparison. -/
theorem Gw.grow {w w' : World} (h : Gw w w') : ∃ q os, w' = { w.drewN q with heap := (w.drewN q).heap ++ os } := by
 obtain ⟨⟨ho, ht, hp, hs, hb⟩, hd⟩ := h
 refine ⟨w'.drawn - w.drawn, w'.heap.extract w.heap.size w'.heap.size, ?_⟩
 obtain ⟨h', t', d', o', p'⟩ := w'
 obtain ⟨h0, t0, d0, o0, p0⟩ := w
 simp only at ho ht hp hs hb hd
 subst ho ht hp
 simp only [World.drewN]
 congr 1
 ·apply Array.ext
  ·simp; omega
  ·intro i h1 h2
   by_cases hi : i < h0.size
   ·have := hb i hi
    rw [Array.getElem?_eq_getElem h1, Array.getElem?_eq_getElem hi] at this
    rw [Array.getElem_append_left hi]
    exact Option.some.inj this
   ·rw [Array.getElem_append_right (by omega)]
    simp
    congr 1
    omega
 ·omega
end Go.Proofs.YtbahnpdgaoedmaaGreatDoor.Mm
namespace Go.Proofs
open Go.Shelf
def Tryz.sortF_ren : Go.Shelf.Ren := ⟨fun | 6 => 100 | 15 => 113 | 14 => 112 | 28 => 131 | 29 => 132 | 20 => 123 | 21 => 124 | 22 => 125 | 23 => 126 | 24 => 127 | 25 => 128 | 26 => 129 | 27 => 130 | 46 => 141 | 47 => 142 | 48 => 143 | 49 => 144 | 50 => 145 | 57 => 150 | n => n, fun | 22 => 30 | 24 => 32 | 25 => 93 | 3 => 3 | 39 => 137 | 0 => 0 | 53 => 151 | 55 => 153 | 4 => 4 | 46 => 144 | 45 => 143 | 50 => 148 | 5 => 5 | 9 => 9 | 66 => 159 | 70 => 163 | 76 => 168 | 77 => 169 | n => n, fun | n => n⟩
theorem Tryz.sortF : Go.Proofs.SlLaysF0.n6 Tryz.prog Tryz.sortF_ren := {
 mixed := by kernel_rfl
 f6 := ⟨Tryz.f100.name, by decide, Tryz.func100.trans (congrArg some (by kernel_rfl))⟩
 f14 := ⟨Tryz.f112.name, by decide, Tryz.func112.trans (congrArg some (by kernel_rfl))⟩
 f15 := Tryz.func113.trans (congrArg some (by kernel_rfl))
 f20 := ⟨Tryz.f123.name, by decide, Tryz.func123.trans (congrArg some (by kernel_rfl))⟩
 f21 := ⟨Tryz.f124.name, by decide, Tryz.func124.trans (congrArg some (by kernel_rfl))⟩
 f22 := ⟨Tryz.f125.name, by decide, Tryz.func125.trans (congrArg some (by kernel_rfl))⟩
 f23 := ⟨Tryz.f126.name, by decide, Tryz.func126.trans (congrArg some (by kernel_rfl))⟩
 f24 := ⟨Tryz.f127.name, by decide, Tryz.func127.trans (congrArg some (by kernel_rfl))⟩
 f25 := ⟨Tryz.f128.name, by decide, Tryz.func128.trans (congrArg some (by kernel_rfl))⟩
 f26 := ⟨Tryz.f129.name, by decide, Tryz.func129.trans (congrArg some (by kernel_rfl))⟩
 f27 := ⟨Tryz.f130.name, by decide, Tryz.func130.trans (congrArg some (by kernel_rfl))⟩
 f28 := Tryz.func131.trans (congrArg some (by kernel_rfl))
 f29 := Tryz.func132.trans (congrArg some (by kernel_rfl))
 f46 := ⟨Tryz.f141.name, by decide, Tryz.func141.trans (congrArg some (by kernel_rfl))⟩
 f47 := Tryz.func142.trans (congrArg some (by kernel_rfl))
 f48 := Tryz.func143.trans (congrArg some (by kernel_rfl))
 f49 := ⟨Tryz.f144.name, by decide, Tryz.func144.trans (congrArg some (by kernel_rfl))⟩
 f50 := ⟨Tryz.f145.name, by decide, Tryz.func145.trans (congrArg some (by kernel_rfl))⟩
 f57 := ⟨Tryz.f150.name, by decide, Tryz.func150.trans (congrArg some (by kernel_rfl))⟩
 t0 := Tryz.underlying0
 a0 := Tryz.isAgg0
 z0 := Tryz.sizeOf0
 v0 := Tryz.zeroValue0
 t3 := Tryz.underlying3
 a3 := Tryz.isAgg3
 z3 := Tryz.sizeOf3
 v3 := Tryz.zeroValue3
 t4 := Tryz.underlying4
 a4 := Tryz.isAgg4
 z4 := Tryz.sizeOf4
 v4 := Tryz.zeroValue4
 t5 := Tryz.underlying5
 a5 := Tryz.isAgg5
 z5 := Tryz.sizeOf5
 v5 := Tryz.zeroValue5
 t9 := Tryz.underlying9
 a9 := Tryz.isAgg9
 z9 := Tryz.sizeOf9
 v9 := Tryz.zeroValue9
 t22 := Tryz.underlying30
 a22 := Tryz.isAgg30
 z22 := Tryz.sizeOf30
 v22 := Tryz.zeroValue30
 t25 := Tryz.underlying93
 a25 := Tryz.isAgg93
 z25 := Tryz.sizeOf93
 v25 := Tryz.zeroValue93
 t39 := Tryz.underlying137
 a39 := Tryz.isAgg137
 z39 := Tryz.sizeOf137
 v39 := Tryz.zeroValue137
 t45 := Tryz.underlying143
 a45 := Tryz.isAgg143
 z45 := Tryz.sizeOf143
 v45 := Tryz.zeroValue143
 t46 := Tryz.underlying144
 a46 := Tryz.isAgg144
 z46 := Tryz.sizeOf144
 v46 := Tryz.zeroValue144
 t50 := Tryz.underlying148
 a50 := Tryz.isAgg148
 z50 := Tryz.sizeOf148
 v50 := Tryz.zeroValue148
 t53 := Tryz.underlying151
 a53 := Tryz.isAgg151
 z53 := Tryz.sizeOf151
 v53 := Tryz.zeroValue151
 t55 := Tryz.underlying153
 a55 := Tryz.isAgg153
 z55 := Tryz.sizeOf153
 v55 := Tryz.zeroValue153
 t66 := Tryz.underlying159
 a66 := Tryz.isAgg159
 z66 := Tryz.sizeOf159
 v66 := Tryz.zeroValue159
 t70 := Tryz.underlying163
 a70 := Tryz.isAgg163
 z70 := Tryz.sizeOf163
 v70 := Tryz.zeroValue163
 t76 := Tryz.underlying168
 a76 := Tryz.isAgg168
 z76 := Tryz.sizeOf168
 v76 := Tryz.zeroValue168
 t77 := Tryz.underlying169
 a77 := Tryz.isAgg169
 z77 := Tryz.sizeOf169
 v77 := Tryz.zeroValue169 }
end Go.Proofs
namespace Go.Proofs.YtbahnpdgaoedmaaGreatDoor.Mm
open Go.RowKit Go.Shelf Go.Sort Go.Proofs.YtbahnpdgaoedmaaGreatDoorW.PrintWords Go.Proofs.YtbahnpdgaoedmaaGreatDoorW.PrintLast Go.Proofs.YtbahnpdgaoedmaaGreatDoorW.PrintMore Go.Proofs.YtbahnpdgaoedmaaGreatDoor.PMemoryExact
set_option linter.unusedSimpArgs false
set_option linter.unusedVariables false
/-- Formulas with their cells, in block g; what they lead to lies elsewhere. -/
structure RowAt (w : World) (g : Nat) (s : Nat → Prop) (cap : Nat) (ps : List (S32 × List Value)) : Prop where
 blk : ∃ cur, w.heap[g]? = some (.cells cur 32 (0, 0)) ∧ cur.size = cap * 6
 le : ps.length ≤ cap
 max : cap ≤ 9223372036854775807
 ng : ∀ k, s k → k ≠ g
 fk : ∀ p ∈ ps, Kd.FK k32 w s p.1 p.2
 cell : ∀ (i : Nat) (h : i < ps.length) (j : Nat) (u : Value), ps[i].2[j]? = some u → w.cell? ⟨g, i * 6 + j, none⟩ = some u
abbrev El (w : World) (s : Nat → Prop) := {p : S32 × List Value // Kd.FK k32 w s p.1 p.2}
instance el_inh (w : World) (s : Nat → Prop) : Inhabited (El w s) :=
 ⟨⟨(z32, [.int .i64 z32.f0, .string z32.f1, .slice none z32.f2.length 0, .int .i64 z32.f3, .int .i64 z32.f4, .slice none z32.f5.length 0]), k32_mkF w _ z32 (Nat.le_refl _) (Kd.F_nil k84 w _) (Nat.le_refl _) (Kd.F_nil k32 w _)⟩⟩
def encE {w : World} {s : Nat → Prop} (x : El w s) : List Value := x.1.2
def cfE {w : World} {s : Nat → Prop} (x y : El w s) : Int := cF x.1.1 y.1.1
theorem enc6 {w : World} {s : Nat → Prop} (x : El w s) : (encE x).length = 6 := k32.K_len (Kd.FK_now x.2)
theorem swoE (w : World) (s : Nat → Prop) : SWO (ltOf (cfE (w := w) (s := s))) where
 irrefl x := decide_eq_false (by show ¬ cF x.1.1 x.1.1 < 0; rw [cF_refl]; omega)
 trans x y z h k := by
  have h1 : cF x.1.1 y.1.1 < 0 := of_decide_eq_true h
  have h2 : cF y.1.1 z.1.1 < 0 := of_decide_eq_true k
  exact decide_eq_true (lin_cF.tr _ _ _ trivial trivial trivial h1 h2)
 ntrans x y z h k := by
  have k1 : ¬ cF x.1.1 y.1.1 < 0 := of_decide_eq_false h
  have k2 : ¬ cF y.1.1 z.1.1 < 0 := of_decide_eq_false k
  have h1 := lin_cF.neg x.1.1 y.1.1 trivial trivial
  have h2 := lin_cF.neg y.1.1 z.1.1 trivial trivial
  have h3 := lin_cF.neg x.1.1 z.1.1 trivial trivial
  have := le_tr z.1.1 y.1.1 x.1.1 (by omega) (by omega)
  exact decide_eq_false (by show ¬ cF x.1.1 z.1.1 < 0; omega)
theorem heap_map (w : World) (g k : Nat) (f : Array Value → Array Value) (h : k ≠ g) : (mapBlock w g f).heap[k]? = w.heap[k]? := by
 unfold mapBlock
 simp only [Array.getElem?_modify]
 rw [if_neg (fun e => h e.symm)]
theorem heap_sw {α : Type} [Inhabited α] (enc : α → List Value) (w : World) (g m : Nat) (d : Array α) (os : Array Obj) (k : Nat) (h : k ≠ g) (hk : k < w.heap.size) : (sortWorldK enc 6 w g 0 m d os).heap[k]? = w.heap[k]? := by
 unfold sortWorldK grow putRowK putRow
 show ((mapBlock (Sort.ahead w m) g _).heap ++ os)[k]? = _
 have hs : (mapBlock (Sort.ahead w m) g (putCells id 0 (flatK enc 6 d))).heap.size = w.heap.size := by simp [mapBlock, Sort.ahead]
 rw [Array.getElem?_append_left (by rw [hs]; exact hk), heap_map _ _ _ _ h]
 rfl
theorem cmpE (w : World) (g : Nat) (s : Nat → Prop) (hg : ∀ k, s k → k ≠ g) (size : Nat) : CmpLays Tryz.prog 50 #[] (encE (w := w) (s := s)) 6 cfE g 0 size w := by
 intro m os dk _ x y
 have hx := x.2 _ (fun k hk hlt => heap_sw encE w g m dk os k (hg k hk) hlt)
 have hy := y.2 _ (fun k hk hlt => heap_sw encE w g m dk os k (hg k hk) hlt)
 refine (cmp_any hx hy).mono ?_
 rintro e w' ⟨rfl, hg⟩
 obtain ⟨q, os', h⟩ := hg.grow
 exact ⟨rfl, q, os', h⟩
theorem sort_any {w : World} {g cap : Nat} {s : Nat → Prop} {ps : List (S32 × List Value)} (h : RowAt w g s cap ps) (hsz : ps.length < 4611686018427387904) :
  Calls Tryz.prog 100 #[.slice (some ⟨g, 0, none⟩) ps.length cap, .func (.func 50) #[] #[]] w fun e w' => e = .returned (.tuple #[]) ∧ ∃ ps', RowAt w' g s cap ps' ∧ ps'.map (·.1) = srt (ps.map (·.1)) ∧ w.grownBy w' (some g) ∧ w.drawn ≤ w'.drawn := by
 obtain ⟨d, hd⟩ : ∃ d : Array (El w s), d.toList.map (·.1) = ps := ⟨(ps.attachWith _ h.fk).toArray, by simp only [List.toList_toArray]; exact List.attachWith_map_subtype_val _⟩
 have hds : d.size = ps.length := by rw [← hd]; simp
 obtain ⟨cur, hcur, hcs⟩ := h.blk
 have hlt : g < w.heap.size := blk_lt hcur
 have hget : ∀ i (hi : i < d.size), d[i]!.1 = ps[i]'(by omega) := by
  intro i hi
  rw [getElem!_pos d i hi]
  simp only [← hd]
  simp
 have hH : HoldsK encE 6 w g 0 d := by
  intro t ht
  rw [size_flatK] at ht
  have hi : t / 6 < d.size := by omega
  refine ⟨?_, blk_frozen hcur _⟩
  rw [get_flatK _ _ _ _ ht]
  have hlen := enc6 d[t / 6]!
  have hj : t % 6 < (encE d[t / 6]!).length := by rw [hlen]; omega
  have := h.cell (t / 6) (by omega) (t % 6) ((encE d[t / 6]!)[t % 6]!) (by
   rw [← hget _ hi]
   rw [getElem!_pos (encE d[t / 6]!) _ hj]
   exact List.getElem?_eq_getElem hj)
  rw [show t / 6 * 6 + t % 6 = 0 + t by omega] at this
  exact this
 have eg : ∀ args w, (callFunc 50 args).run Tryz.prog w = .ok (.enter 50 args) w := enters_of Tryz.func50 (by kernel_rfl) rfl
 have hcon := AnyQ.slices_SortFunc Tryz.sortF 6 Tryz.isAgg32 Tryz.sizeOf32 (encE (w := w) (s := s)) enc6 (fun x v hv => k32.K_one (Kd.FK_now x.2) v hv) cfE (swoE w s) 50 #[] g 0 cap d w eg (cmpE w g s h.ng d.size) hH hlt (by omega)
 rw [hds] at hcon
 refine hcon.mono ?_
 rintro e w' ⟨rfl, d', n, os, hp, hs, rfl⟩
 obtain ⟨hp1, _, hp3⟩ := hp
 refine ⟨rfl, d'.toList.map (·.1), ?_, ?_, ?_, ?_⟩
 ·-- the row
  have hHW : HoldsK encE 6 (sortWorldK encE 6 w g 0 n d' os) g 0 d' := by
   unfold sortWorldK
   apply holdsK_grow
   ·show g < (mapBlock (Sort.ahead w n) g (putCells id 0 (flatK encE 6 d'))).heap.size
    simp only [mapBlock, Sort.ahead, Array.size_modify]
    exact hlt
   ·exact holds_putRow id (Sort.ahead w n) g 0 (flatK encE 6 d) (flatK encE 6 d') hH (by simp [hp1])
  refine ⟨⟨putCells id 0 (flatK encE 6 d') cur, ?_, ?_⟩, ?_, h.max, h.ng, ?_, ?_⟩
  ·show ((mapBlock (Sort.ahead w n) g _).heap ++ os)[g]? = _
   have hs2 : (mapBlock (Sort.ahead w n) g (putCells id 0 (flatK encE 6 d'))).heap.size = w.heap.size := by simp [mapBlock, Sort.ahead]
   rw [Array.getElem?_append_left (by rw [hs2]; exact hlt)]
   unfold mapBlock
   simp only [Array.getElem?_modify, if_true]
   rw [show (Sort.ahead w n).heap[g]? = some (.cells cur 32 (0, 0)) from hcur]
   rfl
  ·simp [putCells, hcs]
  ·rw [List.length_map, Array.length_toList, hp1, hds]; exact h.le
  ·intro p hp
   obtain ⟨x, _, rfl⟩ := List.mem_map.1 hp
   exact Kd.FK_step x.2 (fun k hk hlt2 => heap_sw encE w g n d' os k (h.ng k hk) hlt2)
  ·intro i hi j u hu
   rw [List.length_map, Array.length_toList] at hi
   have hge : (d'.toList.map (·.1))[i]'(by simpa using hi) = (d'[i]!).1 := by
    rw [getElem!_pos d' i hi]
    simp
   rw [hge] at hu
   have hj : j < (encE d'[i]!).length := (List.getElem?_eq_some_iff.1 hu).1
   have hl6 := enc6 d'[i]!
   have ht : i * 6 + j < (flatK encE 6 d').size := by rw [size_flatK]; omega
   have hc := (hHW (i * 6 + j) ht).1
   rw [get_flatK _ _ _ _ (by rw [size_flatK] at ht; exact ht), show (i * 6 + j) / 6 = i by omega, show (i * 6 + j) % 6 = j by omega, Nat.zero_add, getElem!_pos (encE d'[i]!) j hj] at hc
   rw [hc]
   have := List.getElem?_eq_getElem hj
   rw [show (encE d'[i]!)[j]? = some u from hu] at this
   exact this.symm
 ·-- sorted
  have hext : ∀ (a : Array (El w s)) (k : Nat), a.size = k → (a.extract 0 k).toList = a.toList := by
   intro a k hk
   subst hk
   simp
  rw [hext d' _ (by rw [hp1, hds]), hext d _ hds] at hp3
  refine srt_is ?_ ?_
  ·have := (hp3.map (fun x : El w s => x.1)).map (fun p : S32 × List Value => p.1)
   rw [hd] at this
   exact this
  ·rw [List.pairwise_map, List.pairwise_map, List.pairwise_iff_getElem]
   intro i j hi hj hij
   rw [Array.length_toList] at hi hj
   have := of_decide_eq_false (hs i j (Nat.zero_le _) hij (by omega))
   have h1 : ¬ cF (d'[j]!).1.1 (d'[i]!).1.1 < 0 := this
   rw [getElem!_pos d' i hi, getElem!_pos d' j hj] at h1
   have := lin_cF.neg (d'[i]).1.1 (d'[j]).1.1 trivial trivial
   simp only [Array.getElem_toList]
   omega
 ·refine ⟨rfl, rfl, rfl, ?_, fun k hk hne => heap_sw encE w g n d' os k (fun e => hne (by rw [e])) hk⟩
  show w.heap.size ≤ ((mapBlock (Sort.ahead w n) g _).heap ++ os).size
  simp [mapBlock, Sort.ahead]
 ·show w.drawn ≤ w.drawn + n
  omega
open Go.RowKit Go.Proofs.YtbahnpdgaoedmaaGreatDoorW.PrintWords Go.Proofs.YtbahnpdgaoedmaaGreatDoorW.PrintLast Go.Proofs.YtbahnpdgaoedmaaGreatDoorW.PrintMore Go.Proofs.YtbahnpdgaoedmaaGreatDoor.PMemoryExact
theorem cF_eq {x y : S32} (h : cF x y = 0) : x = y := lin_cF.eq x y trivial trivial h
theorem dedup_two (x y : S32) (r : List S32) : dedup (x :: y :: r) = if cF y x = 0 then dedup (x :: r) else x :: dedup (y :: r) := by rw [dedup]
/-- One more at the end. -/
theorem dedup_snoc : ∀ (n : Nat) (l : List S32) (y x : S32), l.length = n → dedup (l ++ [y] ++ [x]) = if cF x y = 0 then dedup (l ++ [y]) else dedup (l ++ [y]) ++ [x]
 | 0, l, y, x, hl => by
  have : l = [] := List.eq_nil_of_length_eq_zero hl
  subst this
  simp only [List.nil_append, List.singleton_append]
  rw [dedup_two]
  split <;> simp [dedup]
 | n + 1, [], y, x, hl => by simp at hl
 | n + 1, [z], y, x, hl => by
  simp only [List.cons_append, List.nil_append]
  rw [dedup_two z y [x], dedup_two z y []]
  by_cases h : cF y z = 0
  ·rw [if_pos h, if_pos h, dedup_two z x []]
   rw [cF_eq h]
   split <;> simp [dedup]
  ·rw [if_neg h, if_neg h, dedup_two y x []]
   split <;> simp [dedup]
 | n + 1, z :: u :: l, y, x, hl => by
  have hl1 : (u :: l).length = n := by simpa using hl
  simp only [List.cons_append]
  rw [dedup_two z u, dedup_two z u]
  by_cases h : cF u z = 0
  ·rw [if_pos h, if_pos h]
   have := dedup_snoc n (z :: l) y x (by simpa using hl)
   simpa using this
  ·rw [if_neg h, if_neg h]
   have := dedup_snoc n (u :: l) y x hl1
   simp only [List.cons_append] at this
   rw [this]
   split <;> simp
theorem dedup_take {l : List S32} {k : Nat} (h0 : 0 < k) (hk : k < l.length) : dedup (l.take (k + 1)) = if cF l[k] l[k - 1] = 0 then dedup (l.take k) else dedup (l.take k) ++ [l[k]] := by
 obtain ⟨j, rfl⟩ : ∃ j, k = j + 1 := ⟨k - 1, by omega⟩
 rw [List.take_succ_eq_append_getElem hk, List.take_succ_eq_append_getElem (show j < l.length by omega)]
 exact dedup_snoc _ (l.take j) l[j] l[j + 1] rfl
theorem dedup_one (l : List S32) (h : l.length < 2) : dedup l = l := by
 match l, h with
 | [], _ => simp [dedup]
 | [x], _ => simp [dedup]
/-- Where no two beside each other are equal, nothing goes. -/
theorem dedup_same {l : List S32} (h : ∀ i (h0 : 0 < i) (hi : i < l.length), cF l[i] l[i - 1] ≠ 0) : ∀ k, k ≤ l.length → dedup (l.take k) = l.take k
 | 0, _ => by simp [dedup]
 | 1, hk => dedup_one _ (by rw [List.length_take]; omega)
 | k + 2, hk => by
  rw [dedup_take (by omega) (by omega), if_neg (h (k + 1) (by omega) (by omega)), dedup_same h (k + 1) (by omega), ← List.take_succ_eq_append_getElem (by omega)]
/-- A row told with its cells is a row of N. -/
theorem RowAt.N {w : World} {g cap : Nat} {s : Nat → Prop} {ps : List (S32 × List Value)} (h : RowAt w g s cap ps) : Kd.C k32 w (some ⟨g, 0, none⟩) ps.length (ps.map (·.1)) := by
 refine ⟨by simp, Nat.le_trans h.le h.max, fun _ => ⟨⟨g, 0, none⟩, rfl, fun j p hj => ?_⟩⟩
 rw [List.getElem?_map, Option.map_eq_some_iff] at hj
 obtain ⟨q, hq, rfl⟩ := hj
 obtain ⟨hlt, rfl⟩ := List.getElem?_eq_some_iff.1 hq
 have hK := Kd.FK_now (h.fk _ (List.getElem_mem hlt))
 refine ⟨ps[j].2, k32.K_len hK, hK, fun i u hu => ?_⟩
 rw [add_plain]
 exact h.cell j hlt i u hu
theorem cell_sets {w : World} {g o : Nat} {vs : List Value} {cur : Array Value} (h : w.heap[g]? = some (.cells cur 32 (0, 0))) (hl : o + vs.length ≤ cur.size) (t : Nat) :
  (w.setCells g o vs).cell? ⟨g, t, none⟩ = if t < o then w.cell? ⟨g, t, none⟩ else if t < o + vs.length then vs[t - o]? else w.cell? ⟨g, t, none⟩ := by
 obtain ⟨cur', h3, h4, h5⟩ := setCells_row vs o w cur h hl
 rw [blk_cell h3 t, blk_cell h t]
 rw [← Array.getElem?_toList, ← Array.getElem?_toList, h5]
 have ho : (cur.toList.take o).length = o := by rw [List.length_take, Array.length_toList]; omega
 by_cases h1 : t < o
 ·rw [if_pos h1, List.append_assoc, List.getElem?_append_left (by rw [ho]; exact h1), List.getElem?_take_of_lt h1]
 ·rw [if_neg h1]
  by_cases h2 : t < o + vs.length
  ·rw [if_pos h2, List.append_assoc, List.getElem?_append_right (by rw [ho]; omega), ho, List.getElem?_append_left (by omega)]
  ·rw [if_neg h2, List.getElem?_append_right (by rw [List.length_append, ho]; omega), List.length_append, ho, List.getElem?_drop]
   congr 1
   omega
theorem sets_blk {w : World} {g o : Nat} {vs : List Value} {cur : Array Value} (h : w.heap[g]? = some (.cells cur 32 (0, 0))) (hl : o + vs.length ≤ cur.size) : ∃ cur', (w.setCells g o vs).heap[g]? = some (.cells cur' 32 (0, 0)) ∧ cur'.size = cur.size := by
 obtain ⟨cur', h3, h4, _⟩ := setCells_row vs o w cur h hl
 exact ⟨cur', h3, h4⟩
theorem sets_grown (w : World) (g o : Nat) (vs : List Value) : w.grownBy (w.setCells g o vs) (some g) := by
 obtain ⟨h1, h2, h3, h4⟩ := setCells_same g vs o w
 exact ⟨h1, h2, h3, by rw [h4]; exact Nat.le_refl _, fun k hk hne => setCells_far vs o k (fun e => hne (by rw [e]))⟩
theorem sets_drawn (g : Nat) : ∀ (vs : List Value) (o : Nat) (w : World), (w.setCells g o vs).drawn = w.drawn
 | [], _, _ => rfl
 | v :: r, o, w => by rw [World.setCells, sets_drawn g r]; rfl
theorem fk_sets {w : World} {g o : Nat} {s : Nat → Prop} {vs : List Value} {x : S32} {c : List Value} (hg : ∀ k, s k → k ≠ g) (h : Kd.FK k32 w s x c) : Kd.FK k32 (w.setCells g o vs) s x c := Kd.FK_step h (fun k hk _ => setCells_far vs o k (hg k hk))
/-- One element is stored. -/
theorem RowAt.store {w : World} {g cap : Nat} {s : Nat → Prop} {qs : List (S32 × List Value)} (h : RowAt w g s cap qs) {i : Nat} (hi : i < qs.length) {p : S32 × List Value} (hp : Kd.FK k32 w s p.1 p.2) : RowAt (w.setCells g (i * 6) p.2) g s cap (qs.set i p) := by
 obtain ⟨cur, hc, hs⟩ := h.blk
 have hl6 : p.2.length = 6 := k32.K_len (Kd.FK_now hp)
 have hle := h.le
 have hfit : i * 6 + p.2.length ≤ cur.size := by rw [hl6, hs]; omega
 obtain ⟨cur', hb', hs'⟩ := sets_blk hc hfit
 refine ⟨⟨cur', hb', by rw [hs', hs]⟩, by rw [List.length_set]; exact hle, h.max, h.ng, fun q hq => ?_, fun j hj t u hu => ?_⟩
 ·rcases List.mem_or_eq_of_mem_set hq with hq | rfl
  ·exact fk_sets h.ng (h.fk q hq)
  ·exact fk_sets h.ng hp
 ·rw [List.length_set] at hj
  have ht : t < 6 := by
   have h1 : ((qs.set i p)[j]'(by rw [List.length_set]; exact hj)).2.length = 6 := by
    rw [List.getElem_set]
    split
    ·exact hl6
    ·exact k32.K_len (Kd.FK_now (h.fk _ (List.getElem_mem hj)))
   have := (List.getElem?_eq_some_iff.1 hu).1
   omega
  rw [cell_sets hc hfit]
  rw [List.getElem_set] at hu
  by_cases e : i = j
  ·subst e
   rw [if_pos rfl] at hu
   rw [if_neg (by omega), if_pos (by omega), show i * 6 + t - i * 6 = t by omega]
   exact hu
  ·rw [if_neg e] at hu
   have hcell := h.cell j hj t u hu
   by_cases h1 : j * 6 + t < i * 6
   ·rw [if_pos h1]; exact hcell
   ·rw [if_neg h1, if_neg (by omega)]; exact hcell
/-- What stands behind the first kk is written over. -/
theorem RowAt.cut {w : World} {g cap kk o : Nat} {s : Nat → Prop} {qs : List (S32 × List Value)} {vs : List Value} (h : RowAt w g s cap qs) (hk : kk ≤ qs.length) (ho : kk * 6 ≤ o) (hv : o + vs.length ≤ cap * 6) : RowAt (w.setCells g o vs) g s cap (qs.take kk) := by
 obtain ⟨cur, hc, hs⟩ := h.blk
 have hfit : o + vs.length ≤ cur.size := by rw [hs]; exact hv
 obtain ⟨cur', hb', hs'⟩ := sets_blk hc hfit
 have hlen : (qs.take kk).length = kk := by rw [List.length_take]; omega
 refine ⟨⟨cur', hb', by rw [hs', hs]⟩, by rw [hlen]; exact Nat.le_trans hk h.le, h.max, h.ng, fun q hq => fk_sets h.ng (h.fk q (List.mem_of_mem_take hq)), fun j hj t u hu => ?_⟩
 rw [hlen] at hj
 rw [List.getElem_take] at hu
 have h1 : qs[j].2.length = 6 := k32.K_len (Kd.FK_now (h.fk _ (List.getElem_mem (by omega))))
 have ht := (List.getElem?_eq_some_iff.1 hu).1
 rw [cell_sets hc hfit, if_pos (by omega)]
 exact h.cell j (by omega) t u hu
theorem run_clear {w : World} {g o n c : Nat} {cur : Array Value} (hn : 0 < n) (h : w.heap[g]? = some (.cells cur 32 (0, 0))) (hl : o + n * 6 ≤ cur.size) : ∃ vs : List Value, vs.length = n * 6 ∧ (Builtin.clear_ #[30] 0 #[.slice (some ⟨g, o, none⟩) n c]).run Tryz.prog w = .ok (.tuple #[]) (w.setCells g o vs) := by
 have hlen : (Builtin.zeroCells (Value.agg #[.int .i64 0, .string ⟨#[]⟩, .slice none 0 0, .int .i64 0, .int .i64 0, .slice none 0 0]).cells n).toList.length = n * 6 := by
  simp [Builtin.zeroCells, Value.cells]
 have hst := run_storeCells_cells (P := Tryz.prog) g o (Builtin.zeroCells (Value.agg #[.int .i64 0, .string ⟨#[]⟩, .slice none 0 0, .int .i64 0, .int .i64 0, .slice none 0 0]).cells n).toList 0 w
  (fun j hj => by
   rw [hlen] at hj
   rw [blk_cell h]
   simp
   omega) (fun j _ => blk_frozen h _) (by
   intro v hv
   rw [Array.mem_toList_iff] at hv
   simp only [Builtin.zeroCells, Value.cells] at hv
   obtain ⟨i, hi, rfl⟩ := Array.mem_iff_getElem.1 hv
   have h6 : i % 6 = 0 ∨ i % 6 = 1 ∨ i % 6 = 2 ∨ i % 6 = 3 ∨ i % 6 = 4 ∨ i % 6 = 5 := by omega
   simp only [Array.getElem_map, Array.getElem_range, Array.getElem_ofFn]
   rcases h6 with e | e | e | e | e | e <;> simp [e, Value.oneCell'])
 refine ⟨_, hlen, ?_⟩
 obtain ⟨m, rfl⟩ : ∃ m, n = m + 1 := ⟨n - 1, by omega⟩
 have hz : ∀ W : World, (zeroValue 32).run Tryz.prog W = .ok (Value.agg #[.int .i64 0, .string ⟨#[]⟩, .slice none 0 0, .int .i64 0, .int .i64 0, .slice none 0 0]) W := fun W => Tryz.zeroValue32 W
 simp only [Nat.add_zero] at hst
 simp [Builtin.clear_, run_underlying Tryz.underlying30, hz, hst]
theorem RowAt.gw {w w' : World} {g cap : Nat} {s : Nat → Prop} {ps : List (S32 × List Value)} (h : RowAt w g s cap ps) (hg : Gw w w') : RowAt w' g s cap ps := by
 obtain ⟨cur, hc, hs⟩ := h.blk
 have hlt := blk_lt hc
 refine ⟨⟨cur, (hg.1.block g hlt).trans hc, hs⟩, h.le, h.max, h.ng, fun p hp => Kd.FK_step (h.fk p hp) (fun k _ hk => hg.1.block k hk), fun i hi j u hu => ?_⟩
 have := h.cell i hi j u hu
 exact (hg.1.cell (World.block_lt_of_cell? w _ this)).trans this
theorem row_at {w : World} {g cap : Nat} {s : Nat → Prop} {ps : List (S32 × List Value)} (h : RowAt w g s cap ps) (i : Nat) (hi : i < ps.length) :
  ∃ A2 c2 A5 c5, ps[i].2 = [.int .i64 ps[i].1.f0, .string ps[i].1.f1, .slice A2 ps[i].1.f2.length c2, .int .i64 ps[i].1.f3, .int .i64 ps[i].1.f4, .slice A5 ps[i].1.f5.length c5] ∧
   w.cell? ⟨g, i * 6, none⟩ = some (.int .i64 ps[i].1.f0) ∧ w.cell? ⟨g, i * 6 + 1, none⟩ = some (.string ps[i].1.f1) ∧ w.cell? ⟨g, i * 6 + 2, none⟩ = some (.slice A2 ps[i].1.f2.length c2) ∧ w.cell? ⟨g, i * 6 + 3, none⟩ = some (.int .i64 ps[i].1.f3) ∧ w.cell? ⟨g, i * 6 + 4, none⟩ = some (.int .i64 ps[i].1.f4) ∧ w.cell? ⟨g, i * 6 + 5, none⟩ = some (.slice A5 ps[i].1.f5.length c5) := by
 obtain ⟨A2, c2, A5, c5, e, _⟩ := k32_openF (h.fk _ (List.getElem_mem hi))
 have hc := h.cell i hi
 rw [e] at hc
 exact ⟨A2, c2, A5, c5, e, hc 0 _ rfl, hc 1 _ rfl, hc 2 _ rfl, hc 3 _ rfl, hc 4 _ rfl, hc 5 _ rfl⟩
theorem w64 {n : Int} (h0 : -9223372036854775808 ≤ n) (h1 : n ≤ 9223372036854775807) : wrap64 n = n := by unfold wrap64; omega
theorem info32p : ∃ i, Tryz.prog.info? 32 = some i ∧ i.size = 6 := by
 have : (Tryz.prog.info? 32).map (fun i => i.size) = some 6 := by kernel_rfl
 obtain ⟨i, hi, hz⟩ := Option.map_eq_some_iff.1 this
 exact ⟨i, hi, hz⟩
/-- s[k:] -/
theorem cut_l (g n c k : Nat) (hk : k ≤ n) (hn : n ≤ c) (hc : k ≠ c) : ∀ W : World, (Instr.slice 30 (.slice (some ⟨g, 0, none⟩) n c) (some (.int .i64 (k : Int))) none none).run Tryz.prog W = .ok (.slice (some ⟨g, k * 6, none⟩) (n - k) (c - k)) W := by
 obtain ⟨i, hi, hsz⟩ := info32p
 have h := cut_from (P := Tryz.prog) 30 32 .i64 Tryz.underlying30 hi 6 hsz (some ⟨g, 0, none⟩) n c (k : Int) (by omega) (by omega)
 simp only [Int.toNat_natCast] at h
 rw [if_neg (fun e => hc e.symm)] at h
 intro W
 rw [h W]
 simp [add_plain]
def CpRel (ps : List (S32 × List Value)) (w : World) (v5 : Value) (wr : World) : Prop :=
 ∃ k : Nat, v5 = .int .i64 k ∧ 0 < k ∧ k ≤ ps.length ∧ (∀ i (h0 : 0 < i) (hi : i < k) (hl : i < ps.length), cF ps[i].1 (ps[i - 1]'(by omega)).1 ≠ 0) ∧ Gw w wr
/-- s[:k] -/
theorem cut_to_f (g n c k : Nat) (hk : k ≤ n) (hn : n ≤ c) : ∀ W : World, (Instr.slice 30 (.slice (some ⟨g, 0, none⟩) n c) none (some (.int .i64 (k : Int))) none).run Tryz.prog W = .ok (.slice (some ⟨g, 0, none⟩) k c) W := by
 obtain ⟨i, hi, hsz⟩ := info32p
 have h := cut_to (P := Tryz.prog) 30 32 .i64 Tryz.underlying30 hi (some ⟨g, 0, none⟩) n c (k : Int) (by omega) (by omega) hn
 simp only [Int.toNat_natCast] at h
 exact h
theorem grown_trans {w w1 w2 : World} {r : Option Nat} (h1 : w.grownBy w1 r) (h2 : w1.grownBy w2 r) : w.grownBy w2 r :=
 ⟨h2.os.trans h1.os, h2.tape.trans h1.tape, h2.output.trans h1.output, Nat.le_trans h1.size h2.size, fun k hk hn => (h2.block k (Nat.lt_of_lt_of_le hk h1.size) hn).trans (h1.block k hk hn)⟩
def Cp2 (ps : List (S32 × List Value)) (k g : Nat) (s : Nat → Prop) (cap : Nat) (w : World) (v5 v7 : Value) (wr : World) : Prop :=
 ∃ (kk k2 : Nat) (qs : List (S32 × List Value)), v5 = .int .i64 kk ∧ v7 = .int .i64 k2 ∧ 1 ≤ k2 ∧ k + k2 ≤ ps.length ∧ 0 < kk ∧ kk < k + k2 ∧ qs.length = ps.length ∧ (qs.take kk).map (·.1) = dedup ((ps.map (·.1)).take (k + k2)) ∧
  (∀ i (hi : i < ps.length), k + k2 ≤ i + 1 → qs[i]? = some ps[i]) ∧ RowAt wr g s cap qs ∧ w.grownBy wr (some g) ∧ w.drawn ≤ wr.drawn
set_option maxRecDepth 1000000 in
set_option maxHeartbeats 4000000 in
theorem compact_any {w : World} {g cap : Nat} {s : Nat → Prop} {ps : List (S32 × List Value)} (h : RowAt w g s cap ps) :
  Calls Tryz.prog 101 #[.slice (some ⟨g, 0, none⟩) ps.length cap, .func (.func 102) #[] #[]] w fun e w' => ∃ ps', e = .returned (.slice (some ⟨g, 0, none⟩) ps'.length cap) ∧ RowAt w' g s cap ps' ∧ ps'.map (·.1) = dedup (ps.map (·.1)) ∧ w.grownBy w' (some g) ∧ w.drawn ≤ w'.drawn := by
 have HR := Lib.hid h
 have hmx : ps.length ≤ 9223372036854775807 := Nat.le_trans h.le h.max
 clear h
 by_cases h2 : ps.length < 2
 ·have HD := Lib.hid (dedup_one (ps.map (·.1)) (by rw [List.length_map]; exact h2))
  have g1 : decide ((ps.length : Int) < 2) = true := decide_eq_true (by omega)
  clear h2
  go_enter Tryz.func101, Tryz.ntmps101
  go_wp2
  go_ret
  exact ⟨ps, rfl, HR.out, HD.out.symm, World.grownBy.refl w _, Nat.le_refl _⟩
 ·have g1 : decide ((ps.length : Int) < 2) = false := decide_eq_false (by omega)
  go_enter Tryz.func101, Tryz.ntmps101
  go_wp2
  go_loopw [5] (fun v5 wr => CpRel ps w v5 wr) (fun v5 _ => ps.length - (intOf v5).toNat)
  case atStart => exact ⟨1, rfl, by omega, by omega, fun i h0 hi _ => by omega, Gw.refl _⟩
  case round =>
   obtain ⟨k, rfl, hk0, hkl, hne, hg⟩ := hrel
   have HNE := Lib.hid hne
   have HG := Lib.hid hg
   clear hne hg
   by_cases hlt : k < ps.length
   ·have hi0 : 0 ≤ (k : Int) := by omega
    have hi1 : (k : Int) < (ps.length : Int) := by omega
    have hRW := Lib.hid (HR.out.gw HG.out)
    obtain ⟨m, hm⟩ : ∃ m, k = m + 1 := ⟨k - 1, by omega⟩
    have hml : m < ps.length := by omega
    have hm0 : 0 ≤ (m : Int) := by omega
    have hm1 : (m : Int) < (ps.length : Int) := by omega
    have hwr : IntKind.i64.wrap ((k : Int) - 1) = (m : Int) := by
     rw [show (k : Int) - 1 = (m : Int) by omega]
     have := w64 (n := (m : Int)) (by omega) (by omega)
     rw [IntKind.wrap_i64]
     omega
    obtain ⟨A2, c2, A5, c5, ex, x0, x1, x2, x3, x4, x5⟩ := row_at hRW.out k hlt
    obtain ⟨B2, d2, B5, d5, ey, y0, y1, y2, y3, y4, y5⟩ := row_at hRW.out m hml
    have HKX := Lib.hid (show ∀ W, Gw wr W → k32.K W ps[k].1 ps[k].2 from fun W hW => Kd.FK_now ((hRW.out.gw hW).fk _ (List.getElem_mem hlt)))
    have HKY := Lib.hid (show ∀ W, Gw wr W → k32.K W ps[m].1 ps[m].2 from fun W hW => Kd.FK_now ((hRW.out.gw hW).fk _ (List.getElem_mem hml)))
    have HM := Lib.hid hm
    obtain ⟨x, hx⟩ : ∃ x, ps[k].1 = x := ⟨_, rfl⟩
    obtain ⟨y, hy⟩ : ∃ y, ps[m].1 = y := ⟨_, rfl⟩
    rw [ex] at HKX
    rw [ey] at HKY
    rw [hx] at x0 x1 x2 x3 x4 x5 HKX
    rw [hy] at y0 y1 y2 y3 y4 y5 HKY
    have HX := Lib.hid hx
    have HY := Lib.hid hy
    have HCK := Lib.hid (show ∀ W, Gw wr W → W.cell? ⟨g, k * 6, none⟩ = some (.int .i64 x.f0) ∧ W.cell? ⟨g, k * 6 + 1, none⟩ = some (.string x.f1) ∧ W.cell? ⟨g, k * 6 + 2, none⟩ = some (.slice A2 x.f2.length c2) ∧ W.cell? ⟨g, k * 6 + 3, none⟩ = some (.int .i64 x.f3) ∧ W.cell? ⟨g, k * 6 + 4, none⟩ = some (.int .i64 x.f4) ∧ W.cell? ⟨g, k * 6 + 5, none⟩ = some (.slice A5 x.f5.length c5) ∧ W.cell? ⟨g, m * 6, none⟩ = some (.int .i64 y.f0) ∧ W.cell? ⟨g, m * 6 + 1, none⟩ = some (.string y.f1) ∧ W.cell? ⟨g, m * 6 + 2, none⟩ = some (.slice B2 y.f2.length d2) ∧ W.cell? ⟨g, m * 6 + 3, none⟩ = some (.int .i64 y.f3) ∧ W.cell? ⟨g, m * 6 + 4, none⟩ = some (.int .i64 y.f4) ∧ W.cell? ⟨g, m * 6 + 5, none⟩ = some (.slice B5 y.f5.length d5) from fun W hW =>
     have f : ∀ {p : Addr} {u : Value}, wr.cell? p = some u → W.cell? p = some u := fun h => (hW.1.cell (World.block_lt_of_cell? wr _ h)).trans h
     ⟨f x0, f x1, f x2, f x3, f x4, f x5, f y0, f y1, f y2, f y3, f y4, f y5⟩)
    clear x0 x1 x2 x3 x4 x5 y0 y1 y2 y3 y4 y5 ex ey hx hy hm
    go_wp2
    refine start_ (n := 11) (S := fun w' => Gw wr w') (ds := []) #[false, false, false, false, false, false, false, false, false, false, false] (by kernel_rfl) rfl rfl (Gw.drew (Gw.refl _)) (fun hHeld => ?_)
    generalize wr.drew = w3 at hHeld ⊢
    refine pure_ (i := 0) (N := (some 18)) (v := ?_) (a' := ?_) #[true, false, false, false, false, false, false, false, false, false, false] rfl rfl (by kernel_rfl) (fun _ _ _ h => h) (Or.inl ⟨by rfl, ?_⟩) ?_ ?_
    rotate_left
    ·intro w'
     go_simp
     with_reducible rfl
    rotate_left
    ·simp only [Act.put, List.setIfInBounds_toArray, List.set_cons_zero, List.set_cons_succ]
     rfl
    refine pure_ (i := 1) (N := (some 19)) (v := ?_) (a' := ?_) #[true, true, false, false, false, false, false, false, false, false, false] rfl rfl (by kernel_rfl) (fun _ _ _ h => h) (Or.inl ⟨by rfl, ?_⟩) ?_ ?_
    rotate_left
    ·intro w'
     go_simp
     with_reducible rfl
    rotate_left
    ·simp only [Act.put, List.setIfInBounds_toArray, List.set_cons_zero, List.set_cons_succ]
     rfl
    refine pure_ (i := 2) (N := (some 20)) (v := ?_) (a' := ?_) #[true, true, true, false, false, false, false, false, false, false, false] rfl rfl (by kernel_rfl) (fun _ _ _ h => h) (Or.inl ⟨by rfl, ?_⟩) ?_ ?_
    rotate_left
    ·intro w'
     go_simp
     with_reducible rfl
    rotate_left
    ·simp only [Act.put, List.setIfInBounds_toArray, List.set_cons_zero, List.set_cons_succ]
     rfl
    refine pure_ (i := 3) (N := (some 21)) (v := ?_) (a' := ?_) #[true, true, true, true, false, false, false, false, false, false, false] rfl rfl (by kernel_rfl) (fun _ _ _ h => h) (Or.inl ⟨by rfl, ?_⟩) ?_ ?_
    rotate_left
    ·intro w'
     go_simp
     with_reducible rfl
    rotate_left
    ·simp only [Act.put, List.setIfInBounds_toArray, List.set_cons_zero, List.set_cons_succ]
     rfl
    refine take_ (i := 4) (N := (some 22)) (v := ?_) (a' := ?_) #[true, true, true, true, true, false, false, false, false, false, false] rfl rfl (by kernel_rfl) (fun _ _ _ h => h) (Or.inl ⟨by rfl, ?_⟩) hHeld ?_ ?_
    rotate_left
    ·rintro w' s0
     obtain ⟨k0, k1, k2, k3, k4, k5, l0, l1, l2, l3, l4, l5⟩ := HCK.out _ s0
     go_simp
     with_reducible rfl
    rotate_left
    ·simp only [Act.put, List.setIfInBounds_toArray, List.set_cons_zero, List.set_cons_succ]
     rfl
    refine pure_ (i := 5) (N := (some 23)) (v := ?_) (a' := ?_) #[true, true, true, true, true, true, false, false, false, false, false] rfl rfl (by kernel_rfl) (fun _ _ _ h => h) (Or.inl ⟨by rfl, ?_⟩) ?_ ?_
    rotate_left
    ·intro w'
     go_simp
     with_reducible rfl
    rotate_left
    ·simp only [Act.put, List.setIfInBounds_toArray, List.set_cons_zero, List.set_cons_succ]
     rfl
    refine pure_ (i := 6) (N := (some 24)) (v := ?_) (a' := ?_) #[true, true, true, true, true, true, true, false, false, false, false] rfl rfl (by kernel_rfl) (fun _ _ _ h => h) (Or.inl ⟨by rfl, ?_⟩) ?_ ?_
    rotate_left
    ·intro w'
     go_simp
     with_reducible rfl
    rotate_left
    ·simp only [Act.put, List.setIfInBounds_toArray, List.set_cons_zero, List.set_cons_succ]
     rfl
    refine pure_ (i := 7) (N := (some 25)) (v := ?_) (a' := ?_) #[true, true, true, true, true, true, true, true, false, false, false] rfl rfl (by kernel_rfl) (fun _ _ _ h => h) (Or.inl ⟨by rfl, ?_⟩) ?_ ?_
    rotate_left
    ·intro w'
     go_simp
     with_reducible rfl
    rotate_left
    ·simp only [Act.put, List.setIfInBounds_toArray, List.set_cons_zero, List.set_cons_succ]
     rfl
    refine pure_ (i := 8) (N := (some 26)) (v := ?_) (a' := ?_) #[true, true, true, true, true, true, true, true, true, false, false] rfl rfl (by kernel_rfl) (fun _ _ _ h => h) (Or.inl ⟨by rfl, ?_⟩) ?_ ?_
    rotate_left
    ·intro w'
     go_simp
     with_reducible rfl
    rotate_left
    ·simp only [Act.put, List.setIfInBounds_toArray, List.set_cons_zero, List.set_cons_succ]
     rfl
    refine take_ (i := 9) (N := (some 27)) (v := ?_) (a' := ?_) #[true, true, true, true, true, true, true, true, true, true, false] rfl rfl (by kernel_rfl) (fun _ _ _ h => h) (Or.inl ⟨by rfl, ?_⟩) hHeld ?_ ?_
    rotate_left
    ·rintro w' s0
     obtain ⟨k0, k1, k2, k3, k4, k5, l0, l1, l2, l3, l4, l5⟩ := HCK.out _ s0
     go_simp
     with_reducible rfl
    rotate_left
    ·simp only [Act.put, List.setIfInBounds_toArray, List.set_cons_zero, List.set_cons_succ]
     rfl
    refine one_ (i := 10) (N := (some 28)) #[true, true, true, true, true, true, true, true, true, true, true] rfl rfl (by kernel_rfl) (by decide) (fun K hK => ?_)
    go_simp
    refine (eq_any (HKX.out _ hHeld) (HKY.out _ hHeld)).mono ?_
    rintro e w4 ⟨rfl, hg4⟩
    refine hK.out _ _ (Gw.trans hHeld hg4) (fun hHeld => ?_)
    clear hK K
    (try simp only [Act.put, List.setIfInBounds_toArray, List.set_cons_zero, List.set_cons_succ])
    refine done_ (by kernel_rfl) ?_
    have HG4 := Lib.hid (Gw.trans HG.out hHeld)
    clear hHeld hwr hm0 hm1
    by_cases he : cF x y = 0
    ·have HE := Lib.hid he
     have g0 : (cF x y == 0) = true := by simpa using he
     have hkc : k ≠ cap := by have := HR.out.le; omega
     have hcut := cut_l g ps.length cap k hkl HR.out.le hkc
     clear he
     have HST := Lib.hid (show Cp2 ps k g s cap w (.int .i64 k) (.int .i64 1) w4 from ⟨k, 1, ps, rfl, rfl, Nat.le_refl _, by omega, hk0, by omega, rfl, by
      have hl : k < (ps.map (·.1)).length := by rw [List.length_map]; exact hlt
      have hmk : m = k - 1 := by have := HM.out; omega
      rw [dedup_take hk0 hl, if_pos (by
       simp only [List.getElem_map]
       have e1 : (ps[k - 1]'(by omega)).1 = y := by rw [← HY.out]; congr 2; omega
       rw [HX.out, e1]
       exact HE.out)]
      have := dedup_same (l := (ps.map (·.1)).take k) (fun i h0 hi => by
       rw [List.length_take] at hi
       simp only [List.getElem_take, List.getElem_map]
       exact HNE.out i h0 (by omega) (by omega)) ((ps.map (·.1)).take k).length (Nat.le_refl _)
      rw [List.take_length] at this
      rw [this, List.map_take], fun i hi _ => List.getElem?_eq_getElem hi, HR.out.gw HG4.out, ⟨HG4.out.1.os, HG4.out.1.tape, HG4.out.1.output, HG4.out.1.size, fun j hj _ => HG4.out.1.block j hj⟩, HG4.out.2⟩)
     go_wp2
     go_loopw [5, 7] (fun v5 v7 wr2 => Cp2 ps k g s cap w v5 v7 wr2) (fun _ v7 _ => ps.length - k - (intOf v7).toNat)
     case atStart => exact HST.out
     case round =>
      obtain ⟨kk, k2, qs, rfl, rfl, hb1, hb2, hb3, hb4, hql, hqd, hqs, hrow, hgr, hdr⟩ := hrel
      have HROW := Lib.hid hrow
      have HQD := Lib.hid hqd
      have HQS := Lib.hid hqs
      have HGR := Lib.hid hgr
      have HDR := Lib.hid hdr
      have HQL := Lib.hid hql
      clear hrow hqd hqs hgr hdr hql
      by_cases hlt2 : k2 < ps.length - k
      ·have j0 : 0 ≤ (k2 : Int) := by omega
       have j1 : (k2 : Int) < ((ps.length - k : Nat) : Int) := by omega
       obtain ⟨m2, hm2⟩ : ∃ m2, k2 = m2 + 1 := ⟨k2 - 1, by omega⟩
       have n0 : 0 ≤ (m2 : Int) := by omega
       have n1 : (m2 : Int) < ((ps.length - k : Nat) : Int) := by omega
       have hwr2 : IntKind.i64.wrap ((k2 : Int) - 1) = (m2 : Int) := by
        rw [show (k2 : Int) - 1 = (m2 : Int) by omega, IntKind.wrap_i64]
        omega
       have hkq : k + k2 < qs.length := by rw [HQL.out]; omega
       have hkm : k + m2 < qs.length := by rw [HQL.out]; omega
       obtain ⟨A3, c3, A6, c6, ex2, x0, x1, x2, x3, x4, x5⟩ := row_at HROW.out (k + k2) hkq
       obtain ⟨B3, d3, B6, d6, ey2, y0, y1, y2, y3, y4, y5⟩ := row_at HROW.out (k + m2) hkm
       rw [Nat.add_mul] at x0 x1 x2 x3 x4 x5 y0 y1 y2 y3 y4 y5
       have HKX2 := Lib.hid (show ∀ W, Gw wr W → k32.K W qs[k + k2].1 qs[k + k2].2 from fun W hW => Kd.FK_now ((HROW.out.gw hW).fk _ (List.getElem_mem hkq)))
       have HKY2 := Lib.hid (show ∀ W, Gw wr W → k32.K W qs[k + m2].1 qs[k + m2].2 from fun W hW => Kd.FK_now ((HROW.out.gw hW).fk _ (List.getElem_mem hkm)))
       have HM2 := Lib.hid hm2
       obtain ⟨p, hp⟩ : ∃ p, qs[k + k2] = p := ⟨_, rfl⟩
       obtain ⟨q, hq⟩ : ∃ q, qs[k + m2] = q := ⟨_, rfl⟩
       rw [hp] at x0 x1 x2 x3 x4 x5 HKX2 ex2
       rw [hq] at y0 y1 y2 y3 y4 y5 HKY2 ey2
       have HP := Lib.hid hp
       have HQ := Lib.hid hq
       have HEX := Lib.hid ex2
       rw [ex2] at HKX2
       rw [ey2] at HKY2
       obtain ⟨px, hpx⟩ : ∃ px, p.1 = px := ⟨_, rfl⟩
       obtain ⟨qx, hqx⟩ : ∃ qx, q.1 = qx := ⟨_, rfl⟩
       rw [hpx] at x0 x1 x2 x3 x4 x5 HKX2 HEX
       rw [hqx] at y0 y1 y2 y3 y4 y5 HKY2
       have HPX := Lib.hid hpx
       have HQX := Lib.hid hqx
       have HCK2 := Lib.hid (show ∀ W, Gw wr W → W.cell? ⟨g, k * 6 + k2 * 6, none⟩ = some (.int .i64 px.f0) ∧ W.cell? ⟨g, k * 6 + k2 * 6 + 1, none⟩ = some (.string px.f1) ∧ W.cell? ⟨g, k * 6 + k2 * 6 + 2, none⟩ = some (.slice A3 px.f2.length c3) ∧ W.cell? ⟨g, k * 6 + k2 * 6 + 3, none⟩ = some (.int .i64 px.f3) ∧ W.cell? ⟨g, k * 6 + k2 * 6 + 4, none⟩ = some (.int .i64 px.f4) ∧ W.cell? ⟨g, k * 6 + k2 * 6 + 5, none⟩ = some (.slice A6 px.f5.length c6) ∧ W.cell? ⟨g, k * 6 + m2 * 6, none⟩ = some (.int .i64 qx.f0) ∧ W.cell? ⟨g, k * 6 + m2 * 6 + 1, none⟩ = some (.string qx.f1) ∧ W.cell? ⟨g, k * 6 + m2 * 6 + 2, none⟩ = some (.slice B3 qx.f2.length d3) ∧ W.cell? ⟨g, k * 6 + m2 * 6 + 3, none⟩ = some (.int .i64 qx.f3) ∧ W.cell? ⟨g, k * 6 + m2 * 6 + 4, none⟩ = some (.int .i64 qx.f4) ∧ W.cell? ⟨g, k * 6 + m2 * 6 + 5, none⟩ = some (.slice B6 qx.f5.length d6) from fun W hW =>
        have f : ∀ {p : Addr} {u : Value}, wr.cell? p = some u → W.cell? p = some u := fun h => (hW.1.cell (World.block_lt_of_cell? wr _ h)).trans h
        ⟨f x0, f x1, f x2, f x3, f x4, f x5, f y0, f y1, f y2, f y3, f y4, f y5⟩)
       clear x0 x1 x2 x3 x4 x5 y0 y1 y2 y3 y4 y5 ex2 ey2 hp hq hpx hqx hm2
       go_wp2
       refine start_ (n := 12) (S := fun w' => Gw wr w') (ds := []) #[false, false, false, false, false, false, false, false, false, false, false, false] (by kernel_rfl) rfl rfl (Gw.drew (Gw.refl _)) (fun hHeld => ?_)
       generalize wr.drew = w5 at hHeld ⊢
       refine pure_ (i := 0) (N := (some 38)) (v := ?_) (a' := ?_) #[true, false, false, false, false, false, false, false, false, false, false, false] rfl rfl (by kernel_rfl) (fun _ _ _ h => h) (Or.inl ⟨by rfl, ?_⟩) ?_ ?_
       rotate_left
       ·intro w'
        go_simp
        with_reducible rfl
       rotate_left
       ·simp only [Act.put, List.setIfInBounds_toArray, List.set_cons_zero, List.set_cons_succ]
        rfl
       refine pure_ (i := 1) (N := (some 39)) (v := ?_) (a' := ?_) #[true, true, false, false, false, false, false, false, false, false, false, false] rfl rfl (by kernel_rfl) (fun _ _ _ h => h) (Or.inl ⟨by rfl, ?_⟩) ?_ ?_
       rotate_left
       ·intro w'
        go_simp
        with_reducible rfl
       rotate_left
       ·simp only [Act.put, List.setIfInBounds_toArray, List.set_cons_zero, List.set_cons_succ]
        rfl
       refine pure_ (i := 2) (N := (some 40)) (v := ?_) (a' := ?_) #[true, true, true, false, false, false, false, false, false, false, false, false] rfl rfl (by kernel_rfl) (fun _ _ _ h => h) (Or.inl ⟨by rfl, ?_⟩) ?_ ?_
       rotate_left
       ·intro w'
        go_simp
        with_reducible rfl
       rotate_left
       ·simp only [Act.put, List.setIfInBounds_toArray, List.set_cons_zero, List.set_cons_succ]
        rfl
       refine pure_ (i := 3) (N := (some 41)) (v := ?_) (a' := ?_) #[true, true, true, true, false, false, false, false, false, false, false, false] rfl rfl (by kernel_rfl) (fun _ _ _ h => h) (Or.inl ⟨by rfl, ?_⟩) ?_ ?_
       rotate_left
       ·intro w'
        go_simp
        with_reducible rfl
       rotate_left
       ·simp only [Act.put, List.setIfInBounds_toArray, List.set_cons_zero, List.set_cons_succ]
        rfl
       refine take_ (i := 4) (N := (some 42)) (v := ?_) (a' := ?_) #[true, true, true, true, true, false, false, false, false, false, false, false] rfl rfl (by kernel_rfl) (fun _ _ _ h => h) (Or.inl ⟨by rfl, ?_⟩) hHeld ?_ ?_
       rotate_left
       ·rintro w' s0
        obtain ⟨k0, k1, k2_, k3, k4, k5, l0, l1, l2, l3, l4, l5⟩ := HCK2.out _ s0
        go_simp
        with_reducible rfl
       rotate_left
       ·simp only [Act.put, List.setIfInBounds_toArray, List.set_cons_zero, List.set_cons_succ]
        rfl
       refine pure_ (i := 5) (N := (some 43)) (v := ?_) (a' := ?_) #[true, true, true, true, true, true, false, false, false, false, false, false] rfl rfl (by kernel_rfl) (fun _ _ _ h => h) (Or.inl ⟨by rfl, ?_⟩) ?_ ?_
       rotate_left
       ·intro w'
        go_simp
        with_reducible rfl
       rotate_left
       ·simp only [Act.put, List.setIfInBounds_toArray, List.set_cons_zero, List.set_cons_succ]
        rfl
       refine pure_ (i := 6) (N := (some 44)) (v := ?_) (a' := ?_) #[true, true, true, true, true, true, true, false, false, false, false, false] rfl rfl (by kernel_rfl) (fun _ _ _ h => h) (Or.inl ⟨by rfl, ?_⟩) ?_ ?_
       rotate_left
       ·intro w'
        go_simp
        with_reducible rfl
       rotate_left
       ·simp only [Act.put, List.setIfInBounds_toArray, List.set_cons_zero, List.set_cons_succ]
        rfl
       refine pure_ (i := 7) (N := (some 45)) (v := ?_) (a' := ?_) #[true, true, true, true, true, true, true, true, false, false, false, false] rfl rfl (by kernel_rfl) (fun _ _ _ h => h) (Or.inl ⟨by rfl, ?_⟩) ?_ ?_
       rotate_left
       ·intro w'
        go_simp
        with_reducible rfl
       rotate_left
       ·simp only [Act.put, List.setIfInBounds_toArray, List.set_cons_zero, List.set_cons_succ]
        rfl
       refine pure_ (i := 8) (N := (some 46)) (v := ?_) (a' := ?_) #[true, true, true, true, true, true, true, true, true, false, false, false] rfl rfl (by kernel_rfl) (fun _ _ _ h => h) (Or.inl ⟨by rfl, ?_⟩) ?_ ?_
       rotate_left
       ·intro w'
        go_simp
        with_reducible rfl
       rotate_left
       ·simp only [Act.put, List.setIfInBounds_toArray, List.set_cons_zero, List.set_cons_succ]
        rfl
       refine take_ (i := 9) (N := (some 47)) (v := ?_) (a' := ?_) #[true, true, true, true, true, true, true, true, true, true, false, false] rfl rfl (by kernel_rfl) (fun _ _ _ h => h) (Or.inl ⟨by rfl, ?_⟩) hHeld ?_ ?_
       rotate_left
       ·rintro w' s0
        obtain ⟨k0, k1, k2_, k3, k4, k5, l0, l1, l2, l3, l4, l5⟩ := HCK2.out _ s0
        go_simp
        with_reducible rfl
       rotate_left
       ·simp only [Act.put, List.setIfInBounds_toArray, List.set_cons_zero, List.set_cons_succ]
        rfl
       refine one_ (i := 10) (N := (some 48)) #[true, true, true, true, true, true, true, true, true, true, true, false] rfl rfl (by kernel_rfl) (by decide) (fun K hK => ?_)
       go_simp
       refine (eq_any (HKX2.out _ hHeld) (HKY2.out _ hHeld)).mono ?_
       rintro e w6 ⟨rfl, hg6⟩
       obtain ⟨bq, hbq⟩ : ∃ b, (cF px qx == 0) = b := ⟨_, rfl⟩
       have HBQ := Lib.hid hbq
       rw [hbq]
       clear hbq
       refine hK.out _ _ (Gw.trans hHeld hg6) (fun hHeld => ?_)
       clear hK K
       (try simp only [Act.put, List.setIfInBounds_toArray, List.set_cons_zero, List.set_cons_succ])
       refine pure_ (i := 11) (N := (some 49)) (v := ?_) (a' := ?_) #[true, true, true, true, true, true, true, true, true, true, true, true] rfl rfl (by kernel_rfl) (fun _ _ _ h => h) (Or.inl ⟨by rfl, ?_⟩) ?_ ?_
       rotate_left
       ·intro w'
        go_simp
        with_reducible rfl
       rotate_left
       ·simp only [Act.put, List.setIfInBounds_toArray, List.set_cons_zero, List.set_cons_succ]
        rfl
       refine done_ (by kernel_rfl) ?_
       have HG6 := Lib.hid hHeld
       clear hHeld hwr2 n0 n1
       have hkp : k + k2 < ps.length := by rw [← HQL.out]; exact hkq
       have hkp1 : k + k2 - 1 < ps.length := by omega
       have hmp : k + m2 < ps.length := by rw [← HQL.out]; exact hkm
       have HPS1 := Lib.hid (show (ps[k + k2]'hkp).1 = px by
        have h1 := HQS.out (k + k2) hkp (by omega)
        rw [List.getElem?_eq_getElem hkq, HP.out] at h1
        rw [← Option.some.inj h1]
        exact HPX.out)
       have HPS2 := Lib.hid (show (ps[k + m2]'hmp).1 = qx by
        have h1 := HQS.out (k + m2) hmp (by have := HM2.out; omega)
        rw [List.getElem?_eq_getElem hkm, HQ.out] at h1
        rw [← Option.some.inj h1]
        exact HQX.out)
       have HDT := Lib.hid (show dedup ((ps.map (·.1)).take (k + k2 + 1)) = if cF px qx = 0 then dedup ((ps.map (·.1)).take (k + k2)) else dedup ((ps.map (·.1)).take (k + k2)) ++ [px] from by
        have hl : k + k2 < (ps.map (·.1)).length := by rw [List.length_map]; exact hkp
        have := dedup_take (l := ps.map (·.1)) (k := k + k2) (by omega) hl
        simp only [List.getElem_map] at this
        have e2 : (ps[k + k2 - 1]'hkp1).1 = qx := by
         rw [← HPS2.out]
         have e3 : k + k2 - 1 = k + m2 := by have := HM2.out; omega
         simp only [e3]
        rw [HPS1.out, e2] at this
        exact this)
       have HGR6 := Lib.hid (show w.grownBy w6 (some g) from ⟨HG6.out.1.os.trans HGR.out.os, HG6.out.1.tape.trans HGR.out.tape, HG6.out.1.output.trans HGR.out.output, Nat.le_trans HGR.out.size HG6.out.1.size, fun j hj hne => (HG6.out.1.block j (Nat.lt_of_lt_of_le hj HGR.out.size)).trans (HGR.out.block j hj hne)⟩)
       have HROW6 := Lib.hid (HROW.out.gw HG6.out)
       have HDR6 := Lib.hid (Nat.le_trans HDR.out HG6.out.2)
       cases bq with
       | true =>
        have he2 : cF px qx = 0 := by simpa using HBQ.out
        have HDT2 := Lib.hid (HDT.out.trans (if_pos he2))
        clear he2
        go_wp2
        go_roundw
        case rel => exact ⟨kk, k2 + 1, qs, rfl, by go_num, by omega, by omega, hb3, by omega, HQL.out, by rw [← Nat.add_assoc, HDT2.out]; exact HQD.out, fun i hi hle => HQS.out i hi (by omega), HROW6.out, HGR6.out, HDR6.out⟩
        case measure => simp [intOf]; omega
       | false =>
        have he2 : ¬ cF px qx = 0 := by simpa using HBQ.out
        have HDT2 := Lib.hid (HDT.out.trans (if_neg he2))
        clear he2
        obtain ⟨k0, k1, k2_, k3, k4, k5, _, _, _, _, _, _⟩ := HCK2.out _ HG6.out
        have hkkn : kk < qs.length := by rw [HQL.out]; omega
        have q0i : 0 ≤ (kk : Int) := by omega
        have q1i : (kk : Int) < (ps.length : Int) := by omega
        obtain ⟨C2, e2, C5, e5, _, z0, z1, z2, z3, z4, z5⟩ := row_at HROW6.out kk hkkn
        obtain ⟨cur6, hcur6, hcs6⟩ := HROW6.out.blk
        have f0 := blk_frozen hcur6 (kk * 6)
        have f1 := blk_frozen hcur6 (kk * 6 + 1)
        have f2 := blk_frozen hcur6 (kk * 6 + 2)
        have f3 := blk_frozen hcur6 (kk * 6 + 3)
        have f4 := blk_frozen hcur6 (kk * 6 + 4)
        have f5 := blk_frozen hcur6 (kk * 6 + 5)
        go_wp2
        clear k0 k1 k2_ k3 k4 k5 z0 z1 z2 z3 z4 z5 f0 f1 f2 f3 f4 f5
        go_roundw
        case rel =>
         have hpf : Kd.FK k32 w6 s p.1 p.2 := by rw [← HP.out]; exact HROW6.out.fk _ (List.getElem_mem hkq)
         have hst := HROW6.out.store hkkn hpf
         have hgs := sets_grown w6 g (kk * 6) p.2
         have hds := sets_drawn g p.2 (kk * 6) w6
         rw [HEX.out] at hst hgs hds
         refine ⟨kk + 1, k2 + 1, qs.set kk p, by go_num, by go_num, by omega, by omega, by omega, by omega, by rw [List.length_set]; exact HQL.out, ?_, ?_, hst, ?_, ?_⟩
         ·rw [← Nat.add_assoc, HDT2.out, ← HQD.out, List.take_set, List.take_succ_eq_append_getElem hkkn, List.set_append_right _ _ (by rw [List.length_take]; omega), List.length_take, Nat.min_eq_left (Nat.le_of_lt hkkn)]
          simp [HPX.out]
         ·intro i hi hle
          rw [List.getElem?_set_ne (by omega)]
          exact HQS.out i hi (by omega)
         ·exact grown_trans HGR6.out hgs
         ·exact Nat.le_trans HDR6.out (Nat.le_of_eq hds.symm)
        case measure => simp [intOf]; omega
      ·have g35 : decide ((k2 : Int) < ((ps.length - k : Nat) : Int)) = false := decide_eq_false (by omega)
       have g35n : decide (k2 < ps.length - k) = false := decide_eq_false hlt2
       obtain ⟨cur, hcur, hcs⟩ := HROW.out.blk
       have hle := HROW.out.le
       rw [HQL.out] at hle
       have hk2e : k + k2 = ps.length := by omega
       obtain ⟨vs, hvl, hclr⟩ := run_clear (w := wr) (g := g) (o := kk * 6) (n := ps.length - kk) (c := cap - kk) (cur := cur) (by omega) hcur (by rw [hcs, ← Nat.add_mul]; exact Nat.mul_le_mul_right 6 (by omega))
       have hcutA := cut_l g ps.length cap kk (by omega) hle (by omega)
       have hcutB := cut_to_f g ps.length cap kk (by omega) hle
       have HCUT := Lib.hid (HROW.out.cut (kk := kk) (o := kk * 6) (vs := vs) (by rw [HQL.out]; omega) (Nat.le_refl _) (by rw [hvl, ← Nat.add_mul]; exact Nat.mul_le_mul_right 6 (by omega)))
       have HGS := Lib.hid (sets_grown wr g (kk * 6) vs)
       have HDS := Lib.hid (sets_drawn g vs (kk * 6) wr)
       have HKE := Lib.hid hk2e
       clear hcur hcs hvl hk2e
       go_wp2
       go_ret
       have hlen : (qs.take kk).length = kk := by rw [List.length_take, HQL.out]; omega
       refine ⟨qs.take kk, by rw [hlen]; rfl, HCUT.out, ?_, grown_trans HGR.out HGS.out, Nat.le_trans HDR.out (Nat.le_of_eq HDS.out.symm)⟩
       rw [HQD.out, HKE.out]
       congr 1
       exact List.take_of_length_le (by rw [List.length_map]; exact Nat.le_refl _)
    ·have g0 : (cF x y == 0) = false := by simpa using he
     have HE := Lib.hid he
     clear he
     go_wp2
     go_roundw
     case rel => exact ⟨k + 1, by go_num, by omega, hlt, fun i h0 hi hl => by
      by_cases hik : i < k
      ·exact HNE.out i h0 hik hl
      ·have : i = k := by omega
       subst this
       have h1 : ps[i - 1]'(by omega) = ps[m] := by congr 1; have := HM.out; omega
       rw [h1, HX.out, HY.out]
       exact HE.out, HG4.out⟩
     case measure => simp [intOf]; omega
   ·have g15 : decide ((k : Int) < (ps.length : Int)) = false := decide_eq_false (by omega)
    have hkn : k = ps.length := by omega
    have HD := Lib.hid (show dedup (ps.map (·.1)) = ps.map (·.1) from by
     have := dedup_same (l := ps.map (·.1)) (fun i h0 hi => by
      rw [List.length_map] at hi
      simp only [List.getElem_map]
      exact HNE.out i h0 (by omega) hi) (ps.map (·.1)).length (Nat.le_refl _)
     rwa [List.take_length] at this)
    clear hkn
    go_wp2
    go_ret
    exact ⟨ps, rfl, HR.out.gw HG.out, HD.out.symm, ⟨HG.out.1.os, HG.out.1.tape, HG.out.1.output, HG.out.1.size, fun j hj _ => HG.out.1.block j hj⟩, HG.out.2⟩
end Go.Proofs.YtbahnpdgaoedmaaGreatDoor.Mm
