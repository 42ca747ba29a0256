/- Part 11 of the proof of MemoryForms: Msd, Mse, Mrn, Mij, Mwn, Mss, Mbw, PMemoryExactx23. -/
import Derived.Test.YtbahnpdgaoedmaaGreatDoorCO10
import Derived.Test.YtbahnpdgaoedmaaGreatDoorCO8
import Derived.Lib.ItoaMem
import Derived.Shelf.Strings.Builder1
import Derived.Shelf.Strings.BuilderF
import Derived.Shelf.Strings.BuilderK
import Derived.Shelf.Strconv.Itoa3
import Derived.Test.YtbahnpdgaoedmaaGreatDoorProg
import Derived.Lib.FrozenHead2
import Derived.Lib.OthersKept
import Derived.Test.YtbahnpdgaoedmaaGreatDoorCO3
namespace Go.Proofs.YtbahnpdgaoedmaaGreatDoor.Mm
open Go.RowKit Go.Proofs.YtbahnpdgaoedmaaGreatDoorW.PrintWords Go.Proofs.YtbahnpdgaoedmaaGreatDoorW.PrintLast Go.Proofs.YtbahnpdgaoedmaaGreatDoorW.PrintMore Go.Proofs.YtbahnpdgaoedmaaGreatDoor.PMemoryExact
set_option linter.unusedSimpArgs false
set_option linter.unusedVariables false
theorem info92 : (Tryz.prog.info? 92).map (fun i => (i.zero, i.size, i.bytes)) = some (some (.slice none 0 0), 1, 24) := by kernel_rfl
theorem info3 : (Tryz.prog.info? 3).map (fun i => (i.zero, i.size, i.bytes)) = some (some (.int .i64 0), 1, 8) := by kernel_rfl
theorem rr_start (w1 : World) : Kd.N (Kd.raw 1) 92 (w1.alloc (.cells #[] 92)) w1.heap.size (fun k => w1.heap.size ≤ k) (.slice (some ⟨w1.heap.size, 0, none⟩) 0 0) [] := by
 have hb := blk_new w1 (.cells #[] 92)
 refine ⟨fun k hk => ?_, [], rfl, ⟨fun k hk => hk.symm, [], ⟨rfl, .inr ⟨w1.heap.size, 0, #[], rfl, Nat.le_refl _, hb, Nat.le_refl _, by simp [maxLen], rfl, rfl⟩⟩, ⟨rfl, fun j p hj => by simp at hj⟩⟩, fun j x c hj _ => by simp at hj⟩
 simp only [Value.ownBlock, Option.some.injEq] at hk
 omega
theorem rr_form {w : World} {base : Nat} {ok : Nat → Prop} {v : Value} {xs : List (List Value)} {g : Nat} (h : Kd.N (Kd.raw 1) 92 w base ok v xs) (hg : v.ownBlock = some g) : ∃ cap, v = .slice (some ⟨g, 0, none⟩) xs.length cap := by
 obtain ⟨_, rows, hl, ⟨_, inner, ho, _⟩, _⟩ := h
 rcases ho.2 with ⟨rfl, _⟩ | ⟨g', cap', cur, rfl, _⟩
 ·simp [Value.ownBlock] at hg
 ·simp only [Value.ownBlock, Option.some.injEq] at hg
  subst hg
  exact ⟨cap', by rw [hl]⟩
theorem rr_elem {w : World} {base : Nat} {ok : Nat → Prop} {g n cap : Nat} {u : Value} (h : Kd.N (Kd.raw 1) 92 w base ok (.slice (some ⟨g, 0, none⟩) n cap) [[u]]) : w.cell? ⟨g, 0, none⟩ = some u ∧ w.frozen? ⟨g, 0, none⟩ = false := by
 have hn : n = 1 := by
  obtain ⟨c, hc⟩ := rr_form h rfl
  injection hc
 subst hn
 obtain ⟨c, hcl, hF, hcell, hfr⟩ := Kd.N_elem h [] 0 (by omega) (by omega)
 obtain ⟨rfl, _, _⟩ := Kd.FK_now hF
 exact ⟨hcell 0 u rfl, hfr 0⟩
theorem ints_row {w : World} {b base : Nat} (hb : w.heap[b]? = some (.cells #[.int .i64 0] 3 (0, 0))) (hbase : base ≤ b) : Kd.N (Kd.int .i64) 3 w base (fun k => base ≤ k) (.slice (some ⟨b, 0, none⟩) 1 1) [0] := by
 refine Kd.R_N (Kd.R_of_own (xs := [(0 : Int)]) ⟨rfl, .inr ⟨b, 1, #[.int .i64 0], rfl, hbase, hb, Nat.le_refl _, by simp [maxLen], rfl, rfl⟩⟩ (fun k hk => ?_))
 simp only [Value.ownBlock, Option.some.injEq] at hk
 omega
def sameF (x y : S32) : Bool × Int := if (!validF x || !validF y) = true then (false, 1) else if limF (nf0 x) = false then (false, 2) else if limF (nf0 y) = false then (false, 2) else (cF (nf0 x) (nf0 y) == 0, 0)
/-- Group, under way. -/
def GRel (W1 : World) (x y : S32) (v6 v23 : Value) (wr : World) : Prop :=
 Below W1.heap.size W1 wr ∧ ((v23 = .int .i64 0 ∧ v6 = .slice (some ⟨W1.heap.size, 0, none⟩) 0 0 ∧ Kd.N (Kd.raw 1) 92 wr W1.heap.size (fun k => W1.heap.size ≤ k) v6 []) ∨
  (v23 = .int .i64 1 ∧ limF x = true ∧ ∃ a b c, v6 = .slice (some ⟨a, 0, none⟩) 1 c ∧ W1.heap.size ≤ b ∧ wr.heap[b]? = some (.cells #[.int .i64 0] 3 (0, 0)) ∧ Kd.N (Kd.raw 1) 92 wr W1.heap.size (fun k => W1.heap.size ≤ k) v6 [[.slice (some ⟨b, 0, none⟩) 1 1]]) ∨
  (v23 = .int .i64 2 ∧ limF x = true ∧ limF y = true ∧ ∃ G n c, v6 = .slice G n c ∧ ((n : Int) == 1) = (cF x y == 0)))
theorem nf_size {x : S32} (h : validF x = true) : size (nf0 x) < 1000000 := by
 have hv := valid_wf h
 have h1 := nf_bound x false
 have h2 := size_le (nf x false)
 have h3 := Nat.mul_le_mul h1.1 h1.2
 have h4 := Nat.mul_le_mul (show 2 * size x ≤ 400 by omega) (show 2 * depth x + 1 ≤ 65 by omega)
 show size (nf x false) < 1000000
 omega
theorem g_next {W1 wB w9 : World} {x y : S32} {v9 : Value} (hl : limF x = true) (hs : W1.heap.size < wB.heap.size)
  (hn : Kd.N (Kd.raw 1) 92 w9 W1.heap.size (fun k => W1.heap.size ≤ k) v9 ([] ++ [[.slice (some ⟨wB.heap.size, 0, none⟩) 1 1]])) (hb : Below W1.heap.size W1 w9)
  (hg : (wB.alloc (.cells #[.int .i64 0] 3)).grownBy w9 (Value.slice (some ⟨W1.heap.size, 0, none⟩) 0 0).ownBlock)
  (hat : v9.ownBlock = (Value.slice (some ⟨W1.heap.size, 0, none⟩) 0 0).ownBlock ∨ ∃ b, v9.ownBlock = some b ∧ (wB.alloc (.cells #[.int .i64 0] 3)).heap.size ≤ b) : GRel W1 x y v9 (.int .i64 1) w9 := by
 obtain ⟨b, hbb⟩ : ∃ b, v9.ownBlock = some b := by
  rcases hat with h | ⟨b, h, _⟩
  ·exact ⟨W1.heap.size, h⟩
  ·exact ⟨b, h⟩
 obtain ⟨c, rfl⟩ := rr_form hn hbb
 refine ⟨hb, Or.inr (Or.inl ⟨rfl, hl, b, wB.heap.size, c, rfl, Nat.le_of_lt hs, ?_, hn⟩)⟩
 have hsz : (wB.alloc (.cells #[.int .i64 0] 3)).heap.size = wB.heap.size + 1 := by show (wB.heap.push _).size = _; simp
 exact (hg.block _ (by omega) (by simp only [Value.ownBlock, ne_eq, Option.some.injEq]; omega)).trans (blk_new wB _)
theorem raw_FK (W : World) (ok : Nat → Prop) (A : Option Addr) (n c : Nat) : Kd.FK (Kd.raw 1) W ok [.slice A n c] [.slice A n c] := fun W' _ => ⟨rfl, rfl, fun u hu => by rw [List.mem_singleton.1 hu]; rfl⟩
theorem g_keep {w5 w9 : World} {base : Nat} {ok : Nat → Prop} {a b c0 : Nat} {u : Value} (hN : Kd.N (Kd.raw 1) 92 w5 base ok (.slice (some ⟨a, 0, none⟩) 1 c0) [[u]]) (hC : w5.heap[b]? = some (.cells #[.int .i64 0] 3 (0, 0))) (hg : w5.grownBy w9 (Value.slice (some ⟨b, 0, none⟩) 1 1).ownBlock) : w9.cell? ⟨a, 0, none⟩ = some u ∧ w9.frozen? ⟨a, 0, none⟩ = false := by
 obtain ⟨e5, f5⟩ := rr_elem hN
 obtain ⟨cells, hc⟩ := Kd.N_typed hN a rfl
 have hab := hg.block a (blk_lt hc) (by
  simp only [Value.ownBlock, ne_eq, Option.some.injEq]
  exact fun e => by
   rw [e, hC] at hc
   injection hc with hc
   injection hc with _ hc
   exact absurd hc (by decide))
 unfold World.cell? at e5 ⊢
 unfold World.frozen? at f5 ⊢
 rw [hab]
 exact ⟨e5, f5⟩
theorem limF_fit {x : S32} : fitF x = if limF x = true then (x, 0) else (z32, 2) := rfl
set_option maxRecDepth 1000000 in
set_option maxHeartbeats 4000000 in
theorem group_any {x y : S32} {w : World} {A : Option Addr} {c : Nat} {ok : Nat → Prop} (hF : Kd.F k32 w ok A 2 [x, y]) (hok : ∀ j, ok j → j < w.heap.size) (hx : Al x ∧ size x < 1000000) (hy : Al y ∧ size y < 1000000) :
  Calls Tryz.prog 37 #[.slice A 2 c] w fun e w' => Below w.heap.size w w' ∧ ∃ G n d, e = .returned (.tuple #[.slice G n d, .int .i64 (sameF x y).2]) ∧ ((n : Int) == 1) = (sameF x y).1 := by
 have HALL := Lib.hid (all_any (c := c) (k := [x, y]) hF hok (fun z hz => by
  rcases List.mem_cons.1 hz with rfl | hz
  ·exact hx
  ·rw [List.mem_singleton] at hz; rw [hz]; exact hy) (by simp))
 have HS0 := Lib.hid (show sameF x y = if (!validF x || !validF y) = true then (false, 1) else if limF (nf0 x) = false then (false, 2) else if limF (nf0 y) = false then (false, 2) else (cF (nf0 x) (nf0 y) == 0, 0) from rfl)
 have HOK := Lib.hid hok
 clear hF hok hx hy
 have hany : [x, y].any (fun z => !validF z) = (!validF x || !validF y) := by simp
 rw [hany] at HALL
 clear hany
 go_enter Tryz.func37, Tryz.ntmps37
 go_wp2_with fail
 refine HALL.out.mono ?_
 rintro e w1 ⟨hb1, ⟨hv, rfl⟩ | ⟨hv, g, cap, rfl, hN⟩⟩
 ·have HB1 := Lib.hid hb1
  have HS := Lib.hid (show sameF x y = (false, 1) by rw [HS0.out, if_pos hv])
  have HBA := Lib.hid (below_then HB1.out HB1.out.size ((Below.refl w1.heap.size w1).alloc (Nat.le_refl _) (.cells #[.slice none 0 0] 30)))
  clear hb1 hv
  go_wp2
  go_ret2
  rw [HS.out]
  exact ⟨HBA.out, _, _, _, rfl, rfl⟩
 ·have HS1 := Lib.hid (show sameF x y = if limF (nf0 x) = false then (false, 2) else if limF (nf0 y) = false then (false, 2) else (cF (nf0 x) (nf0 y) == 0, 0) by rw [HS0.out, if_neg (by rw [hv]; decide)])
  have hbv : validF x = true ∧ validF y = true := by
   cases h1 : validF x <;> cases h2 : validF y <;> simp_all
  have HSZ := Lib.hid (show size (nf0 x) < 1000000 ∧ size (nf0 y) < 1000000 from ⟨nf_size hbv.1, nf_size hbv.2⟩)
  obtain ⟨x', hx'⟩ : ∃ x', nf0 x = x' := ⟨_, rfl⟩
  obtain ⟨y', hy'⟩ : ∃ y', nf0 y = y' := ⟨_, rfl⟩
  have hN2 : Kd.N k32 32 w1 w.heap.size (OkN ok w.heap.size) (.slice (some ⟨g, 0, none⟩) 2 cap) [x', y'] := by rw [← hx', ← hy']; exact hN
  rw [hx', hy'] at HS1 HSZ
  have HAL := Lib.hid ((Below.refl w1.heap.size w1).alloc (Nat.le_refl _) (.cells #[.slice (some ⟨g, 0, none⟩) 2 cap] 30))
  have HBP := Lib.hid (blk_new w1 (.cells #[.slice (some ⟨g, 0, none⟩) 2 cap] 30))
  have HB1 := Lib.hid (below_then hb1 hb1.size HAL.out)
  have HF1 := Lib.hid (Kd.F_below (Kd.F_bound (Kd.N_F hN2)) HAL.out)
  clear hb1 hv hbv hx' hy' hN hN2
  go_wp2
  obtain ⟨W1, hW1⟩ : ∃ W1, w1.alloc (.cells #[.slice (some ⟨g, 0, none⟩) 2 cap] 30) = W1 := ⟨_, rfl⟩
  have HW1s := Lib.hid (show W1.heap.size = w1.heap.size + 1 by rw [← hW1]; show (w1.heap.push _).size = _; simp)
  rw [hW1] at HAL HBP HB1 HF1 ⊢
  clear hW1
  go_loopw [6, 23] (fun v6 v23 wr => GRel W1 x' y' v6 v23 wr) (fun v6 v23 _ => 2 - (intOf v23).toNat)
  case atStart => exact ⟨(Below.refl _ _).alloc (Nat.le_refl _) _, Or.inl ⟨rfl, by rw [HW1s.out], by have h := rr_start W1; rw [HW1s.out] at h ⊢; exact h⟩⟩
  case round =>
   obtain ⟨hB, ⟨rfl, rfl, hN⟩ | ⟨rfl, hl1, a, b, c8, rfl, hb0, hb3, hN⟩ | ⟨rfl, hl1, hl2, G, n, d, rfl, hn⟩⟩ := hrel
   ·have HB := Lib.hid hB
    have HN := Lib.hid hN
    clear hB hN
    obtain ⟨ad, A3, c3, A6, c6, e4, q0, q1, q2, q3, q4, q5, qF⟩ := form_F HF1.out HB.out 0 (by simp)
    obtain rfl := Option.some.inj e4
    simp only [List.getElem_cons_zero] at q0 q1 q2 q3 q4 q5 qF
    simp only [Lib.add_plain, Nat.zero_mul, Nat.one_mul, Nat.zero_add] at q0 q1 q2 q3 q4 q5
    have HAL := Lib.hid ((Below.refl wr.heap.size wr).alloc (Nat.le_refl _) (.cells #[.int .i64 x'.f0, .string x'.f1, .slice A3 x'.f2.length c3, .int .i64 x'.f3, .int .i64 x'.f4, .slice A6 x'.f5.length c6] 32))
    have HBX := Lib.hid (blk_new wr (.cells #[.int .i64 x'.f0, .string x'.f1, .slice A3 x'.f2.length c3, .int .i64 x'.f3, .int .i64 x'.f4, .slice A6 x'.f5.length c6] 32))
    have HBA := Lib.hid (below_then HB.out HB.out.size HAL.out)
    have HFA := Lib.hid (Kd.FK_below qF HBA.out)
    have HFT := Lib.hid (fits_any HFA.out (fun j hj => Nat.lt_of_lt_of_le hj.2 (Nat.le_trans (show w1.heap.size ≤ W1.heap.size by have := HW1s.out; omega) HBA.out.size)) HSZ.out.1)
    obtain ⟨lb, hlb⟩ : ∃ lb, limF x' = lb := ⟨_, rfl⟩
    have HLB := Lib.hid hlb
    rw [limF_fit, hlb] at HFT
    clear qF hlb e4
    cases lb with
    | false =>
     rw [if_neg (by decide)] at HFT
     go_wp2_with fail
     refine HFT.out.mono ?_
     rintro e w4 ⟨cs, rfl, hF4, hB4⟩
     have HB4 := Lib.hid (below_then HB1.out HB1.out.size (below_then HBA.out HBA.out.size hB4))
     obtain ⟨B2, d2, B5, d5, rfl, -⟩ := k32_openF hF4
     have HB5 := Lib.hid (below_then HB4.out HB4.out.size ((Below.refl w4.heap.size w4).alloc (Nat.le_refl _) (.cells #[.int .i64 z32.f0, .string z32.f1, .slice B2 z32.f2.length d2, .int .i64 z32.f3, .int .i64 z32.f4, .slice B5 z32.f5.length d5] 32)))
     have HS := Lib.hid (show sameF x y = (false, 2) by rw [HS1.out, if_pos HLB.out])
     clear hF4 hB4 q0 q1 q2 q3 q4 q5
     go_wp2
     go_ret2
     rw [HS.out]
     exact ⟨HB5.out, _, _, _, rfl, rfl⟩
    | true =>
     rw [if_pos rfl] at HFT
     go_wp2_with fail
     refine HFT.out.mono ?_
     rintro e w4 ⟨cs, rfl, hF4, hB4⟩
     dsimp only at hF4 ⊢
     have HB4 := Lib.hid (below_then HBA.out HBA.out.size hB4)
     have HW4 := Lib.hid (below_then HAL.out HAL.out.size hB4)
     have HB4r := Lib.hid hB4
     obtain ⟨B2, d2, B5, d5, rfl, -⟩ := k32_openF hF4
     have HAL4 := Lib.hid ((Below.refl w4.heap.size w4).alloc (Nat.le_refl _) (.cells #[.int .i64 x'.f0, .string x'.f1, .slice B2 x'.f2.length d2, .int .i64 x'.f3, .int .i64 x'.f4, .slice B5 x'.f5.length d5] 32))
     clear hF4 hB4 q0 q1 q2 q3 q4 q5
     go_wp2_with fail
     obtain ⟨wB, hwB⟩ : ∃ wB, w4.alloc (.cells #[.int .i64 x'.f0, .string x'.f1, .slice B2 x'.f2.length d2, .int .i64 x'.f3, .int .i64 x'.f4, .slice B5 x'.f5.length d5] 32) = wB := ⟨_, rfl⟩
     have HBS := Lib.hid (show wB.heap.size = w4.heap.size + 1 by rw [← hwB]; show (w4.heap.push _).size = _; simp)
     rw [hwB] at HAL4 ⊢
     clear hwB
     have HNB := Lib.hid (Kd.N_below (Kd.N_below HN.out HW4.out) HAL4.out)
     have HBB := Lib.hid (below_then HB4.out HB4.out.size HAL4.out)
     have HLTB := Lib.hid (show W1.heap.size < wB.heap.size by have := HB4.out.size; have := HBS.out; omega)
     have HIA := Lib.hid ((Below.refl wB.heap.size wB).alloc (Nat.le_refl _) (.cells #[.int .i64 0] 3))
     have HNI := Lib.hid (Kd.N_below HNB.out HIA.out)
     have HBI := Lib.hid (below_then HBB.out HBB.out.size HIA.out)
     have HSI := Lib.hid (show (wB.alloc (.cells #[.int .i64 0] 3)).heap.size = wB.heap.size + 1 by show (wB.heap.push _).size = _; simp)
     refine (idx_none _).mono ?_
     rintro e w5 ⟨rfl, rfl⟩
     go_wp2_with (first | (at_builtin; go_loud (refine Kd.N_append (Kd.raw 1) (w0 := W1) (W := w5.alloc (.cells #[.int .i64 0] 3)) W1.heap.size rfl (.tmp 41) (.tmp 44) 80 92 _ 24 rfl Tryz.underlying80 info92 rfl (by decide) (by decide) (.slice (some ⟨W1.heap.size, 0, none⟩) 0 0) [] [.slice (some ⟨w5.heap.size, 0, none⟩) 1 1] [.slice (some ⟨w5.heap.size, 0, none⟩) 1 1] (fun k => W1.heap.size ≤ k) (fun _ => False) rfl (by rw [HSI.out]; rfl) (raw_FK _ _ _ _ _) (fun _ h => h.elim) (fun j hj => by have := HBI.out.size; omega) HNI.out HBI.out HBI.out.size (by simp) ?_); intro v9 w9 hr9 hb9 hg9 hat9; have HRL := Lib.hid (g_next (y := y') HLB.out HLTB.out hr9 hb9 hg9 hat9); clear hr9 hb9 hg9 hat9) | fail)
     go_roundw
     case rel => exact HRL.out
     case measure => simp [intOf]
   ·have HB := Lib.hid hB
    have HN := Lib.hid hN
    have HL1 := Lib.hid hl1
    have HB0 := Lib.hid hb0
    have HB3 := Lib.hid hb3
    clear hB hN hl1 hb0 hb3
    obtain ⟨ad, A3, c3, A6, c6, e4, q0, q1, q2, q3, q4, q5, qF⟩ := form_F HF1.out HB.out 1 (by simp)
    obtain rfl := Option.some.inj e4
    simp only [List.getElem_cons_succ, List.getElem_cons_zero] at q0 q1 q2 q3 q4 q5 qF
    simp only [Lib.add_plain, Nat.zero_mul, Nat.one_mul, Nat.zero_add] at q0 q1 q2 q3 q4 q5
    have HAL := Lib.hid ((Below.refl wr.heap.size wr).alloc (Nat.le_refl _) (.cells #[.int .i64 y'.f0, .string y'.f1, .slice A3 y'.f2.length c3, .int .i64 y'.f3, .int .i64 y'.f4, .slice A6 y'.f5.length c6] 32))
    have HBX := Lib.hid (blk_new wr (.cells #[.int .i64 y'.f0, .string y'.f1, .slice A3 y'.f2.length c3, .int .i64 y'.f3, .int .i64 y'.f4, .slice A6 y'.f5.length c6] 32))
    have HBA := Lib.hid (below_then HB.out HB.out.size HAL.out)
    have HFA := Lib.hid (Kd.FK_below qF HBA.out)
    have HFT := Lib.hid (fits_any HFA.out (fun j hj => Nat.lt_of_lt_of_le hj.2 (Nat.le_trans (show w1.heap.size ≤ W1.heap.size by have := HW1s.out; omega) HBA.out.size)) HSZ.out.2)
    obtain ⟨lb, hlb⟩ : ∃ lb, limF y' = lb := ⟨_, rfl⟩
    have HLB := Lib.hid hlb
    rw [limF_fit, hlb] at HFT
    clear qF hlb e4
    cases lb with
    | false =>
     rw [if_neg (by decide)] at HFT
     go_wp2_with fail
     refine HFT.out.mono ?_
     rintro e w4 ⟨cs, rfl, hF4, hB4⟩
     have HB4 := Lib.hid (below_then HB1.out HB1.out.size (below_then HBA.out HBA.out.size hB4))
     obtain ⟨B2, d2, B5, d5, rfl, -⟩ := k32_openF hF4
     have HB5 := Lib.hid (below_then HB4.out HB4.out.size ((Below.refl w4.heap.size w4).alloc (Nat.le_refl _) (.cells #[.int .i64 z32.f0, .string z32.f1, .slice B2 z32.f2.length d2, .int .i64 z32.f3, .int .i64 z32.f4, .slice B5 z32.f5.length d5] 32)))
     have HS := Lib.hid (show sameF x y = (false, 2) by rw [HS1.out, if_neg (by rw [HL1.out]; decide), if_pos HLB.out])
     clear hF4 hB4 q0 q1 q2 q3 q4 q5
     go_wp2
     go_ret2
     rw [HS.out]
     exact ⟨HB5.out, _, _, _, rfl, rfl⟩
    | true =>
     rw [if_pos rfl] at HFT
     go_wp2_with fail
     refine HFT.out.mono ?_
     rintro e w4 ⟨cs, rfl, hF4, hB4⟩
     dsimp only at hF4 ⊢
     have HB4 := Lib.hid (below_then HBA.out HBA.out.size hB4)
     have HW4 := Lib.hid (below_then HAL.out HAL.out.size hB4)
     have HB4r := Lib.hid hB4
     obtain ⟨B2, d2, B5, d5, rfl, -⟩ := k32_openF hF4
     have HAL4 := Lib.hid ((Below.refl w4.heap.size w4).alloc (Nat.le_refl _) (.cells #[.int .i64 y'.f0, .string y'.f1, .slice B2 y'.f2.length d2, .int .i64 y'.f3, .int .i64 y'.f4, .slice B5 y'.f5.length d5] 32))
     clear hF4 hB4 q0 q1 q2 q3 q4 q5
     go_wp2_with fail
     obtain ⟨wB, hwB⟩ : ∃ wB, w4.alloc (.cells #[.int .i64 y'.f0, .string y'.f1, .slice B2 y'.f2.length d2, .int .i64 y'.f3, .int .i64 y'.f4, .slice B5 y'.f5.length d5] 32) = wB := ⟨_, rfl⟩
     rw [hwB] at HAL4 ⊢
     clear hwB
     have HWB := Lib.hid (below_then HW4.out HW4.out.size HAL4.out)
     have HNB := Lib.hid (Kd.N_below HN.out HWB.out)
     have HBB := Lib.hid (below_then HB4.out HB4.out.size HAL4.out)
     have HAB := Lib.hid (below_then HB.out HB.out.size HWB.out)
     have HCB := Lib.hid ((HWB.out.block b (blk_lt HB3.out)).trans HB3.out)
     have HRB := Lib.hid (below_then HB4r.out HB4r.out.size HAL4.out)
     have HXX := Lib.hid (show wB.heap[wr.heap.size]? = some (.cells #[.int .i64 y'.f0, .string y'.f1, .slice A3 y'.f2.length c3, .int .i64 y'.f3, .int .i64 y'.f4, .slice A6 y'.f5.length c6] 32 (0, 0)) from (HRB.out.block _ (blk_lt HBX.out)).trans HBX.out)
     have HGRP := Lib.hid (grp_any (p := w1.heap.size) (q := wr.heap.size) (A := some ⟨g, 0, none⟩) (c := cap) (n := 1) (cap := 1) (x := x') (y := y') (r := [y']) (a := ⟨b, 0, none⟩) ((HBB.out.block _ (by have := HW1s.out; omega)).trans HBP.out) HXX.out (Kd.F_now (Kd.F_below HF1.out HBB.out)) (Kd.FK_now (Kd.FK_below HFA.out HRB.out)) (blk_cell HCB.out 0) (by decide))
     have HIX := Lib.hid (idx_one (c := c8) (p := w1.heap.size) (q := wr.heap.size) (rr_elem HNB.out).1 HGRP.out)
     have HA0 := Lib.hid (show W1.heap.size ≤ a from Kd.N_base HN.out a rfl)
     obtain ⟨eb, heb⟩ : ∃ eb, (cF x' y' == 0) = eb := ⟨_, rfl⟩
     have HEB := Lib.hid heb
     rw [heb] at HIX
     clear heb
     refine HIX.out.mono ?_
     rintro e w5 ⟨rfl, hb5⟩
     have HN5 := Lib.hid (Kd.N_below HNB.out hb5)
     have HB5 := Lib.hid (below_then HBB.out HBB.out.size hb5)
     have HC5 := Lib.hid ((hb5.block b (blk_lt HCB.out)).trans HCB.out)
     clear hb5
     cases eb with
     | true =>
      obtain ⟨e5, -⟩ := rr_elem HN5.out
      have HIR := Lib.hid (ints_row HC5.out HB0.out)
      have HII := Lib.hid (show ∀ k, w5.heap.size ≤ k → W1.heap.size ≤ k from fun k hk => Nat.le_trans HB5.out.size hk)
      simp only [if_true]
      go_wp2_with (first | (at_builtin; go_loud (refine Kd.N_append (Kd.int .i64) (w0 := W1) (W := w5) W1.heap.size rfl (.tmp 51) (.tmp 53) 92 3 _ 8 rfl Tryz.underlying92 info3 rfl (by decide) (by decide) (.slice (some ⟨b, 0, none⟩) 1 1) [0] 1 [.int .i64 1] (fun k => W1.heap.size ≤ k) (fun _ => False) rfl rfl (fun _ _ => rfl) (fun _ h => h.elim) HII.out HIR.out HB5.out HB5.out.size (by simp) ?_); intro v9 w9 hr9 hb9 hg9 hat9; (obtain ⟨A9, c9, rfl⟩ := Kd.N_slice hr9); (have HB9 := Lib.hid hb9); (obtain ⟨e9, f9⟩ := g_keep HN5.out HC5.out hg9); clear hr9 hb9 hg9 hat9) | fail)
      go_roundw
      case rel => exact ⟨HB9.out.setCell (p := ⟨a, 0, none⟩) HA0.out _, Or.inr (Or.inr ⟨by first | rfl | trivial, HL1.out, HLB.out, _, _, _, rfl, HEB.out.symm⟩)⟩
      case measure => simp [intOf]
     | false =>
      have HIA := Lib.hid ((Below.refl w5.heap.size w5).alloc (Nat.le_refl _) (.cells #[.int .i64 1] 3))
      have HNI := Lib.hid (Kd.N_below HN5.out HIA.out)
      have HBI := Lib.hid (below_then HB5.out HB5.out.size HIA.out)
      have HSI := Lib.hid (show (w5.alloc (.cells #[.int .i64 1] 3)).heap.size = w5.heap.size + 1 by show (w5.heap.push _).size = _; simp)
      simp only [Bool.false_eq_true, if_false]
      go_wp2_with (first | (at_builtin; go_loud (refine Kd.N_append (Kd.raw 1) (w0 := W1) (W := w5.alloc (.cells #[.int .i64 1] 3)) W1.heap.size rfl (.tmp 41) (.tmp 44) 80 92 _ 24 rfl Tryz.underlying80 info92 rfl (by decide) (by decide) (.slice (some ⟨a, 0, none⟩) 1 c8) [[.slice (some ⟨b, 0, none⟩) 1 1]] [.slice (some ⟨w5.heap.size, 0, none⟩) 1 1] [.slice (some ⟨w5.heap.size, 0, none⟩) 1 1] (fun k => W1.heap.size ≤ k) (fun _ => False) rfl (by rw [HSI.out]; rfl) (raw_FK _ _ _ _ _) (fun _ h => h.elim) (fun j hj => by have := HBI.out.size; omega) HNI.out HBI.out HBI.out.size (by simp) ?_); intro v9 w9 hr9 hb9 hg9 hat9; (obtain ⟨A9, c9, rfl⟩ := Kd.N_slice hr9); have HB9 := Lib.hid hb9; clear hr9 hb9 hg9 hat9) | fail)
      go_roundw
      case rel => exact ⟨HB9.out, Or.inr (Or.inr ⟨by first | rfl | trivial, HL1.out, HLB.out, _, _, _, rfl, by rw [HEB.out]; rfl⟩)⟩
      case measure => simp [intOf]
   ·have HB := Lib.hid (below_then HB1.out HB1.out.size hB)
    have HS := Lib.hid (show sameF x y = (cF x' y' == 0, 0) by rw [HS1.out, if_neg (by rw [hl1]; decide), if_neg (by rw [hl2]; decide)])
    have HNN := Lib.hid hn
    clear hB hl1 hl2 hn
    go_wp2
    go_ret2
    rw [HS.out]
    exact ⟨HB.out, _, _, _, rfl, HNN.out⟩
theorem two_group {w : World} {ok : Nat → Prop} {x y : S32} {cs ds : List Value} (hx : Kd.FK k32 w ok x cs) (hy : Kd.FK k32 w ok y ds) (h1 : Al x ∧ size x < 1000000) (h2 : Al y ∧ size y < 1000000) :
  Calls Tryz.prog 37 #[.slice (some ⟨w.heap.size, 0, none⟩) 2 2] (w.alloc (.cells (cs ++ ds).toArray 32)) fun e w' => Below w.heap.size w w' ∧ ∃ G n d, e = .returned (.tuple #[.slice G n d, .int .i64 (sameF x y).2]) ∧ ((n : Int) == 1) = (sameF x y).1 := by
 have hB := (Below.refl w.heap.size w).alloc (Nat.le_refl _) (.cells (cs ++ ds).toArray 32)
 have hb := blk_new w (.cells (cs ++ ds).toArray 32)
 have hR := row_two hb (Kd.FK_step (Kd.FK_bound hx) (fun k _ hk => hB.block k hk)) (Kd.FK_step (Kd.FK_bound hy) (fun k _ hk => hB.block k hk)) (fun k hk => by have := hk.2; omega)
 refine (group_any (c := 2) hR.F (fun k hk => ?_) h1 h2).mono ?_
 ·have hs : (w.alloc (.cells (cs ++ ds).toArray 32)).heap.size = w.heap.size + 1 := by show (w.heap.push _).size = _; simp
  rw [hs]
  rcases hk with hk | rfl
  ·have := hk.2; omega
  ·omega
 ·rintro e w' ⟨hb, h⟩
  exact ⟨below_then hB hB.size hb, h⟩
set_option maxRecDepth 1000000 in
set_option maxHeartbeats 4000000 in
theorem same_any {w : World} {ok : Nat → Prop} {x y : S32} {cs ds : List Value} (hx : Kd.FK k32 w ok x cs) (hy : Kd.FK k32 w ok y ds) (h1 : Al x ∧ size x < 1000000) (h2 : Al y ∧ size y < 1000000) :
  Calls Tryz.prog 23 #[.agg cs.toArray, .agg ds.toArray] w fun e w' => e = .returned (.tuple #[.bool (sameF x y).1, .int .i64 (sameF x y).2]) ∧ Below w.heap.size w w' := by
 obtain ⟨A2, c2, A5, c5, rfl, -⟩ := k32_openF hx
 obtain ⟨B2, d2, B5, d5, rfl, -⟩ := k32_openF hy
 have HT := Lib.hid (two_box w #[.int .i64 x.f0, .string x.f1, .slice A2 x.f2.length c2, .int .i64 x.f3, .int .i64 x.f4, .slice A5 x.f5.length c5] #[.int .i64 y.f0, .string y.f1, .slice B2 y.f2.length d2, .int .i64 y.f3, .int .i64 y.f4, .slice B5 y.f5.length d5] 32)
 have HG := Lib.hid (two_group (Kd.FK_below hx HT.out.2.2.1) (Kd.FK_below hy HT.out.2.2.1) h1 h2)
 clear hx hy
 obtain ⟨q, hq⟩ : ∃ q, sameF x y = q := ⟨_, rfl⟩
 rw [hq] at HG ⊢
 clear hq
 obtain ⟨bq, z⟩ := q
 dsimp only at HG ⊢
 have HSZ := Lib.hid (show ((w.alloc (.cells #[.int .i64 x.f0, .string x.f1, .slice A2 x.f2.length c2, .int .i64 x.f3, .int .i64 x.f4, .slice A5 x.f5.length c5] 32)).alloc (.cells #[.int .i64 y.f0, .string y.f1, .slice B2 y.f2.length d2, .int .i64 y.f3, .int .i64 y.f4, .slice B5 y.f5.length d5] 32)).heap.size = w.heap.size + 2 by show ((w.heap.push _).push _).size = _; simp)
 rw [HSZ.out] at HG
 clear h1 h2
 go_enter Tryz.func23, Tryz.ntmps23
 go_wp2_with fail
 refine HG.out.mono ?_
 rintro e w3 ⟨hb3, G, n, d, rfl, hn⟩
 have HB3 := Lib.hid (show Below w.heap.size w w3 from below_then HT.out.2.2.1 HT.out.2.2.1.size (by rw [HSZ.out]; exact hb3))
 clear hb3
 go_wp2
 go_ret2
 exact ⟨rfl, HB3.out⟩
open Go.RowKit Go.Proofs.YtbahnpdgaoedmaaGreatDoor.PMemoryExact
def parts (op : Int) (f : S32) : List S32 := if f.f0 = op then f.f5 else [f]
def Asc (l : List S32) : Prop := l.Pairwise (fun x y => cF x y < 0)
theorem dedup_asc : ∀ (n : Nat) (l : List S32), l.length = n → l.Pairwise (fun x y => cF x y ≤ 0) → Asc (dedup l) ∧ ∀ z, z ∈ dedup l ↔ z ∈ l := by
 intro n
 induction n using Nat.strongRecOn with
 | ind n ih =>
  intro l hl hp
  match l, hl, hp with
  | [], _, _ => rw [dedup]; exact ⟨List.Pairwise.nil, fun z => Iff.rfl⟩
  | [x], _, _ => rw [dedup]; exact ⟨by simp [Asc], fun z => Iff.rfl⟩
  | x :: y :: r, hl, hp =>
   obtain ⟨h1, h2⟩ := List.pairwise_cons.1 hp
   rw [dedup]
   simp only [List.length_cons] at hl
   split
   ·rename_i h0
    have e := lin_cF.eq y x trivial trivial h0
    subst e
    obtain ⟨g1, g2⟩ := ih (r.length + 1) (by omega) (y :: r) (by simp) h2
    refine ⟨g1, fun z => ?_⟩
    rw [g2]
    simp
   ·rename_i h0
    obtain ⟨g1, g2⟩ := ih (r.length + 1) (by omega) (y :: r) (by simp) h2
    refine ⟨List.pairwise_cons.2 ⟨fun z hz => ?_, g1⟩, fun z => by rw [List.mem_cons, g2]; exact List.mem_cons.symm⟩
    have hxy : cF x y < 0 := by
     have ha := h1 y (by simp)
     have := lin_cF.neg x y trivial trivial
     omega
    rcases List.mem_cons.1 ((g2 z).1 hz) with rfl | hz
    ·exact hxy
    ·have hyz := (List.pairwise_cons.1 h2).1 z hz
     by_cases e : cF y z = 0
     ·rw [← lin_cF.eq y z trivial trivial e]; exact hxy
     ·exact lin_cF.tr x y z trivial trivial trivial hxy (by omega)
theorem ds_asc (l : List S32) : Asc (dedup (srt l)) ∧ ∀ z, z ∈ dedup (srt l) ↔ z ∈ l := by
 obtain ⟨h1, h2⟩ := dedup_asc _ (srt l) rfl (srt_sorted l)
 exact ⟨h1, fun z => (h2 z).trans (srt_perm l).mem_iff⟩
theorem unit_zero {op : Int} : (unitOf op = 1 ∧ zeroOf op = 2) ∨ (unitOf op = 2 ∧ zeroOf op = 1) := by unfold unitOf zeroOf; split <;> simp
open Go.RowKit Go.Proofs.YtbahnpdgaoedmaaGreatDoorW.PrintWords Go.Proofs.YtbahnpdgaoedmaaGreatDoor.PMemoryExact
/-- Two texts of which the first parts have no byte of p, and the rests begin with one (or are none). -/
def Fst (p : UInt8 → Bool) (s : List UInt8) : Prop := s = [] ∨ ∃ c r, s = c :: r ∧ p c = true
def Pl (p : UInt8 → Bool) (l : List UInt8) : Prop := ∀ c ∈ l, p c = false
theorem split_at (p : UInt8 → Bool) : ∀ {a b s t : List UInt8}, Pl p a → Pl p b → Fst p s → Fst p t → a ++ s = b ++ t → a = b ∧ s = t
 | [], [], s, t, _, _, _, _, h => ⟨rfl, h⟩
 | [], y :: b, s, t, _, hb, hs, _, h => by
  rcases hs with rfl | ⟨c, r, rfl, hc⟩
  ·simp at h
  ·simp only [List.nil_append, List.cons_append, List.cons.injEq] at h
   have := hb y (by simp)
   rw [← h.1, hc] at this
   cases this
 | x :: a, [], s, t, ha, _, _, ht, h => by
  rcases ht with rfl | ⟨c, r, rfl, hc⟩
  ·simp at h
  ·simp only [List.nil_append, List.cons_append, List.cons.injEq] at h
   have := ha x (by simp)
   rw [h.1, hc] at this
   cases this
 | x :: a, y :: b, s, t, ha, hb, hs, ht, h => by
  simp only [List.cons_append, List.cons.injEq] at h
  obtain ⟨h1, h2⟩ := split_at p (fun c hc => ha c (by simp [hc])) (fun c hc => hb c (by simp [hc])) hs ht h.2
  exact ⟨by rw [h.1, h1], h2⟩
/-- '(' ')' ',' -/
def sp (c : UInt8) : Bool := c == 40 || c == 41 || c == 44
def spb (c : UInt8) : Bool := c == 32
def En (s : List UInt8) : Prop := s = [] ∨ ∃ c r, s = c :: r ∧ (c = 41 ∨ c = 44)
theorem En.fst {s : List UInt8} (h : En s) : Fst sp s := by
 rcases h with h | ⟨c, r, h, rfl | rfl⟩
 ·exact Or.inl h
 ·exact Or.inr ⟨_, r, h, rfl⟩
 ·exact Or.inr ⟨_, r, h, rfl⟩
/-- A text begins, and not with ')'. -/
def Hd (l : List UInt8) : Prop := ∃ c r, l = c :: r ∧ c ≠ 41
theorem flat_inj {α : Type} (f : α → List UInt8) : ∀ (A B : List α), (∀ x ∈ A, ∀ y ∈ B, ∀ s t, En s → En t → f x ++ s = f y ++ t → x = y ∧ s = t) → ∀ s t, (A.map f).flatMap (fun y => 44 :: 32 :: y) ++ 41 :: s = (B.map f).flatMap (fun y => 44 :: 32 :: y) ++ 41 :: t → A = B ∧ s = t
 | [], [], _, s, t, h => by simpa using h
 | [], y :: B, _, s, t, h => by simp at h
 | x :: A, [], _, s, t, h => by simp at h
 | x :: A, y :: B, hf, s, t, h => by
  simp only [List.map_cons, List.flatMap_cons, List.cons_append, List.append_assoc, List.cons.injEq, true_and] at h
  have he : ∀ (l : List α) (s : List UInt8), En ((l.map f).flatMap (fun y => 44 :: 32 :: y) ++ 41 :: s) := by
   intro l s
   cases l with
   | nil => exact Or.inr ⟨41, s, rfl, Or.inl rfl⟩
   | cons z l => exact Or.inr ⟨44, _, rfl, Or.inr rfl⟩
  obtain ⟨h1, h2⟩ := hf x (by simp) y (by simp) _ _ (he A s) (he B t) h
  obtain ⟨h3, h4⟩ := flat_inj f A B (fun x hx y hy => hf x (by simp [hx]) y (by simp [hy])) s t h2
  exact ⟨by rw [h1, h3], h4⟩
theorem commas_inj {α : Type} (f : α → List UInt8) (A B : List α) (hA : ∀ x ∈ A, Hd (f x)) (hB : ∀ x ∈ B, Hd (f x)) (hf : ∀ x ∈ A, ∀ y ∈ B, ∀ s t, En s → En t → f x ++ s = f y ++ t → x = y ∧ s = t) (s t : List UInt8) (h : commas (A.map f) ++ 41 :: s = commas (B.map f) ++ 41 :: t) : A = B ∧ s = t := by
 have he : ∀ (l : List α) (s : List UInt8), En ((l.map f).flatMap (fun y => 44 :: 32 :: y) ++ 41 :: s) := by
  intro l s
  cases l with
  | nil => exact Or.inr ⟨41, s, rfl, Or.inl rfl⟩
  | cons z l => exact Or.inr ⟨44, _, rfl, Or.inr rfl⟩
 match A, B with
 | [], [] => simpa [commas] using h
 | [], y :: B =>
  obtain ⟨c, r, hc, hn⟩ := hB y (by simp)
  simp only [commas, List.map_nil, List.map_cons, hc, List.nil_append, List.cons_append, List.cons.injEq] at h
  exact absurd h.1.symm hn
 | x :: A, [] =>
  obtain ⟨c, r, hc, hn⟩ := hA x (by simp)
  simp only [commas, List.map_nil, List.map_cons, hc, List.nil_append, List.cons_append, List.cons.injEq] at h
  exact absurd h.1 hn
 | x :: A, y :: B =>
  simp only [commas, List.map_cons, List.append_assoc] at h
  obtain ⟨h1, h2⟩ := hf x (by simp) y (by simp) _ _ (he A s) (he B t) h
  obtain ⟨h3, h4⟩ := flat_inj f A B (fun x hx y hy => hf x (by simp [hx]) y (by simp [hy])) s t h2
  exact ⟨by rw [h1, h3], h4⟩
/-- What a symbol is. -/
def letB (c : UInt8) : Bool := decide (97 ≤ c.toNat) && decide (c.toNat ≤ 122)
def resB (c : UInt8) : Bool := letB c || (decide (48 ≤ c.toNat) && decide (c.toNat ≤ 57)) || c == 45
def Sym (l : List UInt8) : Prop := ∃ c r, l = c :: r ∧ letB c = true ∧ ∀ d ∈ r, resB d = true
theorem res_sp {c : UInt8} (h : resB c = true) : sp c = false ∧ spb c = false ∧ c ≠ 41 := by
 have : ∀ n : Fin 256, resB (UInt8.ofNat n.1) = true → sp (UInt8.ofNat n.1) = false ∧ spb (UInt8.ofNat n.1) = false ∧ UInt8.ofNat n.1 ≠ 41 := by decide +kernel
 have h2 := this ⟨c.toNat, c.toNat_lt⟩
 simp only [UInt8.ofNat_toNat] at h2
 exact h2 h
theorem let_res {c : UInt8} (h : letB c = true) : resB c = true := by unfold resB; rw [h]; rfl
theorem Sym.pl {l : List UInt8} (h : Sym l) : Pl sp l ∧ Pl spb l ∧ Hd l := by
 obtain ⟨c, r, rfl, hc, hr⟩ := h
 have h1 := res_sp (let_res hc)
 refine ⟨fun d hd => ?_, fun d hd => ?_, c, r, rfl, h1.2.2⟩
 ·rcases List.mem_cons.1 hd with rfl | hd
  ·exact h1.1
  ·exact (res_sp (hr d hd)).1
 ·rcases List.mem_cons.1 hd with rfl | hd
  ·exact h1.2.1
  ·exact (res_sp (hr d hd)).2.1
theorem bt_at (s : ByteArray) (i : Nat) (h : i < s.size) : bt s (i : Int) = ((s.data[i]'h).toNat : Int) := by
 unfold bt
 rw [Int.toNat_natCast]
 simp [h]
 rfl
theorem first_is (c : UInt8) : formula_first.f (c.toNat : Int) = some (letB c) := by
 unfold formula_first.f letB
 by_cases h : 97 ≤ c.toNat
 ·rw [if_pos (by omega)]
  simp [h]
  omega
 ·rw [if_neg (by omega)]
  simp [h]
theorem rest_is (c : UInt8) : formula_rest.f (c.toNat : Int) = some (resB c) := by
 have h45 : ((c.toNat : Int) == 45) = (c == 45) := by
  rw [Bool.eq_iff_iff, beq_iff_eq, beq_iff_eq]
  constructor
  ·intro h; exact UInt8.toNat_inj.1 (show c.toNat = (45 : UInt8).toNat by have : (45 : UInt8).toNat = 45 := rfl; omega)
  ·rintro rfl; rfl
 unfold formula_rest.f resB
 rw [first_is]
 simp only [Option.bind_some]
 cases hl : letB c with
 | true => rfl
 | false =>
  simp only [Bool.false_eq_true, if_false, Bool.false_or]
  by_cases h1 : 48 ≤ c.toNat
  ·by_cases h2 : c.toNat ≤ 57
   ·rw [if_pos (by omega), if_pos (by omega)]; simp [h1, h2]
   ·rw [if_pos (by omega), if_neg (by omega)]; simp [h1, h2, h45]
  ·rw [if_neg (by omega)]; simp [h1, h45]
theorem sym_l0 (s : ByteArray) (hsz : s.size ≤ 100) : ∀ (k i : Nat), 1 ≤ i → formula_symbol.l0 k s (i : Int) = some true → (∀ j, i ≤ j → (h : j < s.size) → resB (s.data[j]'h) = true) ∧ ∃ h : 0 < s.size, letB (s.data[0]'h) = true
 | 0, i, _, h => by simp [formula_symbol.l0] at h
 | k + 1, i, hi, h => by
  unfold formula_symbol.l0 at h
  by_cases hs : i < s.size
  ·rw [if_pos (by omega), if_pos (by omega), bt_at s i hs, rest_is] at h
   simp only [Option.bind_some] at h
   split at h
   ·rename_i hr
    rw [wrap_small (by omega) (by omega)] at h
    obtain ⟨h1, h2⟩ := sym_l0 s hsz k (i + 1) (by omega) h
    refine ⟨fun j hj hjs => ?_, h2⟩
    by_cases e : i = j
    ·subst e; exact hr
    ·exact h1 j (by omega) hjs
   ·simp at h
  ·rw [if_neg (by omega)] at h
   split at h
   ·simp at h
   ·by_cases h0 : 0 < s.size
    ·rw [if_pos (by omega), show (0 : Int) = ((0 : Nat) : Int) from rfl, bt_at s 0 h0, first_is] at h
     simp only [Option.bind_some, Option.some.injEq] at h
     exact ⟨fun j hj hjs => absurd hjs (by omega), h0, h⟩
    ·rw [if_neg (by omega)] at h
     simp at h
theorem symB_sym {s : ByteArray} (hs : s.size ≤ 100) (h : symB s = true) : Sym s.data.toList := by
 have h1 := symB_is hs
 rw [h] at h1
 obtain ⟨h2, h0, h3⟩ := sym_l0 s hs 102 1 (Nat.le_refl _) h1
 have hl : s.data.toList.length = s.size := by simp
 match hd : s.data.toList with
 | [] => rw [hd] at hl; simp at hl; omega
 | c :: r =>
  refine ⟨c, r, rfl, ?_, fun d hdr => ?_⟩
  ·have : s.data[0]'h0 = c := by
    have : s.data.toList[0]'(by rw [hl]; exact h0) = c := by simp [hd]
    simpa using this
   rw [← this]; exact h3
  ·obtain ⟨j, hj, rfl⟩ := List.mem_iff_getElem.1 hdr
   have hjs : j + 1 < s.size := by rw [← hl, hd]; simp; exact hj
   have : s.data[j + 1]'hjs = r[j] := by
    have : s.data.toList[j + 1]'(by rw [hl]; exact hjs) = r[j] := by simp [hd]
    simpa using this
   rw [← this]
   exact h2 (j + 1) (by omega) hjs
/-- Digits. -/
theorem dec_def (u : Nat) : Lib.decDigits u = if u < 10 then [UInt8.ofNat (48 + u)] else Lib.decDigits (u / 10) ++ [UInt8.ofNat (48 + u % 10)] := by
 rw [Lib.decDigits]
 split <;> rfl
theorem digs_val : ∀ (n u : Nat), u < n → ∀ v, Lib.decDigits u = Lib.decDigits v → u = v
 | 0, u, h, v, _ => by omega
 | n + 1, u, h, v, e => by
  rw [dec_def u, dec_def v] at e
  have inj : ∀ a b : Nat, a < 10 → b < 10 → UInt8.ofNat (48 + a) = UInt8.ofNat (48 + b) → a = b := by
   intro a b ha hb hab
   have := congrArg UInt8.toNat hab
   simp only [UInt8.toNat_ofNat'] at this
   omega
  have ne : ∀ w : Nat, Lib.decDigits w ≠ [] := by
   intro w hw
   have := Lib.decDigits_length w
   rw [hw] at this
   have h2 := Lib.nDigits_pos w
   simp at this
   omega
  split at e
  ·split at e
   ·simp only [List.cons.injEq, and_true] at e
    exact inj u v (by assumption) (by assumption) e
   ·have := congrArg List.length e
    simp only [List.length_append, List.length_cons, List.length_nil] at this
    have h2 := List.length_pos_iff.2 (ne (v / 10))
    omega
  ·split at e
   ·have := congrArg List.length e
    simp only [List.length_append, List.length_cons, List.length_nil] at this
    have h2 := List.length_pos_iff.2 (ne (u / 10))
    omega
   ·obtain ⟨h1, h2⟩ := List.append_inj' e rfl
    simp only [List.cons.injEq, and_true] at h2
    have h3 := inj (u % 10) (v % 10) (by omega) (by omega) h2
    have h4 := digs_val n (u / 10) (by omega) (v / 10) h1
    omega
def digB (c : UInt8) : Bool := decide (48 ≤ c.toNat) && decide (c.toNat ≤ 57)
theorem dig_all : ∀ (n u : Nat), u < n → ∀ c ∈ Lib.decDigits u, digB c = true
 | 0, u, h => by omega
 | n + 1, u, h => by
  have hd : ∀ a : Nat, a < 10 → digB (UInt8.ofNat (48 + a)) = true := by
   intro a ha
   unfold digB
   simp only [UInt8.toNat_ofNat', Bool.and_eq_true, decide_eq_true_eq]
   omega
  intro c hc
  rw [Lib.decDigits] at hc
  split at hc
  ·rw [List.mem_singleton] at hc; subst hc; exact hd u (by assumption)
  ·rcases List.mem_append.1 hc with hc | hc
   ·exact dig_all n (u / 10) (by omega) c hc
   ·rw [List.mem_singleton] at hc; subst hc; exact hd (u % 10) (by omega)
theorem digs_hd (u : Nat) : ∃ c r, Lib.decDigits u = c :: r ∧ digB c = true := by
 have h := dig_all (u + 1) u (by omega)
 match hd : Lib.decDigits u with
 | [] =>
  have := Lib.decDigits_length u
  rw [hd] at this
  have h2 := Lib.nDigits_pos u
  simp at this
  omega
 | c :: r => exact ⟨c, r, rfl, h c (by rw [hd]; simp)⟩
theorem dig_sp {c : UInt8} (h : digB c = true) : sp c = false ∧ spb c = false ∧ c ≠ 41 ∧ letB c = false ∧ c ≠ 35 ∧ c ≠ 64 ∧ c ≠ 45 := by
 have : ∀ n : Fin 256, digB (UInt8.ofNat n.1) = true → sp (UInt8.ofNat n.1) = false ∧ spb (UInt8.ofNat n.1) = false ∧ UInt8.ofNat n.1 ≠ 41 ∧ letB (UInt8.ofNat n.1) = false ∧ UInt8.ofNat n.1 ≠ 35 ∧ UInt8.ofNat n.1 ≠ 64 ∧ UInt8.ofNat n.1 ≠ 45 := by decide +kernel
 have h2 := this ⟨c.toNat, c.toNat_lt⟩
 simp only [UInt8.ofNat_toNat] at h2
 exact h2 h
theorem let_ne {c : UInt8} (h : letB c = true) : c ≠ 35 ∧ c ≠ 64 ∧ ¬ (65 ≤ c.toNat ∧ c.toNat ≤ 90) := by
 unfold letB at h
 simp only [Bool.and_eq_true, decide_eq_true_eq] at h
 refine ⟨?_, ?_, by omega⟩
 ·rintro rfl; exact absurd h.1 (by decide)
 ·rintro rfl; exact absurd h.1 (by decide)
theorem itoa_pl (n : Int) : Pl sp (Lib.itoa n) ∧ Pl spb (Lib.itoa n) ∧ Lib.itoa n ≠ [] := by
 have hd : ∀ u c, c ∈ Lib.decDigits u → sp c = false ∧ spb c = false := fun u c hc => by
  have := dig_sp (dig_all (u + 1) u (by omega) c hc)
  exact ⟨this.1, this.2.1⟩
 unfold Lib.itoa
 split
 ·refine ⟨fun c hc => ?_, fun c hc => ?_, by simp⟩
  ·rcases List.mem_cons.1 hc with rfl | hc
   ·rfl
   ·exact (hd _ c hc).1
  ·rcases List.mem_cons.1 hc with rfl | hc
   ·rfl
   ·exact (hd _ c hc).2
 ·obtain ⟨c, r, h, _⟩ := digs_hd n.toNat
  exact ⟨fun c hc => (hd _ c hc).1, fun c hc => (hd _ c hc).2, by rw [h]; simp⟩
theorem itoa_inj {m n : Int} (h : Lib.itoa m = Lib.itoa n) : m = n := by
 unfold Lib.itoa at h
 split at h
 ·split at h
  ·have := digs_val _ _ (Nat.lt_succ_self _) _ (List.cons.inj h).2
   omega
  ·obtain ⟨c, r, hc, hd⟩ := digs_hd n.toNat
   rw [hc] at h
   exact absurd (List.cons.inj h).1.symm (dig_sp hd).2.2.2.2.2.2
 ·split at h
  ·obtain ⟨c, r, hc, hd⟩ := digs_hd m.toNat
   rw [hc] at h
   exact absurd (List.cons.inj h).1 (dig_sp hd).2.2.2.2.2.2
  ·have := digs_val _ _ (Nat.lt_succ_self _) _ h
   omega
theorem eStr_list {s : ByteArray} (h : s.toList = []) : s = eStr := toList_inj (h.trans (by rw [ByteArray.toList_eq]; rfl))
/-- What a reference is. -/
def RefSh (r : S84) : Prop := ((r.f0 = 1 ∨ r.f0 = 3 ∨ r.f0 = 4) ∧ r.f2 = eStr ∧ 0 ≤ r.f1) ∨ (r.f0 = 2 ∧ r.f1 = 0 ∧ Sym r.f2.data.toList)
theorem refOk_shape {v : Int} {r : S84} (hs : r.f2.size ≤ 100) (h : refOk v r = true) : RefSh r := by
 have h1 := refOk_is (r := r) v hs
 rw [h] at h1
 unfold formula_reference.f at h1
 rw [symB_is hs] at h1
 simp only [Option.bind_some] at h1
 split at h1
 ·rename_i e
  split at h1
  ·rename_i e2
   split at h1
   ·rename_i e3; exact Or.inl ⟨Or.inl e, eStr_list e2, e3⟩
   ·simp at h1
  ·simp at h1
 split at h1
 ·rename_i e
  split at h1
  ·rename_i e2
   exact Or.inr ⟨e, e2, symB_sym hs (by simpa using h1)⟩
  ·simp at h1
 split at h1
 ·rename_i e
  split at h1
  ·rename_i e2
   split at h1
   ·rename_i e3; exact Or.inl ⟨Or.inr (Or.inl e), eStr_list e2, e3⟩
   ·simp at h1
  ·simp at h1
 split at h1
 ·rename_i e
  split at h1
  ·rename_i e2
   split at h1
   ·rename_i e3; exact Or.inl ⟨Or.inr (Or.inr e), eStr_list e2, e3⟩
   ·simp at h1
  ·simp at h1
 ·simp at h1
/-- The first byte of a reference's text tells its kind. -/
theorem refB_head {r : S84} (h : RefSh r) : ∃ c t, refB r = c :: t ∧ Pl sp (refB r) ∧ c ≠ 41 ∧ (r.f0 = 1 ∧ c = 35 ∧ t = Lib.itoa r.f1 ∨ r.f0 = 3 ∧ c = 64 ∧ t = Lib.itoa r.f1 ∨ r.f0 = 4 ∧ digB c = true ∧ refB r = Lib.itoa r.f1 ∨ r.f0 = 2 ∧ letB c = true ∧ refB r = r.f2.data.toList) := by
 have hi := itoa_pl r.f1
 have hc : ∀ c : UInt8, sp c = false → Pl sp (c :: Lib.itoa r.f1) := fun c h d hd => by
  rcases List.mem_cons.1 hd with rfl | hd
  ·exact h
  ·exact hi.1 d hd
 rcases h with ⟨h | h | h, h2, h3⟩ | ⟨h, h2, h3⟩
 ·have e : refB r = 35 :: Lib.itoa r.f1 := by unfold refB; rw [if_pos h]
  exact ⟨35, _, e, by rw [e]; exact hc 35 rfl, by decide, Or.inl ⟨h, rfl, rfl⟩⟩
 ·have e : refB r = 64 :: Lib.itoa r.f1 := by unfold refB; rw [if_neg (by omega), if_pos h]
  exact ⟨64, _, e, by rw [e]; exact hc 64 rfl, by decide, Or.inr (Or.inl ⟨h, rfl, rfl⟩)⟩
 ·have e : refB r = Lib.itoa r.f1 := by unfold refB; rw [if_neg (by omega), if_neg (by omega), if_pos h]
  have e2 : Lib.itoa r.f1 = Lib.decDigits r.f1.toNat := by unfold Lib.itoa; rw [if_neg (by omega)]
  obtain ⟨c, t, hd, hdig⟩ := digs_hd r.f1.toNat
  exact ⟨c, t, by rw [e, e2, hd], by rw [e]; exact hi.1, (dig_sp hdig).2.2.1, Or.inr (Or.inr (Or.inl ⟨h, hdig, e⟩))⟩
 ·have e : refB r = r.f2.data.toList := by unfold refB; rw [if_neg (by omega), if_neg (by omega), if_neg (by omega)]
  have hp := h3.pl
  obtain ⟨c, t, hd, hl, _⟩ := h3
  exact ⟨c, t, by rw [e, hd], by rw [e]; exact hp.1, (res_sp (let_res hl)).2.2, Or.inr (Or.inr (Or.inr ⟨h, hl, e⟩))⟩
theorem ref_inj {r q : S84} (hr : RefSh r) (hq : RefSh q) (h : refB r = refB q) : r = q := by
 obtain ⟨c, t, e, _, _, hk⟩ := refB_head hr
 obtain ⟨d, u, e2, _, _, hk2⟩ := refB_head hq
 have hcd : c :: t = d :: u := by rw [← e, ← e2, h]
 obtain ⟨rfl, rfl⟩ := List.cons.inj hcd
 have fin : r.f0 = q.f0 → r.f1 = q.f1 → r.f2 = q.f2 → r = q := fun a b c => by cases r; cases q; simp_all
 have nm : r.f0 = q.f0 → r.f0 ≠ 2 → r.f2 = q.f2 := fun a b => by
  rcases hr with ⟨_, g, _⟩ | ⟨g, _, _⟩
  ·rcases hq with ⟨_, g2, _⟩ | ⟨g2, _, _⟩
   ·rw [g, g2]
   ·omega
  ·omega
 rcases hk with ⟨a, b, k⟩ | ⟨a, b, k⟩ | ⟨a, b, k⟩ | ⟨a, b, k⟩
 ·rcases hk2 with ⟨a2, b2, k2⟩ | ⟨a2, b2, k2⟩ | ⟨a2, b2, k2⟩ | ⟨a2, b2, k2⟩
  ·exact fin (a.trans a2.symm) (itoa_inj (k.symm.trans k2)) (nm (a.trans a2.symm) (by omega))
  ·rw [b] at b2; exact absurd b2 (by decide)
  ·exact absurd b (dig_sp b2).2.2.2.2.1
  ·exact absurd b (let_ne b2).1
 ·rcases hk2 with ⟨a2, b2, k2⟩ | ⟨a2, b2, k2⟩ | ⟨a2, b2, k2⟩ | ⟨a2, b2, k2⟩
  ·rw [b] at b2; exact absurd b2 (by decide)
  ·exact fin (a.trans a2.symm) (itoa_inj (k.symm.trans k2)) (nm (a.trans a2.symm) (by omega))
  ·exact absurd b (dig_sp b2).2.2.2.2.2.1
  ·exact absurd b (let_ne b2).2.1
 ·rcases hk2 with ⟨a2, b2, k2⟩ | ⟨a2, b2, k2⟩ | ⟨a2, b2, k2⟩ | ⟨a2, b2, k2⟩
  ·exact absurd b2 (dig_sp b).2.2.2.2.1
  ·exact absurd b2 (dig_sp b).2.2.2.2.2.1
  ·exact fin (a.trans a2.symm) (itoa_inj (k.symm.trans (h.trans k2))) (nm (a.trans a2.symm) (by omega))
  ·have := (dig_sp b).2.2.2.1
   rw [b2] at this; cases this
 ·rcases hk2 with ⟨a2, b2, k2⟩ | ⟨a2, b2, k2⟩ | ⟨a2, b2, k2⟩ | ⟨a2, b2, k2⟩
  ·exact absurd b2 (let_ne b).1
  ·exact absurd b2 (let_ne b).2.1
  ·have := (dig_sp b2).2.2.2.1
   rw [b] at this; cases this
  ·have e3 : r.f2 = q.f2 := toList_inj (by rw [ByteArray.toList_eq, ByteArray.toList_eq, ← k, ← k2, h])
   rcases hr with ⟨g, _, _⟩ | ⟨_, g, _⟩
   ·omega
   ·rcases hq with ⟨g2, _, _⟩ | ⟨_, g2, _⟩
    ·omega
    ·exact fin (a.trans a2.symm) (g.trans g2.symm) e3
/-- What a node is. -/
structure NdSh (x : S32) : Prop where
 op : 1 ≤ x.f0 ∧ x.f0 ≤ 12
 ft : x.f0 ≠ 10 → x.f3 = 0 ∧ x.f4 = 0
 args : x.f0 ≠ 3 → x.f2 = []
 refs : x.f0 = 3 → ∀ r ∈ x.f2, RefSh r
 name : x.f0 ≠ 3 → x.f0 ≠ 8 → x.f0 ≠ 9 → x.f1 = eStr
 sym : x.f0 = 3 ∨ x.f0 = 8 ∨ x.f0 = 9 → Sym x.f1.data.toList
 kids : x.f0 = 1 ∨ x.f0 = 2 ∨ x.f0 = 3 → x.f5 = []
theorem nd_shape {x : S32} {v : Int} (hn : Nm x) (h : fieldsF x v = true) : NdSh x := by
 unfold fieldsF at h
 split at h
 ·cases h
 rename_i h1
 split at h
 ·cases h
 rename_i h2
 split at h
 ·cases h
 rename_i h3
 have hft : x.f0 ≠ 10 → x.f3 = 0 ∧ x.f4 = 0 := fun e => by
  refine ⟨?_, ?_⟩
  ·refine Classical.byContradiction fun g => h1 ⟨e, Or.inl g⟩
  ·refine Classical.byContradiction fun g => h1 ⟨e, Or.inr g⟩
 have hargs : x.f0 ≠ 3 → x.f2 = [] := fun e => List.eq_nil_of_length_eq_zero (by have : ¬ 0 < x.f2.length := fun g => h2 ⟨e, g⟩; omega)
 have hname : x.f0 ≠ 3 → x.f0 ≠ 8 → x.f0 ≠ 9 → x.f1 = eStr := fun a b c => eStr_list (Classical.byContradiction fun g => h3 ⟨a, by omega, g⟩)
 split at h
 ·rename_i e
  exact ⟨by omega, hft, hargs, fun g => by omega, hname, fun g => by omega, fun _ => List.eq_nil_of_length_eq_zero (by simpa using h)⟩
 split at h
 ·rename_i e
  simp only [Bool.and_eq_true, decide_eq_true_eq, beq_iff_eq, List.all_eq_true] at h
  exact ⟨by omega, hft, hargs, fun _ r hr => refOk_shape (hn.ref r hr).1 (h.1 r hr), hname, fun _ => symB_sym hn.name h.2.2, fun _ => List.eq_nil_of_length_eq_zero h.2.1.1.1⟩
 split at h
 ·exact ⟨by omega, hft, hargs, fun g => by omega, hname, fun g => by omega, fun g => by omega⟩
 split at h
 ·exact ⟨by omega, hft, hargs, fun g => by omega, hname, fun g => by omega, fun g => by omega⟩
 split at h
 ·exact ⟨by omega, hft, hargs, fun g => by omega, hname, fun g => by omega, fun g => by omega⟩
 split at h
 ·simp only [Bool.and_eq_true, beq_iff_eq] at h
  exact ⟨by omega, hft, hargs, fun g => by omega, hname, fun _ => symB_sym hn.name h.2, fun g => by omega⟩
 split at h
 ·exact ⟨by omega, hft, hargs, fun g => by omega, hname, fun g => by omega, fun g => by omega⟩
 ·cases h
theorem wf_nd {x : S32} (hw : Wf x) (ha : Al x) : NdSh x := by
 obtain ⟨v, hv⟩ := hw
 rw [formed_is, Bool.and_eq_true] at hv
 exact nd_shape ((al_is x).1 ha).1 hv.1
theorem nine {o : Int} (h : 1 ≤ o ∧ o ≤ 12) (h3 : o ≠ 3) : o = 1 ∨ o = 2 ∨ o = 4 ∨ o = 5 ∨ o = 6 ∨ o = 7 ∨ o = 8 ∨ o = 9 ∨ o = 10 ∨ o = 11 ∨ o = 12 := by omega
theorem kwd_head {o : Int} (h : 1 ≤ o ∧ o ≤ 12) (h3 : o ≠ 3) : Pl sp (kwd o) ∧ Pl spb (kwd o) ∧ ∃ c r, kwd o = c :: r ∧ 65 ≤ c.toNat ∧ c.toNat ≤ 90 := by
 have hp : ∀ (p : UInt8 → Bool) (l : List UInt8), l.all (fun c => !p c) = true → Pl p l := fun p l h c hc => by
  have := List.all_eq_true.1 h c hc
  simpa using this
 rcases nine h h3 with rfl | rfl | rfl | rfl | rfl | rfl | rfl | rfl | rfl | rfl | rfl <;> exact ⟨hp _ _ rfl, hp _ _ rfl, _, _, rfl, by decide, by decide⟩
theorem kwd_inj {o q : Int} (ho : 1 ≤ o ∧ o ≤ 12) (h3 : o ≠ 3) (hq : 1 ≤ q ∧ q ≤ 12) (k3 : q ≠ 3) (h : kwd o = kwd q) : o = q := by
 rcases nine ho h3 with rfl | rfl | rfl | rfl | rfl | rfl | rfl | rfl | rfl | rfl | rfl <;> rcases nine hq k3 with rfl | rfl | rfl | rfl | rfl | rfl | rfl | rfl | rfl | rfl | rfl <;> first | rfl | exact absurd h (by decide)
def kx (x : S32) : List UInt8 := if x.f0 = 3 then x.f1.data.toList else kwd x.f0
def rx (x : S32) : List UInt8 := if x.f0 = 8 ∨ x.f0 = 9 then 32 :: x.f1.data.toList else if x.f0 = 10 then 32 :: (Lib.itoa x.f3 ++ 32 :: Lib.itoa x.f4) else []
theorem head_kr (x : S32) : headB x = kx x ++ rx x := by
 unfold headB kx rx
 by_cases h3 : x.f0 = 3
 ·rw [if_pos h3, if_pos h3, if_neg (by omega), if_neg (by omega), List.append_nil]
 ·rw [if_neg h3, if_neg h3]
  by_cases h8 : x.f0 = 8 ∨ x.f0 = 9
  ·rw [if_pos h8, if_pos h8]
  ·rw [if_neg h8, if_neg h8]
   by_cases h10 : x.f0 = 10
   ·rw [if_pos h10, if_pos h10]
   ·rw [if_neg h10, if_neg h10, List.append_nil]
theorem kx_pl {x : S32} (h : NdSh x) : Pl sp (kx x) ∧ Pl spb (kx x) ∧ Hd (kx x) := by
 unfold kx
 split
 ·rename_i e
  exact (h.sym (Or.inl e)).pl
 ·rename_i e
  obtain ⟨h1, h2, c, r, h3, h4, h5⟩ := kwd_head h.op e
  exact ⟨h1, h2, c, r, h3, by rintro rfl; exact absurd h4 (by decide)⟩
theorem pl_app {p : UInt8 → Bool} {a b : List UInt8} (ha : Pl p a) (hb : Pl p b) : Pl p (a ++ b) := fun c hc => by
 rcases List.mem_append.1 hc with hc | hc
 ·exact ha c hc
 ·exact hb c hc
theorem pl_cons {p : UInt8 → Bool} {c : UInt8} {b : List UInt8} (ha : p c = false) (hb : Pl p b) : Pl p (c :: b) := fun d hc => by
 rcases List.mem_cons.1 hc with rfl | hc
 ·exact ha
 ·exact hb d hc
theorem head_pl {x : S32} (h : NdSh x) : Pl sp (headB x) ∧ Hd (headB x) := by
 rw [head_kr]
 obtain ⟨h1, h2, c, r, h3, h4⟩ := kx_pl h
 refine ⟨pl_app h1 ?_, c, r ++ rx x, by rw [h3]; rfl, h4⟩
 unfold rx
 split
 ·rename_i e
  exact pl_cons rfl (h.sym (Or.inr e)).pl.1
 ·split
  ·exact pl_cons rfl (pl_app (itoa_pl _).1 (pl_cons rfl (itoa_pl _).1))
  ·exact fun c hc => by simp at hc
theorem head_inj {x y : S32} (hx : NdSh x) (hy : NdSh y) (h : headB x = headB y) : x.f0 = y.f0 ∧ x.f1 = y.f1 ∧ x.f3 = y.f3 ∧ x.f4 = y.f4 := by
 rw [head_kr, head_kr] at h
 have hr : ∀ z : S32, Fst spb (rx z) := fun z => by
  unfold rx
  split
  ·exact Or.inr ⟨32, _, rfl, rfl⟩
  ·split
   ·exact Or.inr ⟨32, _, rfl, rfl⟩
   ·exact Or.inl rfl
 obtain ⟨h1, h2⟩ := split_at spb (kx_pl hx).2.1 (kx_pl hy).2.1 (hr x) (hr y) h
 have hop : x.f0 = y.f0 := by
  unfold kx at h1
  by_cases ex : x.f0 = 3
  ·by_cases ey : y.f0 = 3
   ·omega
   ·rw [if_pos ex, if_neg ey] at h1
    obtain ⟨c, r, e, hc, _⟩ := hx.sym (Or.inl ex)
    obtain ⟨_, _, d, u, e2, g1, g2⟩ := kwd_head hy.op ey
    rw [e, e2] at h1
    have := (List.cons.inj h1).1
    subst this
    exact absurd ⟨g1, g2⟩ (let_ne hc).2.2
  ·by_cases ey : y.f0 = 3
   ·rw [if_neg ex, if_pos ey] at h1
    obtain ⟨c, r, e, hc, _⟩ := hy.sym (Or.inl ey)
    obtain ⟨_, _, d, u, e2, g1, g2⟩ := kwd_head hx.op ex
    rw [e, e2] at h1
    have := (List.cons.inj h1).1
    subst this
    exact absurd ⟨g1, g2⟩ (let_ne hc).2.2
   ·rw [if_neg ex, if_neg ey] at h1
    exact kwd_inj hx.op ex hy.op ey h1
 have hnm : x.f1 = y.f1 := by
  by_cases e3 : x.f0 = 3
  ·unfold kx at h1
   rw [if_pos e3, if_pos (by omega)] at h1
   exact toList_inj (by rw [ByteArray.toList_eq, ByteArray.toList_eq, h1])
  ·by_cases e8 : x.f0 = 8 ∨ x.f0 = 9
   ·unfold rx at h2
    rw [if_pos e8, if_pos (by omega)] at h2
    exact toList_inj (by rw [ByteArray.toList_eq, ByteArray.toList_eq, (List.cons.inj h2).2])
   ·rw [hx.name e3 (by omega) (by omega), hy.name (by omega) (by omega) (by omega)]
 refine ⟨hop, hnm, ?_⟩
 by_cases e10 : x.f0 = 10
 ·unfold rx at h2
  rw [if_neg (by omega), if_pos e10, if_neg (by omega), if_pos (by omega)] at h2
  obtain ⟨g1, g2⟩ := split_at spb (itoa_pl _).2.1 (itoa_pl _).2.1 (Or.inr ⟨32, _, rfl, rfl⟩) (Or.inr ⟨32, _, rfl, rfl⟩) (List.cons.inj h2).2
  exact ⟨itoa_inj g1, itoa_inj (List.cons.inj g2).2⟩
 ·have a := hx.ft e10
  have b := hy.ft (by omega)
  exact ⟨a.1.trans b.1.symm, a.2.trans b.2.symm⟩
theorem text_hd {x : S32} (h : NdSh x) : Hd (textB x) := by
 rw [textB_is]
 split
 ·rename_i e
  obtain ⟨_, _, c, r, h3, h4, _⟩ := kwd_head h.op (by omega)
  exact ⟨c, r, h3, by rintro rfl; exact absurd h4 (by decide)⟩
 ·obtain ⟨_, c, r, h3, h4⟩ := head_pl h
  exact ⟨c, _, by rw [h3]; rfl, h4⟩
/-- EQUAL TEXTS, EQUAL FORMULAS. -/
theorem text_inj : ∀ (n : Nat) (x y : S32), size x < n → Wf x → Al x → Wf y → Al y → ∀ s t, En s → En t → textB x ++ s = textB y ++ t → x = y ∧ s = t
 | 0, x, y, h => by omega
 | n + 1, x, y, h => by
  intro hwx hax hwy hay s t hs ht e
  have hx := wf_nd hwx hax
  have hy := wf_nd hwy hay
  have fin : x.f0 = y.f0 → x.f1 = y.f1 → x.f2 = y.f2 → x.f3 = y.f3 → x.f4 = y.f4 → x.f5 = y.f5 → x = y := fun a b c d e f => by cases x; cases y; simp_all
  rw [textB_is, textB_is] at e
  have hF : ∀ u : List UInt8, Fst sp (40 :: u) := fun u => Or.inr ⟨40, u, rfl, rfl⟩
  have h40 : ∀ (u s : List UInt8), En s → ¬ s = 40 :: u := by
   rintro u s (rfl | ⟨c, r, rfl, rfl | rfl⟩) g <;> simp at g
  by_cases cx : x.f0 = 1 ∨ x.f0 = 2
  ·have kx' := kwd_head hx.op (by omega)
   rw [if_pos cx] at e
   by_cases cy : y.f0 = 1 ∨ y.f0 = 2
   ·rw [if_pos cy] at e
    have ky' := kwd_head hy.op (by omega)
    obtain ⟨h1, h2⟩ := split_at sp kx'.1 ky'.1 hs.fst ht.fst e
    have ho := kwd_inj hx.op (by omega) hy.op (by omega) h1
    refine ⟨fin ho ?_ ?_ ?_ ?_ ?_, h2⟩
    ·rw [hx.name (by omega) (by omega) (by omega), hy.name (by omega) (by omega) (by omega)]
    ·rw [hx.args (by omega), hy.args (by omega)]
    ·rw [(hx.ft (by omega)).1, (hy.ft (by omega)).1]
    ·rw [(hx.ft (by omega)).2, (hy.ft (by omega)).2]
    ·rw [hx.kids (by omega), hy.kids (by omega)]
   ·rw [if_neg cy, List.append_assoc, List.cons_append] at e
    obtain ⟨h1, h2⟩ := split_at sp kx'.1 (head_pl hy).1 hs.fst (hF _) e
    exact absurd h2 (h40 _ s hs)
  ·rw [if_neg cx] at e
   by_cases cy : y.f0 = 1 ∨ y.f0 = 2
   ·rw [if_pos cy] at e
    have ky' := kwd_head hy.op (by omega)
    simp only [List.append_assoc, List.cons_append] at e
    obtain ⟨h1, h2⟩ := split_at sp (head_pl hx).1 ky'.1 (hF _) ht.fst e
    exact absurd h2.symm (h40 _ t ht)
   ·rw [if_neg cy] at e
    simp only [List.append_assoc, List.cons_append] at e
    obtain ⟨h1, h2⟩ := split_at sp (head_pl hx).1 (head_pl hy).1 (hF _) (hF _) e
    obtain ⟨g0, g1, g3, g4⟩ := head_inj hx hy h1
    have h2 := (List.cons.inj h2).2
    try simp only [List.append_assoc, List.singleton_append] at h2
    by_cases e3 : x.f0 = 3
    ·have kx0 := hx.kids (by omega)
     have ky0 := hy.kids (by omega)
     rw [kx0, ky0] at h2
     simp only [List.map_nil, commas, List.nil_append] at h2
     obtain ⟨g2, gs⟩ := commas_inj refB x.f2 y.f2 (fun r hr => by
      obtain ⟨c, u, h, _, h4, _⟩ := refB_head (hx.refs e3 r hr)
      exact ⟨c, u, h, h4⟩) (fun r hr => by
      obtain ⟨c, u, h, _, h4, _⟩ := refB_head (hy.refs (by omega) r hr)
      exact ⟨c, u, h, h4⟩) (fun r hr q hq s t hs ht e => by
      obtain ⟨_, _, _, p1, _⟩ := refB_head (hx.refs e3 r hr)
      obtain ⟨_, _, _, p2, _⟩ := refB_head (hy.refs (by omega) q hq)
      obtain ⟨a, b⟩ := split_at sp p1 p2 hs.fst ht.fst e
      exact ⟨ref_inj (hx.refs e3 r hr) (hy.refs (by omega) q hq) a, b⟩) s t h2
     exact ⟨fin g0 g1 g2 g3 g4 (kx0.trans ky0.symm), gs⟩
    ·have ax0 := hx.args e3
     have ay0 := hy.args (by omega)
     rw [ax0, ay0] at h2
     simp only [List.map_nil, commas, List.nil_append] at h2
     obtain ⟨g5, gs⟩ := commas_inj textB x.f5 y.f5 (fun z hz => text_hd (wf_nd (wf_kid hwx hz) (((al_is x).1 hax).2 z hz))) (fun z hz => text_hd (wf_nd (wf_kid hwy hz) (((al_is y).1 hay).2 z hz)))
      (fun z hz u hu => text_inj n z u (by have := kid_lt hz; omega) (wf_kid hwx hz) (((al_is x).1 hax).2 z hz) (wf_kid hwy hu) (((al_is y).1 hay).2 u hu)) s t h2
     exact ⟨fin g0 g1 (ax0.trans ay0.symm) g3 g4 g5, gs⟩
theorem textB_inj {x y : S32} (hwx : Wf x) (hax : Al x) (hwy : Wf y) (hay : Al y) (h : textB x = textB y) : x = y :=
 (text_inj _ x y (Nat.lt_succ_self _) hwx hax hwy hay [] [] (Or.inl rfl) (Or.inl rfl) (by rw [h])).1
abbrev Fm (v : Int) (x : S32) : Prop := formedF x v = true
theorem fm_is {x : S32} {v : Int} : Fm v x ↔ fieldsF x v = true ∧ ∀ y ∈ x.f5, Fm (vin x.f0 v) y := by
 unfold Fm
 rw [formed_is, Bool.and_eq_true, formedFs_all, List.all_eq_true]
theorem fm_mk {o : Int} {n : ByteArray} {f t : Int} {k : List S32} {v : Int} (h : fieldsF ⟨o, n, [], f, t, k⟩ v = true) (hk : ∀ y ∈ k, Fm (vin o v) y) : Fm v ⟨o, n, [], f, t, k⟩ := fm_is.2 ⟨h, hk⟩
theorem eStr_nil : eStr.toList = [] := by rw [ByteArray.toList_eq]; rfl
theorem fm_mk0 {o : Int} (ho : o = 1 ∨ o = 2) (v : Int) : Fm v (mk0 o) := fm_mk (by rcases ho with rfl | rfl <;> simp [fieldsF, eStr_nil]) (by simp)
theorem fm_const (b : Bool) (v : Int) : Fm v (const b) := by cases b; exact fm_mk0 (Or.inr rfl) v; exact fm_mk0 (Or.inl rfl) v
theorem fm_join {op : Int} (hop : op = 5 ∨ op = 6) {v : Int} {l : List S32} (h : ∀ x ∈ l, Fm v x) : Fm v (join op l) := by
 have hu := unit_zero (op := op)
 have hvin : vin op v = v := by unfold vin; rw [if_neg (by omega)]
 have hf : ∀ x ∈ flat op l, Fm v x := by
  intro x hx
  obtain ⟨y, hy, hxy⟩ := List.mem_flatMap.1 hx
  split at hxy
  ·rename_i e
   have := (fm_is.1 (h y hy)).2 x hxy
   rw [e, hvin] at this
   exact this
  ·split at hxy
   ·simp at hxy
   ·simp at hxy; rw [hxy]; exact h y hy
 unfold join
 split
 ·rename_i f hfind
  exact hf f (List.mem_of_find?_eq_some hfind)
 ·have hd : ∀ x ∈ dedup (srt (flat op l)), Fm v x := fun x hx => hf x (((ds_asc _).2 x).1 hx)
  split
  ·exact fm_mk0 (by omega) v
  ·rename_i x hx
   exact hd x (by rw [hx]; simp)
  ·refine fm_mk (by rcases hop with rfl | rfl <;> simp [fieldsF, eStr_nil]) ?_
   rw [hvin]
   exact hd
mutual
theorem fm_each {op : Int} (hop : op = 5 ∨ op = 6) {u v : Int} {b : S32 → S32} (hb : ∀ x, Fm u x → Fm v (b x)) : ∀ x : S32, Fm u x → Fm v (each op b x)
 | ⟨o, n, a, f, t, k⟩, h => by
  have hk := fm_is.1 h
  rw [each]
  split
  ·rename_i e
   refine fm_is.2 ⟨?_, fun y hy => ?_⟩
   ·have h1 := hk.1
    unfold fieldsF at h1 ⊢
    dsimp only at h1 ⊢
    rcases e with rfl | rfl <;> simpa using h1
   ·exfalso
    have h1 := hk.1
    have h2 : k.length = 0 := by
     unfold fieldsF at h1
     dsimp only at h1
     repeat' split at h1
     all_goals first | omega | (simp at h1; done) | (rw [beq_iff_eq] at h1; exact h1)
    have := List.eq_nil_of_length_eq_zero h2
    subst this
    simp at hy
  ·split
   ·rename_i e
    subst e
    have hvin : vin o u = u := by unfold vin; rw [if_neg (by omega)]
    have h2 := hk.2
    dsimp only at h2
    rw [hvin] at h2
    exact fm_join hop (fm_eachs hop hb k h2)
   ·exact hb _ h
theorem fm_eachs {op : Int} (hop : op = 5 ∨ op = 6) {u v : Int} {b : S32 → S32} (hb : ∀ x, Fm u x → Fm v (b x)) : ∀ l : List S32, (∀ x ∈ l, Fm u x) → ∀ x ∈ eachs op b l, Fm v x
 | [], _ => by simp [eachs]
 | y :: l, h => by
  intro x hx
  rw [eachs] at hx
  rcases List.mem_cons.1 hx with rfl | hx
  ·exact fm_each hop hb y (h y (by simp))
  ·exact fm_eachs hop hb l (fun z hz => h z (by simp [hz])) x hx
end
theorem fm_over {q : Int} (hq : q = 8 ∨ q = 9 ∨ q = 11 ∨ q = 12) {n : ByteArray} {v : Int} (hn : q = 8 ∨ q = 9 → symB n = true) (hn2 : q = 11 ∨ q = 12 → n.toList = []) {g : S32} (h : Fm (vin q v) g) : Fm v (overF q n g) := by
 unfold overF
 refine fm_each (by split <;> simp) (u := vin q v) (fun x hx => fm_mk ?_ (by simpa using hx)) g h
 rcases hq with rfl | rfl | rfl | rfl
 ·simp [fieldsF, hn]
 ·simp [fieldsF, hn]
 ·simp [fieldsF, hn2]
 ·simp [fieldsF, hn2]
theorem fm_during {f t v : Int} (hf : momOk f = true) (ht : momOk t = true) {g : S32} (h : Fm v g) : Fm v (duringF f t g) := by
 unfold duringF
 split
 ·exact fm_const true v
 ·exact fm_each (Or.inl rfl) (fun x hx => fm_mk (by simp [fieldsF, eStr_nil, hf, ht]) (by simpa [vin] using hx)) g h
mutual
theorem fm_inverse {v : Int} : ∀ x : S32, Fm v x → Fm v (inverseF x)
 | ⟨o, n, a, f, t, k⟩, h => by
  have hk := fm_is.1 h
  rw [inverseF]
  split
  ·exact fm_const _ v
  ·split
   ·rename_i e
    subst e
    have h2 := hk.2
    exact fm_join (Or.inr rfl) (fm_inverses k h2)
   ·exact fm_mk (by simp [fieldsF, eStr_nil]) (by simpa [vin] using h)
theorem fm_inverses {v : Int} : ∀ l : List S32, (∀ x ∈ l, Fm v x) → ∀ x ∈ inverses l, Fm v x
 | [], _ => by simp [inverses]
 | y :: l, h => by
  intro x hx
  rw [inverses] at hx
  rcases List.mem_cons.1 hx with rfl | hx
  ·exact fm_inverse y (h y (by simp))
  ·exact fm_inverses l (fun z hz => h z (by simp [hz])) x hx
end
theorem fm_getD {v : Int} {l : List S32} (h : ∀ x ∈ l, Fm v x) (i : Nat) (hi : i < l.length) : Fm v (l.getD i z32) := by
 rw [List.getD_eq_getElem?_getD, List.getElem?_eq_getElem hi]
 exact h _ (List.getElem_mem hi)
mutual
theorem fm_nf : ∀ (x : S32) (neg : Bool) (v : Int), Fm v x → Fm v (nf x neg)
 | ⟨o, n, a, f, t, k⟩, neg, v, h => by
  have hx := fm_is.1 h
  have hs := wf_shape (show Wf _ from ⟨v, h⟩)
  dsimp only at hs hx
  have h0 := fm_nfs k neg _ hx.2
  have h1 := fm_nfs k (!neg) _ hx.2
  have h2 := fm_nfs k false _ hx.2
  have l0 := nfs_len k neg
  have l1 := nfs_len k (!neg)
  have l2 := nfs_len k false
  rw [nf]
  split
  ·exact fm_const _ v
  split
  ·rename_i e
   subst e
   split
   ·exact fm_mk (by simp [fieldsF, eStr_nil]) (by simpa [vin] using h)
   ·exact h
  split
  ·rename_i e
   subst e
   have := hs.2.2.1 (Or.inl rfl)
   exact fm_getD h1 0 (by omega)
  split
  ·rename_i e
   subst e
   have := hs.2.2.2.1 rfl
   have hm : ∀ x ∈ [(nfs k (!neg)).getD 0 z32, (nfs k neg).getD 1 z32], Fm v x := by
    intro x hx
    rcases List.mem_cons.1 hx with rfl | hx
    ·exact fm_getD h1 0 (by omega)
    ·rw [List.mem_singleton] at hx
     subst hx
     exact fm_getD h0 1 (by omega)
   exact fm_join (by cases neg <;> simp) hm
  split
  ·rename_i e
   subst e
   have := hs.2.2.1 (by simp)
   have hm : momOk f = true ∧ momOk t = true := by
    have h1 := hx.1
    unfold fieldsF at h1
    dsimp only at h1
    repeat' split at h1
    all_goals first | (simp only [Bool.and_eq_true, beq_iff_eq] at h1; exact ⟨h1.1.2, h1.2⟩) | (simp at h1; done) | omega
   have hg : Fm v (duringF f t ((nfs k false).getD 0 z32)) := fm_during hm.1 hm.2 (fm_getD h2 0 (by omega))
   split
   ·exact fm_inverse _ hg
   ·exact hg
  ·have ho : o = 5 ∨ o = 6 ∨ o = 8 ∨ o = 9 ∨ o = 11 ∨ o = 12 := by omega
   rcases ho with rfl | rfl | rfl | rfl | rfl | rfl
   ·rw [if_pos (by cases neg <;> simp [oppo])]
    exact fm_join (by cases neg <;> simp [oppo]) h0
   ·rw [if_pos (by cases neg <;> simp [oppo])]
    exact fm_join (by cases neg <;> simp [oppo]) h0
   all_goals
    have hk := hs.2.2.1 (by simp)
    rw [if_neg (by cases neg <;> simp [oppo])]
    have hfl := hx.1
    unfold fieldsF at hfl
    simp at hfl
    refine fm_over (by cases neg <;> simp [oppo]) (fun _ => ?_) (fun _ => ?_) ?_
    ·first | exact hfl.2.2.2 | (rename_i g; cases neg <;> simp [oppo] at g)
    ·first | exact hfl.2.2.1 | (rename_i g; cases neg <;> simp [oppo] at g)
    ·have := fm_getD h0 0 (by omega)
     cases neg <;> simpa [vin, oppo] using this
theorem fm_nfs : ∀ (l : List S32) (neg : Bool) (v : Int), (∀ x ∈ l, Fm v x) → ∀ x ∈ nfs l neg, Fm v x
 | [], _, _, _ => by simp [nfs]
 | y :: l, neg, v, h => by
  intro x hx
  rw [nfs] at hx
  rcases List.mem_cons.1 hx with rfl | hx
  ·exact fm_nf y neg v (h y (by simp))
  ·exact fm_nfs l neg v (fun z hz => h z (by simp [hz])) x hx
end
end Go.Proofs.YtbahnpdgaoedmaaGreatDoor.Mm
namespace Go.Proofs
open Go.Shelf
def Tryz.lays169_ren : Go.Shelf.Ren := ⟨fun | 169 => 54 | n => n, fun | 70 => 95 | 9 => 9 | 0 => 0 | 72 => 98 | 37 => 96 | 127 => 125 | 3 => 3 | 5 => 5 | n => n, fun | n => n⟩
theorem Tryz.lays169 : Go.Proofs.Lays.n169 Tryz.prog Tryz.lays169_ren := {
 mixed := by kernel_rfl
 f169 := Tryz.func54.trans (congrArg some (by kernel_rfl))
 t0 := Tryz.underlying0
 a0 := Tryz.isAgg0
 z0 := Tryz.sizeOf0
 v0 := Tryz.zeroValue0
 t3 := Tryz.underlying3
 a3 := Tryz.isAgg3
 z3 := Tryz.sizeOf3
 v3 := Tryz.zeroValue3
 t9 := Tryz.underlying9
 a9 := Tryz.isAgg9
 z9 := Tryz.sizeOf9
 v9 := Tryz.zeroValue9
 t37 := Tryz.underlying96
 a37 := Tryz.isAgg96
 z37 := Tryz.sizeOf96
 v37 := Tryz.zeroValue96
 t70 := Tryz.underlying95
 a70 := Tryz.isAgg95
 z70 := Tryz.sizeOf95
 v70 := Tryz.zeroValue95
 t72 := Tryz.underlying98
 a72 := Tryz.isAgg98
 z72 := Tryz.sizeOf98
 v72 := Tryz.zeroValue98
 t127 := Tryz.underlying125
 a127 := Tryz.isAgg125
 z127 := Tryz.sizeOf125
 v127 := Tryz.zeroValue125 }
theorem Tryz.Builder_Extra_169 : Builder.Extra Tryz.prog Tryz.lays169_ren := {
 sizeBuilder := by kernel_rfl
 liesBuilder := by kernel_rfl
 t5 := Tryz.underlying5
 a5 := Tryz.isAgg5
 z5 := Tryz.sizeOf5
 v5 := Tryz.zeroValue5
 infoByte := by kernel_rfl
 cellsByte := by kernel_rfl
 sizeByte := by kernel_rfl
 neB5 := by decide }
def Tryz.laysM171_ren : Go.Shelf.Ren := ⟨fun | 171 => 87 | 243 => 107 | 246 => 115 | 283 => 133 | 284 => 134 | 285 => 135 | 286 => 136 | 129 => 132 | 317 => 146 | 318 => 147 | 319 => 148 | 320 => 149 | 337 => 151 | 338 => 152 | n => n, fun | 3 => 3 | 9 => 9 | 2 => 2 | 4 => 4 | 171 => 154 | 0 => 0 | 53 => 153 | 37 => 96 | 5 => 5 | 173 => 156 | 212 => 166 | 51 => 151 | 20 => 20 | 213 => 167 | 46 => 137 | 232 => 171 | 233 => 172 | n => n, fun | 17 => 0 | 18 => 1 | 19 => 2 | n => n⟩
theorem Tryz.laysM171 : Go.Proofs.LaysM.n171 Tryz.prog Tryz.laysM171_ren := {
 mixed := by kernel_rfl
 f129 := Tryz.func132.trans (congrArg some (by kernel_rfl))
 f171 := Tryz.func87.trans (congrArg some (by kernel_rfl))
 f243 := Tryz.func107.trans (congrArg some (by kernel_rfl))
 f246 := Tryz.func115.trans (congrArg some (by kernel_rfl))
 f283 := Tryz.func133.trans (congrArg some (by kernel_rfl))
 f284 := Tryz.func134.trans (congrArg some (by kernel_rfl))
 f285 := Tryz.func135.trans (congrArg some (by kernel_rfl))
 f286 := Tryz.func136.trans (congrArg some (by kernel_rfl))
 f317 := Tryz.func146.trans (congrArg some (by kernel_rfl))
 f318 := Tryz.func147.trans (congrArg some (by kernel_rfl))
 f319 := Tryz.func148.trans (congrArg some (by kernel_rfl))
 f320 := Tryz.func149.trans (congrArg some (by kernel_rfl))
 f337 := Tryz.func151.trans (congrArg some (by kernel_rfl))
 f338 := Tryz.func152.trans (congrArg some (by kernel_rfl))
 t0 := Tryz.underlying0
 a0 := Tryz.isAgg0
 z0 := Tryz.sizeOf0
 v0 := Tryz.zeroValue0
 t2 := Tryz.underlying2
 a2 := Tryz.isAgg2
 z2 := Tryz.sizeOf2
 v2 := Tryz.zeroValue2
 t3 := Tryz.underlying3
 a3 := Tryz.isAgg3
 z3 := Tryz.sizeOf3
 v3 := Tryz.zeroValue3
 t4 := Tryz.underlying4
 a4 := Tryz.isAgg4
 z4 := Tryz.sizeOf4
 v4 := Tryz.zeroValue4
 t5 := Tryz.underlying5
 a5 := Tryz.isAgg5
 z5 := Tryz.sizeOf5
 v5 := Tryz.zeroValue5
 t9 := Tryz.underlying9
 a9 := Tryz.isAgg9
 z9 := Tryz.sizeOf9
 v9 := Tryz.zeroValue9
 t20 := Tryz.underlying20
 a20 := Tryz.isAgg20
 z20 := Tryz.sizeOf20
 v20 := Tryz.zeroValue20
 t37 := Tryz.underlying96
 a37 := Tryz.isAgg96
 z37 := Tryz.sizeOf96
 v37 := Tryz.zeroValue96
 t46 := Tryz.underlying137
 a46 := Tryz.isAgg137
 z46 := Tryz.sizeOf137
 v46 := Tryz.zeroValue137
 t51 := Tryz.underlying151
 a51 := Tryz.isAgg151
 z51 := Tryz.sizeOf151
 v51 := Tryz.zeroValue151
 t53 := Tryz.underlying153
 a53 := Tryz.isAgg153
 z53 := Tryz.sizeOf153
 v53 := Tryz.zeroValue153
 t171 := Tryz.underlying154
 a171 := Tryz.isAgg154
 z171 := Tryz.sizeOf154
 v171 := Tryz.zeroValue154
 t173 := Tryz.underlying156
 a173 := Tryz.isAgg156
 z173 := Tryz.sizeOf156
 v173 := Tryz.zeroValue156
 t212 := Tryz.underlying166
 a212 := Tryz.isAgg166
 z212 := Tryz.sizeOf166
 v212 := Tryz.zeroValue166
 t213 := Tryz.underlying167
 a213 := Tryz.isAgg167
 z213 := Tryz.sizeOf167
 t232 := Tryz.underlying171
 a232 := Tryz.isAgg171
 z232 := Tryz.sizeOf171
 v232 := Tryz.zeroValue171
 t233 := Tryz.underlying172
 a233 := Tryz.isAgg172
 z233 := Tryz.sizeOf172
 v233 := Tryz.zeroValue172
 g17 := by kernel_rfl
 g18 := by kernel_rfl
 g19 := by kernel_rfl
 i0 := by kernel_rfl
 i2 := by kernel_rfl
 i3 := by kernel_rfl
 i4 := by kernel_rfl
 i5 := by kernel_rfl
 i9 := by kernel_rfl
 i20 := by kernel_rfl
 i37 := by kernel_rfl
 i46 := by kernel_rfl
 i51 := by kernel_rfl
 i53 := by kernel_rfl
 i171 := by kernel_rfl
 i173 := by kernel_rfl
 i212 := by kernel_rfl
 i232 := by kernel_rfl
 i233 := by kernel_rfl
 m17 := by kernel_rfl
 m18 := by kernel_rfl
 m19 := by kernel_rfl }
end Go.Proofs
namespace Go.Proofs.YtbahnpdgaoedmaaGreatDoor.Mm
open Go.RowKit Go.Proofs.YtbahnpdgaoedmaaGreatDoorW.PrintWords Go.Proofs.YtbahnpdgaoedmaaGreatDoorW.PrintLast Go.Proofs.YtbahnpdgaoedmaaGreatDoorW.PrintMore Go.Proofs.YtbahnpdgaoedmaaGreatDoor.PMemoryExact
set_option linter.unusedSimpArgs false
set_option linter.unusedVariables false
abbrev BAt (b : Nat) (bs : List Value) (w : World) : Prop := Lib.BuilderAtF 98 5 b b (.pointer (some ⟨b, 0, none⟩)) bs w
abbrev BIs (b : Nat) (bs : List Value) (w : World) : Prop := Lib.IsBuilderF 98 5 b b bs w
/-- What a writer leaves. -/
def Wrote (b : Nat) (bs : List Value) (w w' : World) : Prop := BIs b bs w' ∧ Below b w w' ∧ Lib.OthersKept 5 (some b) w w'
set_option maxRecDepth 1000000 in
set_option maxHeartbeats 4000000 in
theorem check_any {b : Nat} {bs : List Value} {w : World} (h : BIs b bs w) :
  Calls Tryz.prog 106 #[.pointer (some ⟨b, 0, none⟩)] w fun e w' => e = .returned (.tuple #[]) ∧ BAt b bs w' ∧ Below b w w' ∧ Lib.OthersKept 5 (some b) w w' := by
 obtain ⟨j, hj, hjs⟩ := Option.map_eq_some_iff.1 (show (Tryz.prog.info? 98).map (·.size) = some 2 by kernel_rfl)
 rcases h with h | h
 ·have HH := Lib.hid h
  have h0 := h.cell0
  have hsh := Lib.hid h.shape
  have hfz := h.frozen0
  clear h
  go_enter Tryz.func106, Tryz.ntmps106
  go_wp2
  rw [Lib.run_to_unsafe w ⟨b, 0, none⟩ Tryz.underlying95 Tryz.underlying138 hj (by rw [hjs]; decide) hsh.out (Nat.zero_lt_succ 1)]
  simp only [Result.andThen]
  rw [Oper.upon_value]
  go_wp2
  rw [run_callFunc_extern Tryz.func114 (by kernel_rfl) (by kernel_rfl) (by kernel_rfl) (e := Extern.AbiNoEscape.same) (by kernel_rfl)]
  rw [Lib.run_noEscape]
  simp only [Result.andThen]
  rw [Oper.upon_value]
  go_wp2
  rw [Lib.run_from_unsafe w ⟨b, 0, none⟩ Tryz.underlying138 Tryz.underlying95 hj hsh.out (by kernel_rfl)]
  simp only [Result.andThen]
  rw [Oper.upon_value]
  go_wp2
  go_end0
  exact ⟨rfl, HH.out.used _, (Below.refl b w).setCell (p := ⟨b, 0, none⟩) (Nat.le_refl _) _, (Lib.OthersKept.refl _ _ w).setCell ⟨b, 0, none⟩ rfl _⟩
 ·have HH := Lib.hid h
  have h0 := h.cell0
  clear h
  go_enter Tryz.func106, Tryz.ntmps106
  go_wp2
  rw [Lib.run_neq_ptr_same w _ Tryz.underlying95 hj]
  go_wp2
  go_end0
  exact ⟨rfl, HH.out, Below.refl b _, Lib.OthersKept.refl _ _ _⟩
theorem info5 : ∃ i, Tryz.prog.info? 5 = some i ∧ i.zero = some (.int .u8 0) ∧ i.size = 1 ∧ i.bytes = 1 := by
 have h : (Tryz.prog.info? 5).map (fun i => (i.zero, i.size, i.bytes)) = some (some (.int .u8 0), 1, 1) := by kernel_rfl
 obtain ⟨i, hi, he⟩ := Option.map_eq_some_iff.1 h
 simp only [Prod.mk.injEq] at he
 exact ⟨i, hi, he.1, he.2.1, he.2.2⟩
set_option maxRecDepth 1000000 in
set_option maxHeartbeats 4000000 in
theorem wstr_any {b : Nat} {bs : List Value} {w : World} (s : ByteArray) (h : BIs b bs w) (hlen : bs.length + s.size ≤ 140737488355328) :
  Calls Tryz.prog 85 #[.pointer (some ⟨b, 0, none⟩), .string s] w fun e w' => e = .returned (.tuple #[.int .i64 s.size, .nilIface]) ∧ Wrote b (bs ++ Lib.strCells s) w w' := by
 obtain ⟨i0, hi, hz0, hz1, hz2⟩ := info5
 go_enter Tryz.func85, Tryz.ntmps85
 go_wp2_with fail
 refine (check_any h).mono ?_
 rintro e w1 ⟨rfl, h1, hb1, hk1⟩
 have hlt := h1.lt
 obtain ⟨hB, v, hbk, hown, hne⟩ := h1
 have c0 : w1.cell? ⟨b, 0, none⟩ = some (.pointer (some ⟨b, 0, none⟩)) := by rw [Lib.cell_of_heap hbk]; rfl
 have c1 : w1.cell? ⟨b, 1, none⟩ = some v := by rw [Lib.cell_of_heap hbk]; rfl
 have HK1 := Lib.hid hk1
 have HB1 := Lib.hid hb1
 clear h hb1 hk1
 go_wp2_with (at_builtin; refine Lib.wpList_append_own_stringF _ rfl _ _ 96 9 rfl b 5 i0 Tryz.underlying96 Tryz.underlying9 hi hz0 hz1 hz2 _ _ _ rfl hown s rfl ?c3 ?c4 ?c5 ?_)
 case c3 => unfold maxLen; omega
 case c4 => omega
 case c5 => omega
 intro v' w2 hown' hgrow _
 have hb2 : w2.heap[b]? = some (.cells #[.pointer (some ⟨b, 0, none⟩), v] 98 (0, 0)) := by
  rw [hgrow.block b hlt (fun e => hne e.symm)]
  exact hbk
 have d0 : w2.cell? ⟨b, 0, none⟩ = some (.pointer (some ⟨b, 0, none⟩)) := by rw [Lib.cell_of_heap hb2]; rfl
 have d1 : w2.cell? ⟨b, 1, none⟩ = some v := by rw [Lib.cell_of_heap hb2]; rfl
 have f1 : w2.frozen? ⟨b, 1, none⟩ = false := Lib.frozen_of_heap hb2 1
 obtain ⟨ao, n', cap, rfl⟩ : ∃ ao n' cap, v' = .slice ao n' cap := by
  rcases hown'.2 with ⟨hv, _⟩ | ⟨g, cap, cur, fz, hv, _⟩
  ·exact ⟨_, _, _, hv⟩
  ·exact ⟨_, _, _, hv⟩
 go_wp2
 go_ret2
 refine ⟨rfl, Or.inr (Lib.BuilderAtF.put (T := 98) (e := 5) hB hb2 (bs' := bs ++ Lib.strCells s) (by simpa [Lib.strCells_length] using hown') (by decide)), ?_, (HK1.out.grown hgrow (Lib.ownsRowF_kind hown)).setCell ⟨b, 1, none⟩ rfl _⟩
 exact (HB1.out.grown hgrow (by omega) (fun k hk => (hown.lt k hk).1)).setCell (p := ⟨b, 1, none⟩) hB _
set_option maxRecDepth 1000000 in
set_option maxHeartbeats 4000000 in
theorem wbyte_any {b : Nat} {bs : List Value} {w : World} (c : Int) (h : BIs b bs w) (hlen : bs.length + 1 ≤ 140737488355328) :
  Calls Tryz.prog 88 #[.pointer (some ⟨b, 0, none⟩), .int .u8 c] w fun e w' => e = .returned .nilIface ∧ Wrote b (bs ++ [.int .u8 c]) w w' := by
 obtain ⟨i0, hi, hz0, hz1, hz2⟩ := info5
 go_enter Tryz.func88, Tryz.ntmps88
 go_wp2_with fail
 refine (check_any h).mono ?_
 rintro e w1 ⟨rfl, h1, hb1, hk1⟩
 have hlt := h1.lt
 obtain ⟨hB, v, hbk, hown, hne⟩ := h1
 have c0 : w1.cell? ⟨b, 0, none⟩ = some (.pointer (some ⟨b, 0, none⟩)) := by rw [Lib.cell_of_heap hbk]; rfl
 have c1 : w1.cell? ⟨b, 1, none⟩ = some v := by rw [Lib.cell_of_heap hbk]; rfl
 have HK1 := Lib.hid hk1
 have HB1 := Lib.hid hb1
 clear h hb1 hk1
 go_wp2_with (at_builtin; refine wpList_append_ownF _ rfl _ _ 96 rfl b 5 i0 (.int .u8 0) 1 1 Tryz.underlying96 hi hz0 hz1 hz2 rfl (by decide) _ _ _ rfl (hown.alloc _) ⟨w1.heap.size, 0, none⟩ 1 1 [.int .u8 c] rfl rfl ?c1 ?c2 ?c3 ?c4 ?c5 ?_)
 case c1 =>
  intro j u hj
  match j, hj with
  | 0, hj => simp at hj; subst hj; simp [Addr.add]
 case c2 => intro u hu; simp at hu; subst hu; rfl
 case c3 => unfold maxLen; omega
 case c4 => omega
 case c5 => simp; omega
 intro v' w2 hown' hgrow _
 have hb2 : w2.heap[b]? = some (.cells #[.pointer (some ⟨b, 0, none⟩), v] 98 (0, 0)) := by
  rw [hgrow.block b (by simp; omega) (fun e => hne e.symm), Lib.alloc_old w1 _ b hlt]
  exact hbk
 have d0 : w2.cell? ⟨b, 0, none⟩ = some (.pointer (some ⟨b, 0, none⟩)) := by rw [Lib.cell_of_heap hb2]; rfl
 have d1 : w2.cell? ⟨b, 1, none⟩ = some v := by rw [Lib.cell_of_heap hb2]; rfl
 have f1 : w2.frozen? ⟨b, 1, none⟩ = false := Lib.frozen_of_heap hb2 1
 obtain ⟨g, cap, rfl⟩ : ∃ g cap, v' = .slice (some ⟨g, 0, none⟩) (bs.length + 1) cap := by
  rcases hown'.2 with ⟨_, h0⟩ | ⟨g, cap, cur, fz, hv, _⟩
  ·omega
  ·exact ⟨g, cap, hv⟩
 go_wp2
 go_ret
 refine ⟨rfl, Or.inr (Lib.BuilderAtF.put (T := 98) (e := 5) hB hb2 (bs' := bs ++ [.int .u8 c]) (by simpa using hown') (by decide)), ?_, ((HK1.out.alloc _).grown hgrow (Lib.ownsRowF_kind (hown.alloc _))).setCell ⟨b, 1, none⟩ rfl _⟩
 exact ((HB1.out.alloc (by omega) _).grown hgrow (by simp; omega) (fun k hk => (hown.lt k hk).1)).setCell (p := ⟨b, 1, none⟩) hB _
/-- String -/
theorem str_any {b : Nat} (l : List UInt8) {w : World} (h : BIs b (Lib.byteCells l) w) (hb : b ≤ w.heap.size) :
  Calls Tryz.prog 54 #[.pointer (some ⟨b, 0, none⟩)] w fun e w' => e = .returned (.string ⟨l.toArray⟩) ∧ Below b w w' :=
 (Any.Builder_String_any_k Tryz.lays169 Tryz.Builder_Extra_169 b b l w h hb).mono fun e w' h => ⟨h.1, h.2.2.1⟩
/-- Itoa -/
theorem itoa_any (n : Int) (h0 : -9223372036854775808 ≤ n) (h1 : n ≤ 9223372036854775807) {w : World} (htab : Lib.TabIs Tryz.prog w "internal/strconv.uint64pow10" .u64 Lib.pow10Tab) :
  Calls Tryz.prog 87 #[.int .i64 n] w fun e w' => e = .returned (.string ⟨(Lib.itoa n).toArray⟩) ∧ ∃ k os, w' = Go.Sort.grow (w.drewN k) os :=
 Any.strconv_Itoa Tryz.laysM171 n h0 h1 w htab
end Go.Proofs.YtbahnpdgaoedmaaGreatDoor.Mm
namespace Go.Proofs.YtbahnpdgaoedmaaGreatDoor.PMemoryExact
open Go.RowKit Go.Proofs.YtbahnpdgaoedmaaGreatDoorW.PrintWords Go.Proofs.YtbahnpdgaoedmaaGreatDoorW.PrintLast Go.Proofs.YtbahnpdgaoedmaaGreatDoorW.PrintMore
attribute [local go_sem] max2_int min2_int max_two min_two max_three min_three max_four min_four   -- for this text's walks alone
set_option linter.unusedVariables false
set_option linter.unusedSimpArgs false
/-! ### formula_keyword: function 86 -/
def formula_keyword.f (a0 : Int) : Option (ByteArray) := if a0 = 1 then (some (⟨#[84, 82, 85, 69]⟩ : ByteArray)) else (if a0 = 2 then (some (⟨#[70, 65, 76, 83, 69]⟩ : ByteArray)) else (if a0 = 4 then (some (⟨#[78, 79, 84]⟩ : ByteArray)) else (if a0 = 5 then (some (⟨#[65, 78, 68]⟩ : ByteArray)) else (if a0 = 6 then (some (⟨#[79, 82]⟩ : ByteArray)) else (if a0 = 7 then (some (⟨#[73, 77, 80, 76, 73, 69, 83]⟩ : ByteArray)) else (if a0 = 8 then (some (⟨#[65, 76, 76]⟩ : ByteArray)) else (if a0 = 9 then (some (⟨#[83, 79, 77, 69]⟩ : ByteArray)) else (if a0 = 10 then (some (⟨#[68, 85, 82, 73, 78, 71]⟩ : ByteArray)) else (if a0 = 11 then (some (⟨#[79, 66, 76, 73, 71, 69, 68]⟩ : ByteArray)) else (if a0 = 12 then (some (⟨#[80, 69, 82, 77, 73, 84, 84, 69, 68]⟩ : ByteArray)) else (some (⟨#[]⟩ : ByteArray))))))))))))
set_option maxHeartbeats 8000000 in
set_option maxRecDepth 100000 in
theorem formula_keyword.calls (a0 : Int) (r : ByteArray) (w : World) (h : formula_keyword.f a0 = some r) :
  Calls Tryz.prog 86 #[.int .i64 a0] w fun e w' => e = .returned (.string r) ∧ Drawn0 w w' := by
 have H : (if a0 = 1 then (some (⟨#[84, 82, 85, 69]⟩ : ByteArray)) else (if a0 = 2 then (some (⟨#[70, 65, 76, 83, 69]⟩ : ByteArray)) else (if a0 = 4 then (some (⟨#[78, 79, 84]⟩ : ByteArray)) else (if a0 = 5 then (some (⟨#[65, 78, 68]⟩ : ByteArray)) else (if a0 = 6 then (some (⟨#[79, 82]⟩ : ByteArray)) else (if a0 = 7 then (some (⟨#[73, 77, 80, 76, 73, 69, 83]⟩ : ByteArray)) else (if a0 = 8 then (some (⟨#[65, 76, 76]⟩ : ByteArray)) else (if a0 = 9 then (some (⟨#[83, 79, 77, 69]⟩ : ByteArray)) else (if a0 = 10 then (some (⟨#[68, 85, 82, 73, 78, 71]⟩ : ByteArray)) else (if a0 = 11 then (some (⟨#[79, 66, 76, 73, 71, 69, 68]⟩ : ByteArray)) else (if a0 = 12 then (some (⟨#[80, 69, 82, 77, 73, 84, 84, 69, 68]⟩ : ByteArray)) else (some (⟨#[]⟩ : ByteArray))))))))))))) = some r := h
 clear h
 by_cases c2 : a0 = 1
 ·rw [if_pos c2] at H
  have c2b0 : (a0 == 1) = true := beq_iff_eq.mpr c2
  have c2b1 : (a0 != 1) = false := bne_eq_false_iff_eq.mpr c2
  clear c2
  obtain rfl := Option.some.inj H
  go_enter Tryz.func86, Tryz.ntmps86
  go_wp2
  go_ret
  exact ⟨by first | rfl | (simp; done) | (simp [*]; done), by repeat (first | exact Drawn0.refl _ | apply Drawn0.step)⟩
 ·rw [if_neg c2] at H
  have c2b0 : (a0 == 1) = false := beq_eq_false_iff_ne.mpr c2
  have c2b1 : (a0 != 1) = true := bne_iff_ne.mpr c2
  by_cases c3 : a0 = 2
  ·rw [if_pos c3] at H
   have c3b0 : (a0 == 2) = true := beq_iff_eq.mpr c3
   have c3b1 : (a0 != 2) = false := bne_eq_false_iff_eq.mpr c3
   clear c3
   obtain rfl := Option.some.inj H
   go_enter Tryz.func86, Tryz.ntmps86
   go_wp2
   go_ret
   exact ⟨by first | rfl | (simp; done) | (simp [*]; done), by repeat (first | exact Drawn0.refl _ | apply Drawn0.step)⟩
  ·rw [if_neg c3] at H
   have c3b0 : (a0 == 2) = false := beq_eq_false_iff_ne.mpr c3
   have c3b1 : (a0 != 2) = true := bne_iff_ne.mpr c3
   by_cases c4 : a0 = 4
   ·rw [if_pos c4] at H
    have c4b0 : (a0 == 4) = true := beq_iff_eq.mpr c4
    have c4b1 : (a0 != 4) = false := bne_eq_false_iff_eq.mpr c4
    clear c4
    obtain rfl := Option.some.inj H
    go_enter Tryz.func86, Tryz.ntmps86
    go_wp2
    go_ret
    exact ⟨by first | rfl | (simp; done) | (simp [*]; done), by repeat (first | exact Drawn0.refl _ | apply Drawn0.step)⟩
   ·rw [if_neg c4] at H
    have c4b0 : (a0 == 4) = false := beq_eq_false_iff_ne.mpr c4
    have c4b1 : (a0 != 4) = true := bne_iff_ne.mpr c4
    by_cases c5 : a0 = 5
    ·rw [if_pos c5] at H
     have c5b0 : (a0 == 5) = true := beq_iff_eq.mpr c5
     have c5b1 : (a0 != 5) = false := bne_eq_false_iff_eq.mpr c5
     clear c5
     obtain rfl := Option.some.inj H
     go_enter Tryz.func86, Tryz.ntmps86
     go_wp2
     go_ret
     exact ⟨by first | rfl | (simp; done) | (simp [*]; done), by repeat (first | exact Drawn0.refl _ | apply Drawn0.step)⟩
    ·rw [if_neg c5] at H
     have c5b0 : (a0 == 5) = false := beq_eq_false_iff_ne.mpr c5
     have c5b1 : (a0 != 5) = true := bne_iff_ne.mpr c5
     by_cases c6 : a0 = 6
     ·rw [if_pos c6] at H
      have c6b0 : (a0 == 6) = true := beq_iff_eq.mpr c6
      have c6b1 : (a0 != 6) = false := bne_eq_false_iff_eq.mpr c6
      clear c6
      obtain rfl := Option.some.inj H
      go_enter Tryz.func86, Tryz.ntmps86
      go_wp2
      go_ret
      exact ⟨by first | rfl | (simp; done) | (simp [*]; done), by repeat (first | exact Drawn0.refl _ | apply Drawn0.step)⟩
     ·rw [if_neg c6] at H
      have c6b0 : (a0 == 6) = false := beq_eq_false_iff_ne.mpr c6
      have c6b1 : (a0 != 6) = true := bne_iff_ne.mpr c6
      by_cases c7 : a0 = 7
      ·rw [if_pos c7] at H
       have c7b0 : (a0 == 7) = true := beq_iff_eq.mpr c7
       have c7b1 : (a0 != 7) = false := bne_eq_false_iff_eq.mpr c7
       clear c7
       obtain rfl := Option.some.inj H
       go_enter Tryz.func86, Tryz.ntmps86
       go_wp2
       go_ret
       exact ⟨by first | rfl | (simp; done) | (simp [*]; done), by repeat (first | exact Drawn0.refl _ | apply Drawn0.step)⟩
      ·rw [if_neg c7] at H
       have c7b0 : (a0 == 7) = false := beq_eq_false_iff_ne.mpr c7
       have c7b1 : (a0 != 7) = true := bne_iff_ne.mpr c7
       by_cases c8 : a0 = 8
       ·rw [if_pos c8] at H
        have c8b0 : (a0 == 8) = true := beq_iff_eq.mpr c8
        have c8b1 : (a0 != 8) = false := bne_eq_false_iff_eq.mpr c8
        clear c8
        obtain rfl := Option.some.inj H
        go_enter Tryz.func86, Tryz.ntmps86
        go_wp2
        go_ret
        exact ⟨by first | rfl | (simp; done) | (simp [*]; done), by repeat (first | exact Drawn0.refl _ | apply Drawn0.step)⟩
       ·rw [if_neg c8] at H
        have c8b0 : (a0 == 8) = false := beq_eq_false_iff_ne.mpr c8
        have c8b1 : (a0 != 8) = true := bne_iff_ne.mpr c8
        by_cases c9 : a0 = 9
        ·rw [if_pos c9] at H
         have c9b0 : (a0 == 9) = true := beq_iff_eq.mpr c9
         have c9b1 : (a0 != 9) = false := bne_eq_false_iff_eq.mpr c9
         clear c9
         obtain rfl := Option.some.inj H
         go_enter Tryz.func86, Tryz.ntmps86
         go_wp2
         go_ret
         exact ⟨by first | rfl | (simp; done) | (simp [*]; done), by repeat (first | exact Drawn0.refl _ | apply Drawn0.step)⟩
        ·rw [if_neg c9] at H
         have c9b0 : (a0 == 9) = false := beq_eq_false_iff_ne.mpr c9
         have c9b1 : (a0 != 9) = true := bne_iff_ne.mpr c9
         by_cases c10 : a0 = 10
         ·rw [if_pos c10] at H
          have c10b0 : (a0 == 10) = true := beq_iff_eq.mpr c10
          have c10b1 : (a0 != 10) = false := bne_eq_false_iff_eq.mpr c10
          clear c10
          obtain rfl := Option.some.inj H
          go_enter Tryz.func86, Tryz.ntmps86
          go_wp2
          go_ret
          exact ⟨by first | rfl | (simp; done) | (simp [*]; done), by repeat (first | exact Drawn0.refl _ | apply Drawn0.step)⟩
         ·rw [if_neg c10] at H
          have c10b0 : (a0 == 10) = false := beq_eq_false_iff_ne.mpr c10
          have c10b1 : (a0 != 10) = true := bne_iff_ne.mpr c10
          by_cases c11 : a0 = 11
          ·rw [if_pos c11] at H
           have c11b0 : (a0 == 11) = true := beq_iff_eq.mpr c11
           have c11b1 : (a0 != 11) = false := bne_eq_false_iff_eq.mpr c11
           clear c11
           obtain rfl := Option.some.inj H
           go_enter Tryz.func86, Tryz.ntmps86
           go_wp2
           go_ret
           exact ⟨by first | rfl | (simp; done) | (simp [*]; done), by repeat (first | exact Drawn0.refl _ | apply Drawn0.step)⟩
          ·rw [if_neg c11] at H
           have c11b0 : (a0 == 11) = false := beq_eq_false_iff_ne.mpr c11
           have c11b1 : (a0 != 11) = true := bne_iff_ne.mpr c11
           by_cases c12 : a0 = 12
           ·rw [if_pos c12] at H
            have c12b0 : (a0 == 12) = true := beq_iff_eq.mpr c12
            have c12b1 : (a0 != 12) = false := bne_eq_false_iff_eq.mpr c12
            clear c12
            obtain rfl := Option.some.inj H
            go_enter Tryz.func86, Tryz.ntmps86
            go_wp2
            go_ret
            exact ⟨by first | rfl | (simp; done) | (simp [*]; done), by repeat (first | exact Drawn0.refl _ | apply Drawn0.step)⟩
           ·rw [if_neg c12] at H
            have c12b0 : (a0 == 12) = false := beq_eq_false_iff_ne.mpr c12
            have c12b1 : (a0 != 12) = true := bne_iff_ne.mpr c12
            obtain rfl := Option.some.inj H
            go_enter Tryz.func86, Tryz.ntmps86
            go_wp2
            go_ret
            exact ⟨by first | rfl | (simp; done) | (simp [*]; done), by repeat (first | exact Drawn0.refl _ | apply Drawn0.step)⟩
end Go.Proofs.YtbahnpdgaoedmaaGreatDoor.PMemoryExact
