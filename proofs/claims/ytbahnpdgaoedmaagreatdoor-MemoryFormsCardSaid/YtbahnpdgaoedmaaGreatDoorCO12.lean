/- Part 12 of the proof of MemoryForms: Mwa, Mwr1, Mwr2. -/
import Derived.Test.YtbahnpdgaoedmaaGreatDoorCO11
namespace Go.Proofs.YtbahnpdgaoedmaaGreatDoor.Mm
open Go.RowKit Go.Proofs.YtbahnpdgaoedmaaGreatDoorW.PrintWords Go.Proofs.YtbahnpdgaoedmaaGreatDoorW.PrintLast Go.Proofs.YtbahnpdgaoedmaaGreatDoorW.PrintMore Go.Proofs.YtbahnpdgaoedmaaGreatDoor.PMemoryExact
set_option linter.unusedSimpArgs false
set_option linter.unusedVariables false
/-- The table of powers of ten lies in the world. -/
abbrev TB (w : World) : Prop := Lib.TabIs Tryz.prog w "internal/strconv.uint64pow10" .u64 Lib.pow10Tab
theorem tb_glob : ∃ g, Tryz.prog.globalNamed "internal/strconv.uint64pow10" = some g := by
 have : (Tryz.prog.globalNamed "internal/strconv.uint64pow10").isSome = true := by kernel_rfl
 exact Option.isSome_iff_exists.1 this
theorem tb_below {B : Nat} {w W : World} (h : TB w) (hB : Below B w W) (hlt : w.heap.size ≤ B ∨ ∀ g, Tryz.prog.globalNamed "internal/strconv.uint64pow10" = some g → g < B) : TB W := by
 obtain ⟨g, hg⟩ := tb_glob
 unfold TB Lib.TabIs World.var? at h ⊢
 simp only [hg, Option.bind_some] at h ⊢
 have hgl : g < w.heap.size := by
  apply Classical.byContradiction
  intro hn
  rw [Array.getElem?_eq_none (by omega)] at h
  simp at h
 rw [hB.block g (by rcases hlt with hlt | hlt; exact Nat.lt_of_lt_of_le hgl hlt; exact hlt g hg)]
 exact h
/-- The builder b holds l; since a, nothing below b has changed, and nothing else but rows of bytes. -/
def Wr (b : Nat) (l : List UInt8) (a c : World) : Prop := BIs b (Lib.byteCells l) c ∧ Below b a c ∧ Lib.OthersKept 5 (some b) a c
theorem bis_lt {b : Nat} {bs : List Value} {w : World} (h : BIs b bs w) : b < w.heap.size := h.elim (fun x => x.lt) (fun x => x.lt)
theorem bis_step {b : Nat} {bs : List Value} {w w' : World} (h : BIs b bs w) (hk : ∀ k, k < w.heap.size → w'.heap[k]? = w.heap[k]?) : BIs b bs w' := by
 have key : ∀ p, Lib.BuilderAtF 98 5 b b p bs w → Lib.BuilderAtF 98 5 b b p bs w' := by
  rintro p ⟨hB, v, hb, ⟨h1, h2⟩, hne⟩
  refine ⟨hB, v, (hk b (blk_lt hb)).trans hb, ⟨h1, ?_⟩, hne⟩
  rcases h2 with h2 | ⟨g, cap, cur, fz, hv, hbg, hg, rest⟩
  ·exact Or.inl h2
  ·exact Or.inr ⟨g, cap, cur, fz, hv, hbg, (hk g (blk_lt hg)).trans hg, rest⟩
 exact h.elim (fun x => Or.inl (key _ x)) (fun x => Or.inr (key _ x))
theorem Wr.step {b : Nat} {l l' : List UInt8} {a c d : World} (h : Wr b l a c) (k : Wrote b (Lib.byteCells l') c d) : Wr b l' a d := ⟨k.1, h.2.1.trans k.2.1, h.2.2.trans k.2.2⟩
theorem Wr.grow {b : Nat} {l : List UInt8} {a c d : World} (h : Wr b l a c) (hk : ∀ k, k < c.heap.size → d.heap[k]? = c.heap[k]?) (hB : Below b c d) : Wr b l a d :=
 ⟨bis_step h.1 hk, h.2.1.trans hB, fun k o ho hb ht => (hk k (blk_lt (h.2.2 k o ho hb ht))).trans (h.2.2 k o ho hb ht)⟩
theorem Wr.alloc {b : Nat} {l : List UInt8} {a c : World} (h : Wr b l a c) (o : Obj) : Wr b l a (c.alloc o) :=
 h.grow (fun k hk => Below.heap_alloc _ _ _ hk) ((Below.refl b c).alloc (Nat.le_of_lt (bis_lt h.1)) o)
theorem Wr.drew {b : Nat} {l : List UInt8} {a c : World} (h : Wr b l a c) : Wr b l a c.drew := h.grow (fun k hk => rfl) ((Below.refl b c).drew)
theorem Wr.drawn {b : Nat} {l : List UInt8} {a c d : World} (h : Wr b l a c) (hd : Drawn0 c d) : Wr b l a d := by
 obtain ⟨m, rfl⟩ := hd.out
 exact h.grow (fun k hk => rfl) ⟨rfl, rfl, rfl, Nat.le_refl _, fun k _ => rfl⟩
theorem Wr.itoa {b : Nat} {l : List UInt8} {a c : World} {k : Nat} {os : Array Obj} (h : Wr b l a c) : Wr b l a (Go.Sort.grow (c.drewN k) os) := by
 have hk : ∀ j, j < c.heap.size → (Go.Sort.grow (c.drewN k) os).heap[j]? = c.heap[j]? := fun j hj => by
  show (c.heap ++ os)[j]? = _
  rw [Array.getElem?_append_left hj]
 exact h.grow hk ⟨rfl, rfl, rfl, by show _ ≤ (c.heap ++ os).size; simp, fun j hj => hk j (Nat.lt_trans hj (bis_lt h.1))⟩
/-- What stands, and is no row of bytes, stands still. -/
theorem Wr.blk {b : Nat} {l : List UInt8} {a c : World} (h : Wr b l a c) {k t : Nat} {X : Array Value} (hb : a.heap[k]? = some (.cells X t (0, 0))) (ht : t ≠ 5) (hk : k ≠ b) : c.heap[k]? = some (.cells X t (0, 0)) :=
 h.2.2 k _ hb (fun e => hk (Option.some.inj e)) (fun cc fz e => ht (by injection e))
theorem Wr.tb {b : Nat} {l : List UInt8} {a c : World} (h : Wr b l a c) (ht : TB a) (hg : ∀ g, Tryz.prog.globalNamed "internal/strconv.uint64pow10" = some g → g < b) : TB c := tb_below ht h.2.1 (Or.inr hg)
theorem str_cells (s : ByteArray) : Lib.strCells s = Lib.byteCells s.data.toList := by
 simp [Lib.strCells, Lib.byteCells]
theorem cells_app (a b : List UInt8) : Lib.byteCells (a ++ b) = Lib.byteCells a ++ Lib.byteCells b := by simp [Lib.byteCells]
theorem cells_len (a : List UInt8) : (Lib.byteCells a).length = a.length := by simp [Lib.byteCells]
/-- WriteString, WriteByte, told of bytes. -/
theorem ws_any {b : Nat} {l : List UInt8} {c : World} (s : ByteArray) (h : BIs b (Lib.byteCells l) c) (hlen : l.length + s.data.toList.length ≤ 140737488355328) :
  Calls Tryz.prog 85 #[.pointer (some ⟨b, 0, none⟩), .string s] c fun e w' => e = .returned (.tuple #[.int .i64 s.size, .nilIface]) ∧ Wrote b (Lib.byteCells (l ++ s.data.toList)) c w' := by
 refine (wstr_any s h (by rw [cells_len]; simpa using hlen)).mono ?_
 rintro e w' ⟨he, hw⟩
 exact ⟨he, by rw [cells_app, ← str_cells]; exact hw⟩
theorem wb_any {b : Nat} {l : List UInt8} {c : World} (u : UInt8) (n : Int) (hn : n = u.toNat) (h : BIs b (Lib.byteCells l) c) (hlen : l.length + 1 ≤ 140737488355328) :
  Calls Tryz.prog 88 #[.pointer (some ⟨b, 0, none⟩), .int .u8 n] c fun e w' => e = .returned .nilIface ∧ Wrote b (Lib.byteCells (l ++ [u])) c w' := by
 subst hn
 refine (wbyte_any (u.toNat : Int) h (by rw [cells_len]; exact hlen)).mono ?_
 rintro e w' ⟨he, hw⟩
 exact ⟨he, by rw [cells_app]; exact hw⟩
theorem Wrote.blk {b : Nat} {bs : List Value} {a c : World} (h : Wrote b bs a c) {k t : Nat} {X : Array Value} (hb : a.heap[k]? = some (.cells X t (0, 0))) (ht : t ≠ 5) (hk : k ≠ b) : c.heap[k]? = some (.cells X t (0, 0)) :=
 h.2.2 k _ hb (fun e => hk (Option.some.inj e)) (fun cc fz e => ht (by injection e))
theorem Wr.refl {b : Nat} {l : List UInt8} {w : World} (h : BIs b (Lib.byteCells l) w) : Wr b l w w := ⟨h, Below.refl _ _, Lib.OthersKept.refl _ _ _⟩
theorem Wr.base {b : Nat} {l l' : List UInt8} {a c d : World} (h : Wr b l a c) (k : Wr b l' c d) : Wr b l' a d := ⟨k.1, h.2.1.trans k.2.1, h.2.2.trans k.2.2⟩
theorem Wr.wrote {b : Nat} {l : List UInt8} {a c : World} (h : Wr b l a c) : Wrote b (Lib.byteCells l) a c := h
theorem kw_f (o : Int) : ∃ s, formula_keyword.f o = some s ∧ s.data.toList = kwd o := by
 by_cases h1 : o = 1
 ·subst h1
  exact ⟨_, rfl, rfl⟩
 by_cases h2 : o = 2
 ·subst h2
  exact ⟨_, rfl, rfl⟩
 by_cases h4 : o = 4
 ·subst h4
  exact ⟨_, rfl, rfl⟩
 by_cases h5 : o = 5
 ·subst h5
  exact ⟨_, rfl, rfl⟩
 by_cases h6 : o = 6
 ·subst h6
  exact ⟨_, rfl, rfl⟩
 by_cases h7 : o = 7
 ·subst h7
  exact ⟨_, rfl, rfl⟩
 by_cases h8 : o = 8
 ·subst h8
  exact ⟨_, rfl, rfl⟩
 by_cases h9 : o = 9
 ·subst h9
  exact ⟨_, rfl, rfl⟩
 by_cases h10 : o = 10
 ·subst h10
  exact ⟨_, rfl, rfl⟩
 by_cases h11 : o = 11
 ·subst h11
  exact ⟨_, rfl, rfl⟩
 by_cases h12 : o = 12
 ·subst h12
  exact ⟨_, rfl, rfl⟩
 exact ⟨⟨#[]⟩, by simp [formula_keyword.f, h1, h2, h4, h5, h6, h7, h8, h9, h10, h11, h12], by simp [kwd, h1, h2, h4, h5, h6, h7, h8, h9, h10, h11, h12]⟩
/-- What write owes, below a size. -/
def WrTo (n : Nat) : Prop := ∀ (x : S32), size x < n → ∀ (b : Nat) (l : List UInt8) (w : World) (cs : List Value), Kd.FK k32 w (fun k => k < b) x cs → BIs b (Lib.byteCells l) w → TB w → (∀ g, Tryz.prog.globalNamed "internal/strconv.uint64pow10" = some g → g < b) → Al x → l.length + 2000 * size x ≤ 1000000000 →
 Calls Tryz.prog 53 #[.pointer (some ⟨b, 0, none⟩), .agg cs.toArray] w fun e w' => e = .returned (.tuple #[]) ∧ Wr b (l ++ textB x) w w'
def RefRel (b : Nat) (L : List UInt8) (a : List S84) (w1 : World) (v68 : Value) (wr : World) : Prop :=
 ∃ j : Nat, v68 = .int .i64 j ∧ j ≤ a.length ∧ Wr b (L ++ commas ((a.take j).map refB)) w1 wr
def KidRel (b : Nat) (L : List UInt8) (k : List S32) (w1 : World) (v110 : Value) (wr : World) : Prop :=
 ∃ j : Nat, v110 = .int .i64 j ∧ j ≤ k.length ∧ Wr b (L ++ commas ((k.take j).map textB)) w1 wr
theorem commas_next {α : Type} (g : α → List UInt8) {a : List α} {j : Nat} (h : j < a.length) : commas ((a.take (j + 1)).map g) = commas ((a.take j).map g) ++ (if j = 0 then g a[j] else 44 :: 32 :: g a[j]) := by
 rw [List.take_succ_eq_append_getElem h, List.map_append, List.map_singleton, commas_snoc]
 congr 1
 by_cases h0 : j = 0
 ·subst h0; simp
 ·rw [if_neg h0, if_neg (by
   intro e
   have h2 : min j a.length = 0 := by simpa only [List.length_map, List.length_take, List.length_nil] using congrArg List.length e
   omega)]
theorem refs_len {a : List S84} (h : ∀ r ∈ a, (refB r).length ≤ 100) (h10 : a.length ≤ 10) (j : Nat) : (commas ((a.take j).map refB)).length ≤ 1020 := by
 have := commas_len ((a.take j).map refB) 102 (fun y hy => by
  obtain ⟨r, hr, rfl⟩ := List.mem_map.1 hy
  have := h r (List.mem_of_mem_take hr)
  omega)
 rw [List.length_map, List.length_take] at this
 have h2 := Nat.mul_le_mul_right 102 (show min j a.length ≤ 10 by omega)
 omega
theorem kids_len {k : List S32} (h : ∀ y ∈ k, Al y) {j : Nat} (hj : j < k.length) : (commas ((k.take j).map textB)).length + 2000 * size k[j] ≤ 2000 * size.sizes k := by
 have h1 := commas_sum ((k.take j).map textB)
 have h2 := textBs_len (k.take j) (fun y hy => h y (List.mem_of_mem_take hy))
 rw [textBs_map] at h2
 have h3 := sizes_app (k.take (j + 1)) (k.drop (j + 1))
 rw [List.take_append_drop, List.take_succ_eq_append_getElem hj, sizes_app] at h3
 simp only [size.sizes] at h3
 omega
set_option maxRecDepth 1000000 in
set_option maxHeartbeats 8000000 in
theorem wr_atom {n : Nat} (hrec : WrTo n) {o : Int} (ho : o = 3) {nm : ByteArray} {a : List S84} {f t : Int} {k : List S32} (hx : size ⟨o, nm, a, f, t, k⟩ < n + 1) {b : Nat} {l : List UInt8} {w : World} {cs : List Value} (hF : Kd.FK k32 w (fun k => k < b) ⟨o, nm, a, f, t, k⟩ cs) (hBI : BIs b (Lib.byteCells l) w) (hTB : TB w) (hg : ∀ g, Tryz.prog.globalNamed "internal/strconv.uint64pow10" = some g → g < b) (hal : Al ⟨o, nm, a, f, t, k⟩) (hlen : l.length + 2000 * size ⟨o, nm, a, f, t, k⟩ ≤ 1000000000) :
  Calls Tryz.prog 53 #[.pointer (some ⟨b, 0, none⟩), .agg cs.toArray] w fun e w' => e = .returned (.tuple #[]) ∧ Wr b (l ++ textB ⟨o, nm, a, f, t, k⟩) w w' := by
 obtain ⟨A2, c2, A5, c5, rfl, _, g2, l5, g5⟩ := k32_openF hF
 have HREC := Lib.hid hrec
 have HG2 := Lib.hid g2
 have HG5 := Lib.hid g5
 have HBL := Lib.hid (bis_lt hBI)
 have HWB := Lib.hid ((Wr.refl hBI).alloc (.cells #[.int .i64 o, .string nm, .slice A2 a.length c2, .int .i64 f, .int .i64 t, .slice A5 k.length c5] 32))
 have HW0 := Lib.hid (Wr.refl HWB.out.1)
 have HTB := Lib.hid (HWB.out.tb hTB hg)
 have HBX := Lib.hid (blk_new w (.cells #[.int .i64 o, .string nm, .slice A2 a.length c2, .int .i64 f, .int .i64 t, .slice A5 k.length c5] 32))
 have HGG := Lib.hid hg
 have HNM := Lib.hid (al_nm hal)
 have HKAL := Lib.hid ((al_is _).1 hal).2
 have HLEN := Lib.hid hlen
 have HSZ := Lib.hid hx
 have ha5 : a.length ≤ 9223372036854775807 := (Kd.F_now g2).2.1
 have hk5 : k.length ≤ 9223372036854775807 := (Kd.F_now g5).2.1
 have z1 : (o == (1 : Int)) = false := by simp; omega
 have z2 : (o == (2 : Int)) = false := by simp; omega
 have z3 : (o == (3 : Int)) = true := by simp; omega
 have HO := Lib.hid ho
 have HHL := Lib.hid (show (headB ⟨o, nm, a, f, t, k⟩).length ≤ 120 from headB_len HNM.out)
 have HTX := Lib.hid (show textB ⟨o, nm, a, f, t, k⟩ = headB ⟨o, nm, a, f, t, k⟩ ++ 40 :: (commas (a.map refB) ++ commas (k.map textB) ++ [41]) by rw [textB_is]; exact if_neg (by show ¬ (o = 1 ∨ o = 2); omega))
 clear hrec hF hBI hTB hg hal hlen hx g2 g5 l5 ho
 dsimp only at *
 obtain ⟨w1, hw1⟩ : ∃ w1, (w.alloc (.cells #[.int .i64 o, .string nm, .slice A2 a.length c2, .int .i64 f, .int .i64 t, .slice A5 k.length c5] 32)) = w1 := ⟨_, rfl⟩
 have HW10 := Lib.hid hw1
 rw [hw1] at HW0 HWB HTB HBX
 clear hw1
 have HTB1 := Lib.hid HTB.out
 have HBX1 := Lib.hid HBX.out
 go_enter Tryz.func53, Tryz.ntmps53
 go_wp2_with fail
 rw [HW10.out]
 have HHE := Lib.hid (show headB ⟨o, nm, a, f, t, k⟩ = nm.data.toList by unfold headB; exact if_pos HO.out)
 refine (ws_any nm HW0.out.1 (by have := HNM.out.name; have := HLEN.out; simp at *; omega)).mono ?_
 rintro e w5 ⟨rfl, hw⟩
 have HWH := Lib.hid (HW0.out.step hw)
 rw [← HHE.out] at HWH
 clear hw
 have HBX5 := Lib.hid (HWH.out.blk HBX1.out (by decide) (by have := HBL.out; omega))
 obtain ⟨k0, k1, k2, k3, k4, k5⟩ := cells_of HBX5.out
 go_wp2_with fail
 refine (wb_any 40 40 rfl HWH.out.1 (by have := HHL.out; have := HLEN.out; rw [List.length_append]; omega)).mono ?_
 rintro e w6 ⟨rfl, hw⟩
 have HW6 := Lib.hid (HWH.out.step hw)
 have HBX6 := Lib.hid (HW6.out.blk HBX1.out (by decide) (by have := HBL.out; omega))
 clear hw k0 k1 k2 k3 k4 k5
 obtain ⟨k0, k1, k2, k3, k4, k5⟩ := cells_of HBX6.out
 have HL1 := Lib.hid (show (l ++ headB ⟨o, nm, a, f, t, k⟩ ++ [40]).length ≤ l.length + 121 by have := HHL.out; simp only [List.length_append, List.length_cons, List.length_nil]; omega)
 obtain ⟨L1, hL1⟩ : ∃ L1, l ++ headB ⟨o, nm, a, f, t, k⟩ ++ [40] = L1 := ⟨_, rfl⟩
 rw [hL1] at HW6 HL1
 have HLL1 := Lib.hid hL1
 clear hL1
 go_wp2
 go_loopw [68] (fun v68 wr => RefRel b L1 a w1 v68 wr) (fun v68 _ => a.length - (intOf v68).toNat)
 case atStart => exact ⟨0, rfl, Nat.zero_le _, by simpa [commas] using HW6.out⟩
 case round =>
  obtain ⟨j, rfl, hj, hwr⟩ := hrel
  have HWR := Lib.hid hwr
  clear hwr k0 k1 k2 k3 k4 k5
  have HCL := Lib.hid (show (commas ((a.take j).map refB)).length ≤ 1020 from refs_len (fun r hr => refB_len (HNM.out.ref r hr)) HNM.out.refs j)
  have HLR := Lib.hid (show (L1 ++ commas ((a.take j).map refB)).length ≤ l.length + 1141 by rw [List.length_append]; have := HCL.out; have := HL1.out; omega)
  by_cases hlt : j < a.length
  ·have hj0 : 0 ≤ (j : Int) := by omega
   have hj1 : (j : Int) < (a.length : Int) := by omega
   obtain ⟨ad, e1, q0, q1, q2⟩ := ref_at (Kd.F_now (Kd.F_step HG2.out (fun k hk _ => (HWB.out.base HWR.out).2.1.block k hk))) j hlt
   subst e1
   have HCN := Lib.hid (commas_next refB hlt)
   have HRM := Lib.hid (HNM.out.ref _ (List.getElem_mem hlt))
   obtain ⟨r, hr⟩ : ∃ r, a[j] = r := ⟨_, rfl⟩
   rw [hr] at q0 q1 q2 HCN HRM
   clear hr
   have HR5 := Lib.hid (blk_new wr (.cells #[.int .i64 r.f0, .int .i64 r.f1, .string r.f2] 84))
   have HWA := Lib.hid (HWR.out.alloc (.cells #[.int .i64 r.f0, .int .i64 r.f1, .string r.f2] 84))
   have HWS := Lib.hid (show b < wr.heap.size from bis_lt HWR.out.1)
   obtain ⟨LJ, hLJ⟩ : ∃ LJ, L1 ++ commas ((a.take j).map refB) = LJ := ⟨_, rfl⟩
   rw [hLJ] at HWA HLR
   have HLJ := Lib.hid hLJ
   clear hLJ HCL
   by_cases h0 : j = 0
   ·have HJ0 := Lib.hid h0
    have gz : decide ((0 : Int) < (j : Int)) = false := decide_eq_false (by omega)
    have gzn : decide (0 < j) = false := decide_eq_false (by omega)
    clear h0
    have HWC := Lib.hid HWA.out
    obtain ⟨LC, hLC⟩ : ∃ LC, LJ = LC := ⟨_, rfl⟩
    have HLC2 := Lib.hid hLC
    rw [hLC] at HWC
    have HLC := Lib.hid (show LC.length ≤ l.length + 1143 by rw [← hLC]; have := HLR.out; omega)
    clear hLC
    by_cases h1 : r.f0 = 1
    ·have HRF := Lib.hid (show refB r = 35 :: Lib.itoa r.f1 by unfold refB; rw [if_pos h1])
     have u1 : (r.f0 == (1 : Int)) = true := by simpa using h1
     clear h1
     go_wp2_with fail
     refine (itoa_any r.f1 HRM.out.2.1 HRM.out.2.2 (HWC.out.tb HTB1.out HGG.out)).mono ?_
     rintro e w8 ⟨rfl, kk, os, hgr⟩
     have HWI := Lib.hid (show Wr b LC w1 w8 by rw [hgr]; exact HWC.out.itoa)
     clear hgr
     obtain ⟨S, hS⟩ : ∃ S : ByteArray, (⟨(Lib.itoa r.f1).toArray⟩ : ByteArray) = S := ⟨_, rfl⟩
     rw [hS]
     have HSS := Lib.hid (show S.data.toList = Lib.itoa r.f1 by rw [← hS])
     have hsz : S.size ≤ 21 := by rw [← hS]; have := Lib.itoa_length_le r.f1 HRM.out.2.1 HRM.out.2.2; simpa [ByteArray.size] using this
     clear hS
     have hcat : ∀ W : World, (Op.stringOp .add ⟨#[35]⟩ S).run Tryz.prog W = .ok (.string (⟨#[35]⟩ ++ S)) W := fun W => run_string_add_sum W _ _ (by show 1 + S.size ≤ _; omega)
     have hc1 : ¬ (9223372036854775807 < 1 + S.size) := by omega
     have hc2 : ¬ (9223372036854775807 < (⟨#[35]⟩ : ByteArray).size + S.size) := by show ¬ (9223372036854775807 < 1 + S.size); omega
     have HCT := Lib.hid (show ((⟨#[35]⟩ : ByteArray) ++ S).data.toList = 35 :: Lib.itoa r.f1 by rw [ByteArray.data_append, Array.toList_append, HSS.out]; rfl)
     go_wp2_with fail
     obtain ⟨S2, hS2⟩ : ∃ S2, (⟨#[35]⟩ : ByteArray) ++ S = S2 := ⟨_, rfl⟩
     rw [hS2] at HCT ⊢
     clear hS2
     refine (ws_any S2 HWI.out.1 (by have h1 := congrArg List.length HCT.out; rw [List.length_cons] at h1; have := Lib.itoa_length_le r.f1 HRM.out.2.1 HRM.out.2.2; have := HLC.out; have := HLEN.out; omega)).mono ?_
     rintro e w9 ⟨rfl, hw9⟩
     have HW9 := Lib.hid (HWI.out.step hw9)
     clear hw9
     go_wp2
     go_roundw
     case rel => exact ⟨j + 1, by go_num, hlt, by rw [HCN.out, ← List.append_assoc, HLJ.out, if_pos HJ0.out, HRF.out]; have h9 := HW9.out; rw [← HLC2.out, HCT.out] at h9; exact h9⟩
     case measure => simp [intOf]; omega
    ·by_cases h3 : r.f0 = 3
     ·have HRF := Lib.hid (show refB r = 64 :: Lib.itoa r.f1 by unfold refB; rw [if_neg h1, if_pos h3])
      have u1 : (r.f0 == (1 : Int)) = false := by simpa using h1
      have u3 : (r.f0 == (3 : Int)) = true := by simpa using h3
      clear h1 h3
      go_wp2_with fail
      refine (itoa_any r.f1 HRM.out.2.1 HRM.out.2.2 (HWC.out.tb HTB1.out HGG.out)).mono ?_
      rintro e w8 ⟨rfl, kk, os, hgr⟩
      have HWI := Lib.hid (show Wr b LC w1 w8 by rw [hgr]; exact HWC.out.itoa)
      clear hgr
      obtain ⟨S, hS⟩ : ∃ S : ByteArray, (⟨(Lib.itoa r.f1).toArray⟩ : ByteArray) = S := ⟨_, rfl⟩
      rw [hS]
      have HSS := Lib.hid (show S.data.toList = Lib.itoa r.f1 by rw [← hS])
      have hsz : S.size ≤ 21 := by rw [← hS]; have := Lib.itoa_length_le r.f1 HRM.out.2.1 HRM.out.2.2; simpa [ByteArray.size] using this
      clear hS
      have hcat : ∀ W : World, (Op.stringOp .add ⟨#[64]⟩ S).run Tryz.prog W = .ok (.string (⟨#[64]⟩ ++ S)) W := fun W => run_string_add_sum W _ _ (by show 1 + S.size ≤ _; omega)
      have hc1 : ¬ (9223372036854775807 < 1 + S.size) := by omega
      have hc2 : ¬ (9223372036854775807 < (⟨#[64]⟩ : ByteArray).size + S.size) := by show ¬ (9223372036854775807 < 1 + S.size); omega
      have HCT := Lib.hid (show ((⟨#[64]⟩ : ByteArray) ++ S).data.toList = 64 :: Lib.itoa r.f1 by rw [ByteArray.data_append, Array.toList_append, HSS.out]; rfl)
      go_wp2_with fail
      obtain ⟨S2, hS2⟩ : ∃ S2, (⟨#[64]⟩ : ByteArray) ++ S = S2 := ⟨_, rfl⟩
      rw [hS2] at HCT ⊢
      clear hS2
      refine (ws_any S2 HWI.out.1 (by have h1 := congrArg List.length HCT.out; rw [List.length_cons] at h1; have := Lib.itoa_length_le r.f1 HRM.out.2.1 HRM.out.2.2; have := HLC.out; have := HLEN.out; omega)).mono ?_
      rintro e w9 ⟨rfl, hw9⟩
      have HW9 := Lib.hid (HWI.out.step hw9)
      clear hw9
      go_wp2
      go_roundw
      case rel => exact ⟨j + 1, by go_num, hlt, by rw [HCN.out, ← List.append_assoc, HLJ.out, if_pos HJ0.out, HRF.out]; have h9 := HW9.out; rw [← HLC2.out, HCT.out] at h9; exact h9⟩
      case measure => simp [intOf]; omega
     ·by_cases h4 : r.f0 = 4
      ·have HRF := Lib.hid (show refB r = Lib.itoa r.f1 by unfold refB; rw [if_neg h1, if_neg h3, if_pos h4])
       have u1 : (r.f0 == (1 : Int)) = false := by simpa using h1
       have u3 : (r.f0 == (3 : Int)) = false := by simpa using h3
       have u4 : (r.f0 == (4 : Int)) = true := by simpa using h4
       clear h1 h3 h4
       go_wp2_with fail
       refine (itoa_any r.f1 HRM.out.2.1 HRM.out.2.2 (HWC.out.tb HTB1.out HGG.out)).mono ?_
       rintro e w8 ⟨rfl, kk, os, hgr⟩
       have HWI := Lib.hid (show Wr b LC w1 w8 by rw [hgr]; exact HWC.out.itoa)
       clear hgr
       obtain ⟨S, hS⟩ : ∃ S : ByteArray, (⟨(Lib.itoa r.f1).toArray⟩ : ByteArray) = S := ⟨_, rfl⟩
       rw [hS]
       have HSS := Lib.hid (show S.data.toList = Lib.itoa r.f1 by rw [← hS])
       have hsz : S.size ≤ 21 := by rw [← hS]; have := Lib.itoa_length_le r.f1 HRM.out.2.1 HRM.out.2.2; simpa [ByteArray.size] using this
       clear hS
       go_wp2_with fail
       refine (ws_any S HWI.out.1 (by rw [HSS.out]; have := Lib.itoa_length_le r.f1 HRM.out.2.1 HRM.out.2.2; have := HLC.out; have := HLEN.out; omega)).mono ?_
       rintro e w9 ⟨rfl, hw9⟩
       have HW9 := Lib.hid (HWI.out.step hw9)
       clear hw9
       go_wp2
       go_roundw
       case rel => exact ⟨j + 1, by go_num, hlt, by rw [HCN.out, ← List.append_assoc, HLJ.out, if_pos HJ0.out, HRF.out]; have h9 := HW9.out; rw [← HLC2.out, HSS.out] at h9; exact h9⟩
       case measure => simp [intOf]; omega
      ·have HRF := Lib.hid (show refB r = r.f2.data.toList by unfold refB; rw [if_neg h1, if_neg h3, if_neg h4])
       have u1 : (r.f0 == (1 : Int)) = false := by simpa using h1
       have u3 : (r.f0 == (3 : Int)) = false := by simpa using h3
       have u4 : (r.f0 == (4 : Int)) = false := by simpa using h4
       clear h1 h3 h4
       have HWI := Lib.hid HWC.out
       go_wp2_with fail
       refine (ws_any r.f2 HWI.out.1 (by have h := HRM.out.1; have := HLC.out; have := HLEN.out; have e : r.f2.data.toList.length = r.f2.size := rfl; omega)).mono ?_
       rintro e w9 ⟨rfl, hw9⟩
       have HW9 := Lib.hid (HWI.out.step hw9)
       clear hw9
       go_wp2
       go_roundw
       case rel => exact ⟨j + 1, by go_num, hlt, by rw [HCN.out, ← List.append_assoc, HLJ.out, if_pos HJ0.out, HRF.out]; have h9 := HW9.out; rw [← HLC2.out] at h9; exact h9⟩
       case measure => simp [intOf]; omega
   ·have HJ0 := Lib.hid h0
    have gz : decide ((0 : Int) < (j : Int)) = true := decide_eq_true (by omega)
    have gzn : decide (0 < j) = true := decide_eq_true (by omega)
    clear h0
    go_wp2_with fail
    refine (ws_any ⟨#[44, 32]⟩ HWA.out.1 (by have := HLR.out; have := HLEN.out; simp; omega)).mono ?_
    rintro e w7 ⟨rfl, hw7⟩
    have HWC := Lib.hid (HWA.out.step hw7)
    have HR7 := Lib.hid (hw7.blk HR5.out (by decide) (by have := HWS.out; omega))
    have r70 : w7.cell? ⟨wr.heap.size, 0, none⟩ = some (.int .i64 r.f0) := blk_cell HR7.out 0
    have r71 : w7.cell? ⟨wr.heap.size, 1, none⟩ = some (.int .i64 r.f1) := blk_cell HR7.out 1
    have r72 : w7.cell? ⟨wr.heap.size, 2, none⟩ = some (.string r.f2) := blk_cell HR7.out 2
    clear hw7
    obtain ⟨LC, hLC⟩ : ∃ LC, LJ ++ (⟨#[44, 32]⟩ : ByteArray).data.toList = LC := ⟨_, rfl⟩
    have HLC2 := Lib.hid hLC
    rw [hLC] at HWC
    have HLC := Lib.hid (show LC.length ≤ l.length + 1143 by rw [← hLC]; have := HLR.out; simp; omega)
    clear hLC
    by_cases h1 : r.f0 = 1
    ·have HRF := Lib.hid (show refB r = 35 :: Lib.itoa r.f1 by unfold refB; rw [if_pos h1])
     have u1 : (r.f0 == (1 : Int)) = true := by simpa using h1
     clear h1
     go_wp2_with fail
     refine (itoa_any r.f1 HRM.out.2.1 HRM.out.2.2 (HWC.out.tb HTB1.out HGG.out)).mono ?_
     rintro e w8 ⟨rfl, kk, os, hgr⟩
     have HWI := Lib.hid (show Wr b LC w1 w8 by rw [hgr]; exact HWC.out.itoa)
     clear hgr
     obtain ⟨S, hS⟩ : ∃ S : ByteArray, (⟨(Lib.itoa r.f1).toArray⟩ : ByteArray) = S := ⟨_, rfl⟩
     rw [hS]
     have HSS := Lib.hid (show S.data.toList = Lib.itoa r.f1 by rw [← hS])
     have hsz : S.size ≤ 21 := by rw [← hS]; have := Lib.itoa_length_le r.f1 HRM.out.2.1 HRM.out.2.2; simpa [ByteArray.size] using this
     clear hS
     have hcat : ∀ W : World, (Op.stringOp .add ⟨#[35]⟩ S).run Tryz.prog W = .ok (.string (⟨#[35]⟩ ++ S)) W := fun W => run_string_add_sum W _ _ (by show 1 + S.size ≤ _; omega)
     have hc1 : ¬ (9223372036854775807 < 1 + S.size) := by omega
     have hc2 : ¬ (9223372036854775807 < (⟨#[35]⟩ : ByteArray).size + S.size) := by show ¬ (9223372036854775807 < 1 + S.size); omega
     have HCT := Lib.hid (show ((⟨#[35]⟩ : ByteArray) ++ S).data.toList = 35 :: Lib.itoa r.f1 by rw [ByteArray.data_append, Array.toList_append, HSS.out]; rfl)
     go_wp2_with fail
     obtain ⟨S2, hS2⟩ : ∃ S2, (⟨#[35]⟩ : ByteArray) ++ S = S2 := ⟨_, rfl⟩
     rw [hS2] at HCT ⊢
     clear hS2
     refine (ws_any S2 HWI.out.1 (by have h1 := congrArg List.length HCT.out; rw [List.length_cons] at h1; have := Lib.itoa_length_le r.f1 HRM.out.2.1 HRM.out.2.2; have := HLC.out; have := HLEN.out; omega)).mono ?_
     rintro e w9 ⟨rfl, hw9⟩
     have HW9 := Lib.hid (HWI.out.step hw9)
     clear hw9
     go_wp2
     go_roundw
     case rel => exact ⟨j + 1, by go_num, hlt, by rw [HCN.out, ← List.append_assoc, HLJ.out, if_neg HJ0.out, HRF.out]; have h9 := HW9.out; rw [← HLC2.out, HCT.out] at h9; simpa using h9⟩
     case measure => simp [intOf]; omega
    ·by_cases h3 : r.f0 = 3
     ·have HRF := Lib.hid (show refB r = 64 :: Lib.itoa r.f1 by unfold refB; rw [if_neg h1, if_pos h3])
      have u1 : (r.f0 == (1 : Int)) = false := by simpa using h1
      have u3 : (r.f0 == (3 : Int)) = true := by simpa using h3
      clear h1 h3
      go_wp2_with fail
      refine (itoa_any r.f1 HRM.out.2.1 HRM.out.2.2 (HWC.out.tb HTB1.out HGG.out)).mono ?_
      rintro e w8 ⟨rfl, kk, os, hgr⟩
      have HWI := Lib.hid (show Wr b LC w1 w8 by rw [hgr]; exact HWC.out.itoa)
      clear hgr
      obtain ⟨S, hS⟩ : ∃ S : ByteArray, (⟨(Lib.itoa r.f1).toArray⟩ : ByteArray) = S := ⟨_, rfl⟩
      rw [hS]
      have HSS := Lib.hid (show S.data.toList = Lib.itoa r.f1 by rw [← hS])
      have hsz : S.size ≤ 21 := by rw [← hS]; have := Lib.itoa_length_le r.f1 HRM.out.2.1 HRM.out.2.2; simpa [ByteArray.size] using this
      clear hS
      have hcat : ∀ W : World, (Op.stringOp .add ⟨#[64]⟩ S).run Tryz.prog W = .ok (.string (⟨#[64]⟩ ++ S)) W := fun W => run_string_add_sum W _ _ (by show 1 + S.size ≤ _; omega)
      have hc1 : ¬ (9223372036854775807 < 1 + S.size) := by omega
      have hc2 : ¬ (9223372036854775807 < (⟨#[64]⟩ : ByteArray).size + S.size) := by show ¬ (9223372036854775807 < 1 + S.size); omega
      have HCT := Lib.hid (show ((⟨#[64]⟩ : ByteArray) ++ S).data.toList = 64 :: Lib.itoa r.f1 by rw [ByteArray.data_append, Array.toList_append, HSS.out]; rfl)
      go_wp2_with fail
      obtain ⟨S2, hS2⟩ : ∃ S2, (⟨#[64]⟩ : ByteArray) ++ S = S2 := ⟨_, rfl⟩
      rw [hS2] at HCT ⊢
      clear hS2
      refine (ws_any S2 HWI.out.1 (by have h1 := congrArg List.length HCT.out; rw [List.length_cons] at h1; have := Lib.itoa_length_le r.f1 HRM.out.2.1 HRM.out.2.2; have := HLC.out; have := HLEN.out; omega)).mono ?_
      rintro e w9 ⟨rfl, hw9⟩
      have HW9 := Lib.hid (HWI.out.step hw9)
      clear hw9
      go_wp2
      go_roundw
      case rel => exact ⟨j + 1, by go_num, hlt, by rw [HCN.out, ← List.append_assoc, HLJ.out, if_neg HJ0.out, HRF.out]; have h9 := HW9.out; rw [← HLC2.out, HCT.out] at h9; simpa using h9⟩
      case measure => simp [intOf]; omega
     ·by_cases h4 : r.f0 = 4
      ·have HRF := Lib.hid (show refB r = Lib.itoa r.f1 by unfold refB; rw [if_neg h1, if_neg h3, if_pos h4])
       have u1 : (r.f0 == (1 : Int)) = false := by simpa using h1
       have u3 : (r.f0 == (3 : Int)) = false := by simpa using h3
       have u4 : (r.f0 == (4 : Int)) = true := by simpa using h4
       clear h1 h3 h4
       go_wp2_with fail
       refine (itoa_any r.f1 HRM.out.2.1 HRM.out.2.2 (HWC.out.tb HTB1.out HGG.out)).mono ?_
       rintro e w8 ⟨rfl, kk, os, hgr⟩
       have HWI := Lib.hid (show Wr b LC w1 w8 by rw [hgr]; exact HWC.out.itoa)
       clear hgr
       obtain ⟨S, hS⟩ : ∃ S : ByteArray, (⟨(Lib.itoa r.f1).toArray⟩ : ByteArray) = S := ⟨_, rfl⟩
       rw [hS]
       have HSS := Lib.hid (show S.data.toList = Lib.itoa r.f1 by rw [← hS])
       have hsz : S.size ≤ 21 := by rw [← hS]; have := Lib.itoa_length_le r.f1 HRM.out.2.1 HRM.out.2.2; simpa [ByteArray.size] using this
       clear hS
       go_wp2_with fail
       refine (ws_any S HWI.out.1 (by rw [HSS.out]; have := Lib.itoa_length_le r.f1 HRM.out.2.1 HRM.out.2.2; have := HLC.out; have := HLEN.out; omega)).mono ?_
       rintro e w9 ⟨rfl, hw9⟩
       have HW9 := Lib.hid (HWI.out.step hw9)
       clear hw9
       go_wp2
       go_roundw
       case rel => exact ⟨j + 1, by go_num, hlt, by rw [HCN.out, ← List.append_assoc, HLJ.out, if_neg HJ0.out, HRF.out]; have h9 := HW9.out; rw [← HLC2.out, HSS.out] at h9; simpa using h9⟩
       case measure => simp [intOf]; omega
      ·have HRF := Lib.hid (show refB r = r.f2.data.toList by unfold refB; rw [if_neg h1, if_neg h3, if_neg h4])
       have u1 : (r.f0 == (1 : Int)) = false := by simpa using h1
       have u3 : (r.f0 == (3 : Int)) = false := by simpa using h3
       have u4 : (r.f0 == (4 : Int)) = false := by simpa using h4
       clear h1 h3 h4
       have HWI := Lib.hid HWC.out
       go_wp2_with fail
       refine (ws_any r.f2 HWI.out.1 (by have h := HRM.out.1; have := HLC.out; have := HLEN.out; have e : r.f2.data.toList.length = r.f2.size := rfl; omega)).mono ?_
       rintro e w9 ⟨rfl, hw9⟩
       have HW9 := Lib.hid (HWI.out.step hw9)
       clear hw9
       go_wp2
       go_roundw
       case rel => exact ⟨j + 1, by go_num, hlt, by rw [HCN.out, ← List.append_assoc, HLJ.out, if_neg HJ0.out, HRF.out]; have h9 := HW9.out; rw [← HLC2.out] at h9; simpa using h9⟩
       case measure => simp [intOf]; omega
  ·have hja : j = a.length := by omega
   subst hja
   clear hlt hj
   have HBX7 := Lib.hid (HWR.out.blk HBX1.out (by decide) (by have := HBL.out; omega))
   obtain ⟨k0, k1, k2, k3, k4, k5⟩ := cells_of HBX7.out
   rw [List.take_length] at HWR HLR HCL
   obtain ⟨L2, hL2⟩ : ∃ L2, L1 ++ commas (a.map refB) = L2 := ⟨_, rfl⟩
   rw [hL2] at HWR HLR
   have HLL2 := Lib.hid hL2
   clear hL2 HCL
   go_wp2
   go_loopw [110] (fun v110 wr => KidRel b L2 k w1 v110 wr) (fun v110 _ => k.length - (intOf v110).toNat)
   case atStart => exact ⟨0, rfl, Nat.zero_le _, by simpa [commas] using HWR.out⟩
   case round =>
    obtain ⟨j, rfl, hj, hwr⟩ := hrel
    have HWK := Lib.hid hwr
    clear hwr k0 k1 k2 k3 k4 k5
    by_cases hlt : j < k.length
    ·have hj0 : 0 ≤ (j : Int) := by omega
     have hj1 : (j : Int) < (k.length : Int) := by omega
     obtain ⟨ad, A3, c3, A6, c6, e4, q0, q1, q2, q3, q4, q5, qF⟩ := form_F (Kd.F_step HG5.out (fun k hk _ => (HWB.out.base HWK.out).2.1.block k hk)) (Below.refl _ _) j hlt
     subst e4
     have HCN := Lib.hid (commas_next textB hlt)
     have HKLN := Lib.hid (kids_len HKAL.out hlt)
     have hmem : k[j] ∈ k := List.getElem_mem hlt
     obtain ⟨y, hy⟩ : ∃ y, k[j] = y := ⟨_, rfl⟩
     rw [hy] at q0 q1 q2 q3 q4 q5 qF hmem HCN HKLN
     clear hy
     have HQF := Lib.hid qF
     have HYL := Lib.hid (HKAL.out y hmem)
     have HYS := Lib.hid (show size y < n by have := kid_lt (x := ⟨o, nm, a, f, t, k⟩) hmem; have := HSZ.out; omega)
     have HXS := Lib.hid (show size ⟨o, nm, a, f, t, k⟩ = 1 + size.sizes k from size_is ⟨o, nm, a, f, t, k⟩)
     have HR5 := Lib.hid (blk_new wr (.cells #[.int .i64 y.f0, .string y.f1, .slice A3 y.f2.length c3, .int .i64 y.f3, .int .i64 y.f4, .slice A6 y.f5.length c6] 32))
     have HWA := Lib.hid (HWK.out.alloc (.cells #[.int .i64 y.f0, .string y.f1, .slice A3 y.f2.length c3, .int .i64 y.f3, .int .i64 y.f4, .slice A6 y.f5.length c6] 32))
     have HWAA := Lib.hid ((Wr.refl HWK.out.1).alloc (.cells #[.int .i64 y.f0, .string y.f1, .slice A3 y.f2.length c3, .int .i64 y.f3, .int .i64 y.f4, .slice A6 y.f5.length c6] 32))
     have HWS := Lib.hid (show b < wr.heap.size from bis_lt HWK.out.1)
     obtain ⟨LJ, hLJ⟩ : ∃ LJ, L2 ++ commas ((k.take j).map textB) = LJ := ⟨_, rfl⟩
     have HLRK := Lib.hid (show LJ.length + 2000 * size y + 857 ≤ l.length + 2000 * size ⟨o, nm, a, f, t, k⟩ by rw [← hLJ, List.length_append]; have := HKLN.out; have := HLR.out; have := HXS.out; omega)
     rw [hLJ] at HWA HWAA
     have HLJ := Lib.hid hLJ
     clear hLJ qF hmem
     by_cases h0 : j = 0
     ·have HJ0 := Lib.hid h0
      have gz : decide ((0 : Int) < (j : Int)) = false := decide_eq_false (by omega)
      have gzn : decide (0 < j) = false := decide_eq_false (by omega)
      clear h0
      have HWC := Lib.hid HWA.out
      have HWCB := Lib.hid HWAA.out
      obtain ⟨LC, hLC⟩ : ∃ LC, LJ = LC := ⟨_, rfl⟩
      have HLC2 := Lib.hid hLC
      rw [hLC] at HWC HWCB
      have HLC := Lib.hid (show LC.length + 2000 * size y ≤ l.length + 2000 * size ⟨o, nm, a, f, t, k⟩ by rw [← hLC]; have := HLRK.out; omega)
      clear hLC
      have HCALL := Lib.hid (HREC.out y HYS.out b LC (wr.alloc (.cells #[.int .i64 y.f0, .string y.f1, .slice A3 y.f2.length c3, .int .i64 y.f3, .int .i64 y.f4, .slice A6 y.f5.length c6] 32)) _ (Kd.FK_step HQF.out (fun k hk _ => HWCB.out.2.1.block k hk)) HWC.out.1 (HWC.out.tb HTB1.out HGG.out) HGG.out HYL.out (by have := HLC.out; have := HLEN.out; omega))
      go_wp2_with fail
      refine HCALL.out.mono ?_
      rintro e w9 ⟨rfl, hw9⟩
      have HW9 := Lib.hid (HWC.out.step hw9.wrote)
      clear hw9
      go_wp2
      go_roundw
      case rel => exact ⟨j + 1, by go_num, hlt, by rw [HCN.out, ← List.append_assoc, HLJ.out, if_pos HJ0.out]; have h9 := HW9.out; rw [← HLC2.out] at h9; exact h9⟩
      case measure => simp [intOf]; omega
     ·have HJ0 := Lib.hid h0
      have gz : decide ((0 : Int) < (j : Int)) = true := decide_eq_true (by omega)
      have gzn : decide (0 < j) = true := decide_eq_true (by omega)
      clear h0
      go_wp2_with fail
      refine (ws_any ⟨#[44, 32]⟩ HWA.out.1 (by have := HLRK.out; have := HLEN.out; simp; omega)).mono ?_
      rintro e w7 ⟨rfl, hw7⟩
      have HWC := Lib.hid (HWA.out.step hw7)
      have HWCB := Lib.hid (HWAA.out.step hw7)
      have HR7 := Lib.hid (hw7.blk HR5.out (by decide) (by have := HWS.out; omega))
      obtain ⟨r0, r1, r2, r3, r4, r5⟩ := cells_of HR7.out
      clear hw7
      obtain ⟨LC, hLC⟩ : ∃ LC, LJ ++ (⟨#[44, 32]⟩ : ByteArray).data.toList = LC := ⟨_, rfl⟩
      have HLC2 := Lib.hid hLC
      rw [hLC] at HWC HWCB
      have HLC := Lib.hid (show LC.length + 2000 * size y ≤ l.length + 2000 * size ⟨o, nm, a, f, t, k⟩ by rw [← hLC]; have := HLRK.out; simp; omega)
      clear hLC q0 q1 q2 q3 q4 q5
      have HCALL := Lib.hid (HREC.out y HYS.out b LC w7 _ (Kd.FK_step HQF.out (fun k hk _ => HWCB.out.2.1.block k hk)) HWC.out.1 (HWC.out.tb HTB1.out HGG.out) HGG.out HYL.out (by have := HLC.out; have := HLEN.out; omega))
      go_wp2_with fail
      refine HCALL.out.mono ?_
      rintro e w9 ⟨rfl, hw9⟩
      have HW9 := Lib.hid (HWC.out.step hw9.wrote)
      clear hw9
      go_wp2
      go_roundw
      case rel => exact ⟨j + 1, by go_num, hlt, by rw [HCN.out, ← List.append_assoc, HLJ.out, if_neg HJ0.out]; have h9 := HW9.out; rw [← HLC2.out] at h9; simpa using h9⟩
      case measure => simp [intOf]; omega
    ·have hjk : j = k.length := by omega
     subst hjk
     clear hlt hj
     rw [List.take_length] at HWK
     go_wp2_with fail
     refine (wb_any 41 41 rfl HWK.out.1 (by have h1 := commas_sum (k.map textB); have h2 := textBs_len k HKAL.out; rw [textBs_map] at h2; have := HLR.out; have := HLEN.out; have := size_is ⟨o, nm, a, f, t, k⟩; dsimp only at this; rw [List.length_append]; omega)).mono ?_
     rintro e w9 ⟨rfl, hw9⟩
     have HW9 := Lib.hid (HWK.out.step hw9)
     clear hw9
     go_wp2
     go_end0
     exact ⟨rfl, by have h9 := HWB.out.base HW9.out; rw [HTX.out]; rw [← HLL2.out, ← HLL1.out] at h9; simpa using h9⟩
set_option maxRecDepth 1000000 in
set_option maxHeartbeats 8000000 in
theorem wr_kw {n : Nat} (hrec : WrTo n) {o : Int} (ho : o ≠ 1 ∧ o ≠ 2 ∧ o ≠ 3 ∧ o ≠ 8 ∧ o ≠ 9 ∧ o ≠ 10) {nm : ByteArray} {a : List S84} {f t : Int} {k : List S32} (hx : size ⟨o, nm, a, f, t, k⟩ < n + 1) {b : Nat} {l : List UInt8} {w : World} {cs : List Value} (hF : Kd.FK k32 w (fun k => k < b) ⟨o, nm, a, f, t, k⟩ cs) (hBI : BIs b (Lib.byteCells l) w) (hTB : TB w) (hg : ∀ g, Tryz.prog.globalNamed "internal/strconv.uint64pow10" = some g → g < b) (hal : Al ⟨o, nm, a, f, t, k⟩) (hlen : l.length + 2000 * size ⟨o, nm, a, f, t, k⟩ ≤ 1000000000) :
  Calls Tryz.prog 53 #[.pointer (some ⟨b, 0, none⟩), .agg cs.toArray] w fun e w' => e = .returned (.tuple #[]) ∧ Wr b (l ++ textB ⟨o, nm, a, f, t, k⟩) w w' := by
 obtain ⟨A2, c2, A5, c5, rfl, _, g2, l5, g5⟩ := k32_openF hF
 have HREC := Lib.hid hrec
 have HG2 := Lib.hid g2
 have HG5 := Lib.hid g5
 have HBL := Lib.hid (bis_lt hBI)
 have HWB := Lib.hid ((Wr.refl hBI).alloc (.cells #[.int .i64 o, .string nm, .slice A2 a.length c2, .int .i64 f, .int .i64 t, .slice A5 k.length c5] 32))
 have HW0 := Lib.hid (Wr.refl HWB.out.1)
 have HTB := Lib.hid (HWB.out.tb hTB hg)
 have HBX := Lib.hid (blk_new w (.cells #[.int .i64 o, .string nm, .slice A2 a.length c2, .int .i64 f, .int .i64 t, .slice A5 k.length c5] 32))
 have HGG := Lib.hid hg
 have HNM := Lib.hid (al_nm hal)
 have HKAL := Lib.hid ((al_is _).1 hal).2
 have HLEN := Lib.hid hlen
 have HSZ := Lib.hid hx
 have ha5 : a.length ≤ 9223372036854775807 := (Kd.F_now g2).2.1
 have hk5 : k.length ≤ 9223372036854775807 := (Kd.F_now g5).2.1
 have z1 : (o == (1 : Int)) = false := by simp; omega
 have z2 : (o == (2 : Int)) = false := by simp; omega
 have z3 : (o == (3 : Int)) = false := by simp; omega
 have z8 : (o == (8 : Int)) = false := by simp; omega
 have z9 : (o == (9 : Int)) = false := by simp; omega
 have z10 : (o == (10 : Int)) = false := by simp; omega
 have HO := Lib.hid ho
 have HHL := Lib.hid (show (headB ⟨o, nm, a, f, t, k⟩).length ≤ 120 from headB_len HNM.out)
 have HTX := Lib.hid (show textB ⟨o, nm, a, f, t, k⟩ = headB ⟨o, nm, a, f, t, k⟩ ++ 40 :: (commas (a.map refB) ++ commas (k.map textB) ++ [41]) by rw [textB_is]; exact if_neg (by show ¬ (o = 1 ∨ o = 2); omega))
 clear hrec hF hBI hTB hg hal hlen hx g2 g5 l5 ho
 dsimp only at *
 obtain ⟨w1, hw1⟩ : ∃ w1, (w.alloc (.cells #[.int .i64 o, .string nm, .slice A2 a.length c2, .int .i64 f, .int .i64 t, .slice A5 k.length c5] 32)) = w1 := ⟨_, rfl⟩
 have HW10 := Lib.hid hw1
 rw [hw1] at HW0 HWB HTB HBX
 clear hw1
 have HTB1 := Lib.hid HTB.out
 have HBX1 := Lib.hid HBX.out
 go_enter Tryz.func53, Tryz.ntmps53
 obtain ⟨s, hs, hsk⟩ := kw_f o
 have HHE := Lib.hid (show headB ⟨o, nm, a, f, t, k⟩ = s.data.toList by rw [hsk]; unfold headB; rw [if_neg (by show ¬ o = 3; have := HO.out; omega), if_neg (by show ¬ (o = 8 ∨ o = 9); have := HO.out; omega), if_neg (by show ¬ o = 10; have := HO.out; omega)])
 have HSK := Lib.hid hsk
 have HKW := Lib.hid hs
 clear hs hsk
 go_wp2_with fail
 rw [HW10.out]
 refine (formula_keyword.calls o s _ HKW.out).mono ?_
 rintro e w4 ⟨rfl, hd⟩
 have HW4 := Lib.hid (HW0.out.drawn hd)
 clear hd
 go_wp2_with fail
 refine (ws_any s HW4.out.1 (by rw [HSK.out]; have := kwd_len o; have := HLEN.out; omega)).mono ?_
 rintro e w5 ⟨rfl, hw⟩
 have HWH := Lib.hid (HW4.out.step hw)
 rw [← HHE.out] at HWH
 clear hw
 have HBX5 := Lib.hid (HWH.out.blk HBX1.out (by decide) (by have := HBL.out; omega))
 obtain ⟨k0, k1, k2, k3, k4, k5⟩ := cells_of HBX5.out
 go_wp2_with fail
 refine (wb_any 40 40 rfl HWH.out.1 (by have := HHL.out; have := HLEN.out; rw [List.length_append]; omega)).mono ?_
 rintro e w6 ⟨rfl, hw⟩
 have HW6 := Lib.hid (HWH.out.step hw)
 have HBX6 := Lib.hid (HW6.out.blk HBX1.out (by decide) (by have := HBL.out; omega))
 clear hw k0 k1 k2 k3 k4 k5
 obtain ⟨k0, k1, k2, k3, k4, k5⟩ := cells_of HBX6.out
 have HL1 := Lib.hid (show (l ++ headB ⟨o, nm, a, f, t, k⟩ ++ [40]).length ≤ l.length + 121 by have := HHL.out; simp only [List.length_append, List.length_cons, List.length_nil]; omega)
 obtain ⟨L1, hL1⟩ : ∃ L1, l ++ headB ⟨o, nm, a, f, t, k⟩ ++ [40] = L1 := ⟨_, rfl⟩
 rw [hL1] at HW6 HL1
 have HLL1 := Lib.hid hL1
 clear hL1
 go_wp2
 go_loopw [68] (fun v68 wr => RefRel b L1 a w1 v68 wr) (fun v68 _ => a.length - (intOf v68).toNat)
 case atStart => exact ⟨0, rfl, Nat.zero_le _, by simpa [commas] using HW6.out⟩
 case round =>
  obtain ⟨j, rfl, hj, hwr⟩ := hrel
  have HWR := Lib.hid hwr
  clear hwr k0 k1 k2 k3 k4 k5
  have HCL := Lib.hid (show (commas ((a.take j).map refB)).length ≤ 1020 from refs_len (fun r hr => refB_len (HNM.out.ref r hr)) HNM.out.refs j)
  have HLR := Lib.hid (show (L1 ++ commas ((a.take j).map refB)).length ≤ l.length + 1141 by rw [List.length_append]; have := HCL.out; have := HL1.out; omega)
  by_cases hlt : j < a.length
  ·have hj0 : 0 ≤ (j : Int) := by omega
   have hj1 : (j : Int) < (a.length : Int) := by omega
   obtain ⟨ad, e1, q0, q1, q2⟩ := ref_at (Kd.F_now (Kd.F_step HG2.out (fun k hk _ => (HWB.out.base HWR.out).2.1.block k hk))) j hlt
   subst e1
   have HCN := Lib.hid (commas_next refB hlt)
   have HRM := Lib.hid (HNM.out.ref _ (List.getElem_mem hlt))
   obtain ⟨r, hr⟩ : ∃ r, a[j] = r := ⟨_, rfl⟩
   rw [hr] at q0 q1 q2 HCN HRM
   clear hr
   have HR5 := Lib.hid (blk_new wr (.cells #[.int .i64 r.f0, .int .i64 r.f1, .string r.f2] 84))
   have HWA := Lib.hid (HWR.out.alloc (.cells #[.int .i64 r.f0, .int .i64 r.f1, .string r.f2] 84))
   have HWS := Lib.hid (show b < wr.heap.size from bis_lt HWR.out.1)
   obtain ⟨LJ, hLJ⟩ : ∃ LJ, L1 ++ commas ((a.take j).map refB) = LJ := ⟨_, rfl⟩
   rw [hLJ] at HWA HLR
   have HLJ := Lib.hid hLJ
   clear hLJ HCL
   by_cases h0 : j = 0
   ·have HJ0 := Lib.hid h0
    have gz : decide ((0 : Int) < (j : Int)) = false := decide_eq_false (by omega)
    have gzn : decide (0 < j) = false := decide_eq_false (by omega)
    clear h0
    have HWC := Lib.hid HWA.out
    obtain ⟨LC, hLC⟩ : ∃ LC, LJ = LC := ⟨_, rfl⟩
    have HLC2 := Lib.hid hLC
    rw [hLC] at HWC
    have HLC := Lib.hid (show LC.length ≤ l.length + 1143 by rw [← hLC]; have := HLR.out; omega)
    clear hLC
    by_cases h1 : r.f0 = 1
    ·have HRF := Lib.hid (show refB r = 35 :: Lib.itoa r.f1 by unfold refB; rw [if_pos h1])
     have u1 : (r.f0 == (1 : Int)) = true := by simpa using h1
     clear h1
     go_wp2_with fail
     refine (itoa_any r.f1 HRM.out.2.1 HRM.out.2.2 (HWC.out.tb HTB1.out HGG.out)).mono ?_
     rintro e w8 ⟨rfl, kk, os, hgr⟩
     have HWI := Lib.hid (show Wr b LC w1 w8 by rw [hgr]; exact HWC.out.itoa)
     clear hgr
     obtain ⟨S, hS⟩ : ∃ S : ByteArray, (⟨(Lib.itoa r.f1).toArray⟩ : ByteArray) = S := ⟨_, rfl⟩
     rw [hS]
     have HSS := Lib.hid (show S.data.toList = Lib.itoa r.f1 by rw [← hS])
     have hsz : S.size ≤ 21 := by rw [← hS]; have := Lib.itoa_length_le r.f1 HRM.out.2.1 HRM.out.2.2; simpa [ByteArray.size] using this
     clear hS
     have hcat : ∀ W : World, (Op.stringOp .add ⟨#[35]⟩ S).run Tryz.prog W = .ok (.string (⟨#[35]⟩ ++ S)) W := fun W => run_string_add_sum W _ _ (by show 1 + S.size ≤ _; omega)
     have hc1 : ¬ (9223372036854775807 < 1 + S.size) := by omega
     have hc2 : ¬ (9223372036854775807 < (⟨#[35]⟩ : ByteArray).size + S.size) := by show ¬ (9223372036854775807 < 1 + S.size); omega
     have HCT := Lib.hid (show ((⟨#[35]⟩ : ByteArray) ++ S).data.toList = 35 :: Lib.itoa r.f1 by rw [ByteArray.data_append, Array.toList_append, HSS.out]; rfl)
     go_wp2_with fail
     obtain ⟨S2, hS2⟩ : ∃ S2, (⟨#[35]⟩ : ByteArray) ++ S = S2 := ⟨_, rfl⟩
     rw [hS2] at HCT ⊢
     clear hS2
     refine (ws_any S2 HWI.out.1 (by have h1 := congrArg List.length HCT.out; rw [List.length_cons] at h1; have := Lib.itoa_length_le r.f1 HRM.out.2.1 HRM.out.2.2; have := HLC.out; have := HLEN.out; omega)).mono ?_
     rintro e w9 ⟨rfl, hw9⟩
     have HW9 := Lib.hid (HWI.out.step hw9)
     clear hw9
     go_wp2
     go_roundw
     case rel => exact ⟨j + 1, by go_num, hlt, by rw [HCN.out, ← List.append_assoc, HLJ.out, if_pos HJ0.out, HRF.out]; have h9 := HW9.out; rw [← HLC2.out, HCT.out] at h9; exact h9⟩
     case measure => simp [intOf]; omega
    ·by_cases h3 : r.f0 = 3
     ·have HRF := Lib.hid (show refB r = 64 :: Lib.itoa r.f1 by unfold refB; rw [if_neg h1, if_pos h3])
      have u1 : (r.f0 == (1 : Int)) = false := by simpa using h1
      have u3 : (r.f0 == (3 : Int)) = true := by simpa using h3
      clear h1 h3
      go_wp2_with fail
      refine (itoa_any r.f1 HRM.out.2.1 HRM.out.2.2 (HWC.out.tb HTB1.out HGG.out)).mono ?_
      rintro e w8 ⟨rfl, kk, os, hgr⟩
      have HWI := Lib.hid (show Wr b LC w1 w8 by rw [hgr]; exact HWC.out.itoa)
      clear hgr
      obtain ⟨S, hS⟩ : ∃ S : ByteArray, (⟨(Lib.itoa r.f1).toArray⟩ : ByteArray) = S := ⟨_, rfl⟩
      rw [hS]
      have HSS := Lib.hid (show S.data.toList = Lib.itoa r.f1 by rw [← hS])
      have hsz : S.size ≤ 21 := by rw [← hS]; have := Lib.itoa_length_le r.f1 HRM.out.2.1 HRM.out.2.2; simpa [ByteArray.size] using this
      clear hS
      have hcat : ∀ W : World, (Op.stringOp .add ⟨#[64]⟩ S).run Tryz.prog W = .ok (.string (⟨#[64]⟩ ++ S)) W := fun W => run_string_add_sum W _ _ (by show 1 + S.size ≤ _; omega)
      have hc1 : ¬ (9223372036854775807 < 1 + S.size) := by omega
      have hc2 : ¬ (9223372036854775807 < (⟨#[64]⟩ : ByteArray).size + S.size) := by show ¬ (9223372036854775807 < 1 + S.size); omega
      have HCT := Lib.hid (show ((⟨#[64]⟩ : ByteArray) ++ S).data.toList = 64 :: Lib.itoa r.f1 by rw [ByteArray.data_append, Array.toList_append, HSS.out]; rfl)
      go_wp2_with fail
      obtain ⟨S2, hS2⟩ : ∃ S2, (⟨#[64]⟩ : ByteArray) ++ S = S2 := ⟨_, rfl⟩
      rw [hS2] at HCT ⊢
      clear hS2
      refine (ws_any S2 HWI.out.1 (by have h1 := congrArg List.length HCT.out; rw [List.length_cons] at h1; have := Lib.itoa_length_le r.f1 HRM.out.2.1 HRM.out.2.2; have := HLC.out; have := HLEN.out; omega)).mono ?_
      rintro e w9 ⟨rfl, hw9⟩
      have HW9 := Lib.hid (HWI.out.step hw9)
      clear hw9
      go_wp2
      go_roundw
      case rel => exact ⟨j + 1, by go_num, hlt, by rw [HCN.out, ← List.append_assoc, HLJ.out, if_pos HJ0.out, HRF.out]; have h9 := HW9.out; rw [← HLC2.out, HCT.out] at h9; exact h9⟩
      case measure => simp [intOf]; omega
     ·by_cases h4 : r.f0 = 4
      ·have HRF := Lib.hid (show refB r = Lib.itoa r.f1 by unfold refB; rw [if_neg h1, if_neg h3, if_pos h4])
       have u1 : (r.f0 == (1 : Int)) = false := by simpa using h1
       have u3 : (r.f0 == (3 : Int)) = false := by simpa using h3
       have u4 : (r.f0 == (4 : Int)) = true := by simpa using h4
       clear h1 h3 h4
       go_wp2_with fail
       refine (itoa_any r.f1 HRM.out.2.1 HRM.out.2.2 (HWC.out.tb HTB1.out HGG.out)).mono ?_
       rintro e w8 ⟨rfl, kk, os, hgr⟩
       have HWI := Lib.hid (show Wr b LC w1 w8 by rw [hgr]; exact HWC.out.itoa)
       clear hgr
       obtain ⟨S, hS⟩ : ∃ S : ByteArray, (⟨(Lib.itoa r.f1).toArray⟩ : ByteArray) = S := ⟨_, rfl⟩
       rw [hS]
       have HSS := Lib.hid (show S.data.toList = Lib.itoa r.f1 by rw [← hS])
       have hsz : S.size ≤ 21 := by rw [← hS]; have := Lib.itoa_length_le r.f1 HRM.out.2.1 HRM.out.2.2; simpa [ByteArray.size] using this
       clear hS
       go_wp2_with fail
       refine (ws_any S HWI.out.1 (by rw [HSS.out]; have := Lib.itoa_length_le r.f1 HRM.out.2.1 HRM.out.2.2; have := HLC.out; have := HLEN.out; omega)).mono ?_
       rintro e w9 ⟨rfl, hw9⟩
       have HW9 := Lib.hid (HWI.out.step hw9)
       clear hw9
       go_wp2
       go_roundw
       case rel => exact ⟨j + 1, by go_num, hlt, by rw [HCN.out, ← List.append_assoc, HLJ.out, if_pos HJ0.out, HRF.out]; have h9 := HW9.out; rw [← HLC2.out, HSS.out] at h9; exact h9⟩
       case measure => simp [intOf]; omega
      ·have HRF := Lib.hid (show refB r = r.f2.data.toList by unfold refB; rw [if_neg h1, if_neg h3, if_neg h4])
       have u1 : (r.f0 == (1 : Int)) = false := by simpa using h1
       have u3 : (r.f0 == (3 : Int)) = false := by simpa using h3
       have u4 : (r.f0 == (4 : Int)) = false := by simpa using h4
       clear h1 h3 h4
       have HWI := Lib.hid HWC.out
       go_wp2_with fail
       refine (ws_any r.f2 HWI.out.1 (by have h := HRM.out.1; have := HLC.out; have := HLEN.out; have e : r.f2.data.toList.length = r.f2.size := rfl; omega)).mono ?_
       rintro e w9 ⟨rfl, hw9⟩
       have HW9 := Lib.hid (HWI.out.step hw9)
       clear hw9
       go_wp2
       go_roundw
       case rel => exact ⟨j + 1, by go_num, hlt, by rw [HCN.out, ← List.append_assoc, HLJ.out, if_pos HJ0.out, HRF.out]; have h9 := HW9.out; rw [← HLC2.out] at h9; exact h9⟩
       case measure => simp [intOf]; omega
   ·have HJ0 := Lib.hid h0
    have gz : decide ((0 : Int) < (j : Int)) = true := decide_eq_true (by omega)
    have gzn : decide (0 < j) = true := decide_eq_true (by omega)
    clear h0
    go_wp2_with fail
    refine (ws_any ⟨#[44, 32]⟩ HWA.out.1 (by have := HLR.out; have := HLEN.out; simp; omega)).mono ?_
    rintro e w7 ⟨rfl, hw7⟩
    have HWC := Lib.hid (HWA.out.step hw7)
    have HR7 := Lib.hid (hw7.blk HR5.out (by decide) (by have := HWS.out; omega))
    have r70 : w7.cell? ⟨wr.heap.size, 0, none⟩ = some (.int .i64 r.f0) := blk_cell HR7.out 0
    have r71 : w7.cell? ⟨wr.heap.size, 1, none⟩ = some (.int .i64 r.f1) := blk_cell HR7.out 1
    have r72 : w7.cell? ⟨wr.heap.size, 2, none⟩ = some (.string r.f2) := blk_cell HR7.out 2
    clear hw7
    obtain ⟨LC, hLC⟩ : ∃ LC, LJ ++ (⟨#[44, 32]⟩ : ByteArray).data.toList = LC := ⟨_, rfl⟩
    have HLC2 := Lib.hid hLC
    rw [hLC] at HWC
    have HLC := Lib.hid (show LC.length ≤ l.length + 1143 by rw [← hLC]; have := HLR.out; simp; omega)
    clear hLC
    by_cases h1 : r.f0 = 1
    ·have HRF := Lib.hid (show refB r = 35 :: Lib.itoa r.f1 by unfold refB; rw [if_pos h1])
     have u1 : (r.f0 == (1 : Int)) = true := by simpa using h1
     clear h1
     go_wp2_with fail
     refine (itoa_any r.f1 HRM.out.2.1 HRM.out.2.2 (HWC.out.tb HTB1.out HGG.out)).mono ?_
     rintro e w8 ⟨rfl, kk, os, hgr⟩
     have HWI := Lib.hid (show Wr b LC w1 w8 by rw [hgr]; exact HWC.out.itoa)
     clear hgr
     obtain ⟨S, hS⟩ : ∃ S : ByteArray, (⟨(Lib.itoa r.f1).toArray⟩ : ByteArray) = S := ⟨_, rfl⟩
     rw [hS]
     have HSS := Lib.hid (show S.data.toList = Lib.itoa r.f1 by rw [← hS])
     have hsz : S.size ≤ 21 := by rw [← hS]; have := Lib.itoa_length_le r.f1 HRM.out.2.1 HRM.out.2.2; simpa [ByteArray.size] using this
     clear hS
     have hcat : ∀ W : World, (Op.stringOp .add ⟨#[35]⟩ S).run Tryz.prog W = .ok (.string (⟨#[35]⟩ ++ S)) W := fun W => run_string_add_sum W _ _ (by show 1 + S.size ≤ _; omega)
     have hc1 : ¬ (9223372036854775807 < 1 + S.size) := by omega
     have hc2 : ¬ (9223372036854775807 < (⟨#[35]⟩ : ByteArray).size + S.size) := by show ¬ (9223372036854775807 < 1 + S.size); omega
     have HCT := Lib.hid (show ((⟨#[35]⟩ : ByteArray) ++ S).data.toList = 35 :: Lib.itoa r.f1 by rw [ByteArray.data_append, Array.toList_append, HSS.out]; rfl)
     go_wp2_with fail
     obtain ⟨S2, hS2⟩ : ∃ S2, (⟨#[35]⟩ : ByteArray) ++ S = S2 := ⟨_, rfl⟩
     rw [hS2] at HCT ⊢
     clear hS2
     refine (ws_any S2 HWI.out.1 (by have h1 := congrArg List.length HCT.out; rw [List.length_cons] at h1; have := Lib.itoa_length_le r.f1 HRM.out.2.1 HRM.out.2.2; have := HLC.out; have := HLEN.out; omega)).mono ?_
     rintro e w9 ⟨rfl, hw9⟩
     have HW9 := Lib.hid (HWI.out.step hw9)
     clear hw9
     go_wp2
     go_roundw
     case rel => exact ⟨j + 1, by go_num, hlt, by rw [HCN.out, ← List.append_assoc, HLJ.out, if_neg HJ0.out, HRF.out]; have h9 := HW9.out; rw [← HLC2.out, HCT.out] at h9; simpa using h9⟩
     case measure => simp [intOf]; omega
    ·by_cases h3 : r.f0 = 3
     ·have HRF := Lib.hid (show refB r = 64 :: Lib.itoa r.f1 by unfold refB; rw [if_neg h1, if_pos h3])
      have u1 : (r.f0 == (1 : Int)) = false := by simpa using h1
      have u3 : (r.f0 == (3 : Int)) = true := by simpa using h3
      clear h1 h3
      go_wp2_with fail
      refine (itoa_any r.f1 HRM.out.2.1 HRM.out.2.2 (HWC.out.tb HTB1.out HGG.out)).mono ?_
      rintro e w8 ⟨rfl, kk, os, hgr⟩
      have HWI := Lib.hid (show Wr b LC w1 w8 by rw [hgr]; exact HWC.out.itoa)
      clear hgr
      obtain ⟨S, hS⟩ : ∃ S : ByteArray, (⟨(Lib.itoa r.f1).toArray⟩ : ByteArray) = S := ⟨_, rfl⟩
      rw [hS]
      have HSS := Lib.hid (show S.data.toList = Lib.itoa r.f1 by rw [← hS])
      have hsz : S.size ≤ 21 := by rw [← hS]; have := Lib.itoa_length_le r.f1 HRM.out.2.1 HRM.out.2.2; simpa [ByteArray.size] using this
      clear hS
      have hcat : ∀ W : World, (Op.stringOp .add ⟨#[64]⟩ S).run Tryz.prog W = .ok (.string (⟨#[64]⟩ ++ S)) W := fun W => run_string_add_sum W _ _ (by show 1 + S.size ≤ _; omega)
      have hc1 : ¬ (9223372036854775807 < 1 + S.size) := by omega
      have hc2 : ¬ (9223372036854775807 < (⟨#[64]⟩ : ByteArray).size + S.size) := by show ¬ (9223372036854775807 < 1 + S.size); omega
      have HCT := Lib.hid (show ((⟨#[64]⟩ : ByteArray) ++ S).data.toList = 64 :: Lib.itoa r.f1 by rw [ByteArray.data_append, Array.toList_append, HSS.out]; rfl)
      go_wp2_with fail
      obtain ⟨S2, hS2⟩ : ∃ S2, (⟨#[64]⟩ : ByteArray) ++ S = S2 := ⟨_, rfl⟩
      rw [hS2] at HCT ⊢
      clear hS2
      refine (ws_any S2 HWI.out.1 (by have h1 := congrArg List.length HCT.out; rw [List.length_cons] at h1; have := Lib.itoa_length_le r.f1 HRM.out.2.1 HRM.out.2.2; have := HLC.out; have := HLEN.out; omega)).mono ?_
      rintro e w9 ⟨rfl, hw9⟩
      have HW9 := Lib.hid (HWI.out.step hw9)
      clear hw9
      go_wp2
      go_roundw
      case rel => exact ⟨j + 1, by go_num, hlt, by rw [HCN.out, ← List.append_assoc, HLJ.out, if_neg HJ0.out, HRF.out]; have h9 := HW9.out; rw [← HLC2.out, HCT.out] at h9; simpa using h9⟩
      case measure => simp [intOf]; omega
     ·by_cases h4 : r.f0 = 4
      ·have HRF := Lib.hid (show refB r = Lib.itoa r.f1 by unfold refB; rw [if_neg h1, if_neg h3, if_pos h4])
       have u1 : (r.f0 == (1 : Int)) = false := by simpa using h1
       have u3 : (r.f0 == (3 : Int)) = false := by simpa using h3
       have u4 : (r.f0 == (4 : Int)) = true := by simpa using h4
       clear h1 h3 h4
       go_wp2_with fail
       refine (itoa_any r.f1 HRM.out.2.1 HRM.out.2.2 (HWC.out.tb HTB1.out HGG.out)).mono ?_
       rintro e w8 ⟨rfl, kk, os, hgr⟩
       have HWI := Lib.hid (show Wr b LC w1 w8 by rw [hgr]; exact HWC.out.itoa)
       clear hgr
       obtain ⟨S, hS⟩ : ∃ S : ByteArray, (⟨(Lib.itoa r.f1).toArray⟩ : ByteArray) = S := ⟨_, rfl⟩
       rw [hS]
       have HSS := Lib.hid (show S.data.toList = Lib.itoa r.f1 by rw [← hS])
       have hsz : S.size ≤ 21 := by rw [← hS]; have := Lib.itoa_length_le r.f1 HRM.out.2.1 HRM.out.2.2; simpa [ByteArray.size] using this
       clear hS
       go_wp2_with fail
       refine (ws_any S HWI.out.1 (by rw [HSS.out]; have := Lib.itoa_length_le r.f1 HRM.out.2.1 HRM.out.2.2; have := HLC.out; have := HLEN.out; omega)).mono ?_
       rintro e w9 ⟨rfl, hw9⟩
       have HW9 := Lib.hid (HWI.out.step hw9)
       clear hw9
       go_wp2
       go_roundw
       case rel => exact ⟨j + 1, by go_num, hlt, by rw [HCN.out, ← List.append_assoc, HLJ.out, if_neg HJ0.out, HRF.out]; have h9 := HW9.out; rw [← HLC2.out, HSS.out] at h9; simpa using h9⟩
       case measure => simp [intOf]; omega
      ·have HRF := Lib.hid (show refB r = r.f2.data.toList by unfold refB; rw [if_neg h1, if_neg h3, if_neg h4])
       have u1 : (r.f0 == (1 : Int)) = false := by simpa using h1
       have u3 : (r.f0 == (3 : Int)) = false := by simpa using h3
       have u4 : (r.f0 == (4 : Int)) = false := by simpa using h4
       clear h1 h3 h4
       have HWI := Lib.hid HWC.out
       go_wp2_with fail
       refine (ws_any r.f2 HWI.out.1 (by have h := HRM.out.1; have := HLC.out; have := HLEN.out; have e : r.f2.data.toList.length = r.f2.size := rfl; omega)).mono ?_
       rintro e w9 ⟨rfl, hw9⟩
       have HW9 := Lib.hid (HWI.out.step hw9)
       clear hw9
       go_wp2
       go_roundw
       case rel => exact ⟨j + 1, by go_num, hlt, by rw [HCN.out, ← List.append_assoc, HLJ.out, if_neg HJ0.out, HRF.out]; have h9 := HW9.out; rw [← HLC2.out] at h9; simpa using h9⟩
       case measure => simp [intOf]; omega
  ·have hja : j = a.length := by omega
   subst hja
   clear hlt hj
   have HBX7 := Lib.hid (HWR.out.blk HBX1.out (by decide) (by have := HBL.out; omega))
   obtain ⟨k0, k1, k2, k3, k4, k5⟩ := cells_of HBX7.out
   rw [List.take_length] at HWR HLR HCL
   obtain ⟨L2, hL2⟩ : ∃ L2, L1 ++ commas (a.map refB) = L2 := ⟨_, rfl⟩
   rw [hL2] at HWR HLR
   have HLL2 := Lib.hid hL2
   clear hL2 HCL
   go_wp2
   go_loopw [110] (fun v110 wr => KidRel b L2 k w1 v110 wr) (fun v110 _ => k.length - (intOf v110).toNat)
   case atStart => exact ⟨0, rfl, Nat.zero_le _, by simpa [commas] using HWR.out⟩
   case round =>
    obtain ⟨j, rfl, hj, hwr⟩ := hrel
    have HWK := Lib.hid hwr
    clear hwr k0 k1 k2 k3 k4 k5
    by_cases hlt : j < k.length
    ·have hj0 : 0 ≤ (j : Int) := by omega
     have hj1 : (j : Int) < (k.length : Int) := by omega
     obtain ⟨ad, A3, c3, A6, c6, e4, q0, q1, q2, q3, q4, q5, qF⟩ := form_F (Kd.F_step HG5.out (fun k hk _ => (HWB.out.base HWK.out).2.1.block k hk)) (Below.refl _ _) j hlt
     subst e4
     have HCN := Lib.hid (commas_next textB hlt)
     have HKLN := Lib.hid (kids_len HKAL.out hlt)
     have hmem : k[j] ∈ k := List.getElem_mem hlt
     obtain ⟨y, hy⟩ : ∃ y, k[j] = y := ⟨_, rfl⟩
     rw [hy] at q0 q1 q2 q3 q4 q5 qF hmem HCN HKLN
     clear hy
     have HQF := Lib.hid qF
     have HYL := Lib.hid (HKAL.out y hmem)
     have HYS := Lib.hid (show size y < n by have := kid_lt (x := ⟨o, nm, a, f, t, k⟩) hmem; have := HSZ.out; omega)
     have HXS := Lib.hid (show size ⟨o, nm, a, f, t, k⟩ = 1 + size.sizes k from size_is ⟨o, nm, a, f, t, k⟩)
     have HR5 := Lib.hid (blk_new wr (.cells #[.int .i64 y.f0, .string y.f1, .slice A3 y.f2.length c3, .int .i64 y.f3, .int .i64 y.f4, .slice A6 y.f5.length c6] 32))
     have HWA := Lib.hid (HWK.out.alloc (.cells #[.int .i64 y.f0, .string y.f1, .slice A3 y.f2.length c3, .int .i64 y.f3, .int .i64 y.f4, .slice A6 y.f5.length c6] 32))
     have HWAA := Lib.hid ((Wr.refl HWK.out.1).alloc (.cells #[.int .i64 y.f0, .string y.f1, .slice A3 y.f2.length c3, .int .i64 y.f3, .int .i64 y.f4, .slice A6 y.f5.length c6] 32))
     have HWS := Lib.hid (show b < wr.heap.size from bis_lt HWK.out.1)
     obtain ⟨LJ, hLJ⟩ : ∃ LJ, L2 ++ commas ((k.take j).map textB) = LJ := ⟨_, rfl⟩
     have HLRK := Lib.hid (show LJ.length + 2000 * size y + 857 ≤ l.length + 2000 * size ⟨o, nm, a, f, t, k⟩ by rw [← hLJ, List.length_append]; have := HKLN.out; have := HLR.out; have := HXS.out; omega)
     rw [hLJ] at HWA HWAA
     have HLJ := Lib.hid hLJ
     clear hLJ qF hmem
     by_cases h0 : j = 0
     ·have HJ0 := Lib.hid h0
      have gz : decide ((0 : Int) < (j : Int)) = false := decide_eq_false (by omega)
      have gzn : decide (0 < j) = false := decide_eq_false (by omega)
      clear h0
      have HWC := Lib.hid HWA.out
      have HWCB := Lib.hid HWAA.out
      obtain ⟨LC, hLC⟩ : ∃ LC, LJ = LC := ⟨_, rfl⟩
      have HLC2 := Lib.hid hLC
      rw [hLC] at HWC HWCB
      have HLC := Lib.hid (show LC.length + 2000 * size y ≤ l.length + 2000 * size ⟨o, nm, a, f, t, k⟩ by rw [← hLC]; have := HLRK.out; omega)
      clear hLC
      have HCALL := Lib.hid (HREC.out y HYS.out b LC (wr.alloc (.cells #[.int .i64 y.f0, .string y.f1, .slice A3 y.f2.length c3, .int .i64 y.f3, .int .i64 y.f4, .slice A6 y.f5.length c6] 32)) _ (Kd.FK_step HQF.out (fun k hk _ => HWCB.out.2.1.block k hk)) HWC.out.1 (HWC.out.tb HTB1.out HGG.out) HGG.out HYL.out (by have := HLC.out; have := HLEN.out; omega))
      go_wp2_with fail
      refine HCALL.out.mono ?_
      rintro e w9 ⟨rfl, hw9⟩
      have HW9 := Lib.hid (HWC.out.step hw9.wrote)
      clear hw9
      go_wp2
      go_roundw
      case rel => exact ⟨j + 1, by go_num, hlt, by rw [HCN.out, ← List.append_assoc, HLJ.out, if_pos HJ0.out]; have h9 := HW9.out; rw [← HLC2.out] at h9; exact h9⟩
      case measure => simp [intOf]; omega
     ·have HJ0 := Lib.hid h0
      have gz : decide ((0 : Int) < (j : Int)) = true := decide_eq_true (by omega)
      have gzn : decide (0 < j) = true := decide_eq_true (by omega)
      clear h0
      go_wp2_with fail
      refine (ws_any ⟨#[44, 32]⟩ HWA.out.1 (by have := HLRK.out; have := HLEN.out; simp; omega)).mono ?_
      rintro e w7 ⟨rfl, hw7⟩
      have HWC := Lib.hid (HWA.out.step hw7)
      have HWCB := Lib.hid (HWAA.out.step hw7)
      have HR7 := Lib.hid (hw7.blk HR5.out (by decide) (by have := HWS.out; omega))
      obtain ⟨r0, r1, r2, r3, r4, r5⟩ := cells_of HR7.out
      clear hw7
      obtain ⟨LC, hLC⟩ : ∃ LC, LJ ++ (⟨#[44, 32]⟩ : ByteArray).data.toList = LC := ⟨_, rfl⟩
      have HLC2 := Lib.hid hLC
      rw [hLC] at HWC HWCB
      have HLC := Lib.hid (show LC.length + 2000 * size y ≤ l.length + 2000 * size ⟨o, nm, a, f, t, k⟩ by rw [← hLC]; have := HLRK.out; simp; omega)
      clear hLC q0 q1 q2 q3 q4 q5
      have HCALL := Lib.hid (HREC.out y HYS.out b LC w7 _ (Kd.FK_step HQF.out (fun k hk _ => HWCB.out.2.1.block k hk)) HWC.out.1 (HWC.out.tb HTB1.out HGG.out) HGG.out HYL.out (by have := HLC.out; have := HLEN.out; omega))
      go_wp2_with fail
      refine HCALL.out.mono ?_
      rintro e w9 ⟨rfl, hw9⟩
      have HW9 := Lib.hid (HWC.out.step hw9.wrote)
      clear hw9
      go_wp2
      go_roundw
      case rel => exact ⟨j + 1, by go_num, hlt, by rw [HCN.out, ← List.append_assoc, HLJ.out, if_neg HJ0.out]; have h9 := HW9.out; rw [← HLC2.out] at h9; simpa using h9⟩
      case measure => simp [intOf]; omega
    ·have hjk : j = k.length := by omega
     subst hjk
     clear hlt hj
     rw [List.take_length] at HWK
     go_wp2_with fail
     refine (wb_any 41 41 rfl HWK.out.1 (by have h1 := commas_sum (k.map textB); have h2 := textBs_len k HKAL.out; rw [textBs_map] at h2; have := HLR.out; have := HLEN.out; have := size_is ⟨o, nm, a, f, t, k⟩; dsimp only at this; rw [List.length_append]; omega)).mono ?_
     rintro e w9 ⟨rfl, hw9⟩
     have HW9 := Lib.hid (HWK.out.step hw9)
     clear hw9
     go_wp2
     go_end0
     exact ⟨rfl, by have h9 := HWB.out.base HW9.out; rw [HTX.out]; rw [← HLL2.out, ← HLL1.out] at h9; simpa using h9⟩
end Go.Proofs.YtbahnpdgaoedmaaGreatDoor.Mm
