/- Part 5 of the proof of BestfirstDistance: Rr. -/
import Derived.Test.YtipdejalohmkpaaBBestfirstDistance4
import Derived.StillTailTactics
import Derived.Outline
/- The specified search's Run. -/
namespace Go.Proofs.Ytipdejalohmkpaa.Gr
open Go.RowKit Go.Proofs.YtipdejalohmkpaaW.PrintWords Go.Proofs.YtipdejalohmkpaaW.PrintLast Go.Proofs.YtipdejalohmkpaaW.PrintMore PBestfirstDistances
set_option linter.unusedSimpArgs false
set_option linter.unusedVariables false
variable {g : Gph} {w : World} {A0 A1 A2 : Option Addr} {c0 c1 c2 : Nat}
/-- An entry of the list: the path, and its cost. -/
def ent (e : Sr.Ent Int) : List Int × Int := (e.rp.reverse, e.cost)
theorem i64w {n : Int} (h0 : -9223372036854775808 ≤ n) (h1 : n ≤ 9223372036854775807) : IntKind.i64.wrap n = n := by rw [IntKind.wrap_i64]; omega
theorem keepw {w w' : World} {a : Addr} {v : Value} (hb : Below w.heap.size w w') (h : w.cell? a = some v) : w'.cell? a = some v := (hb.cell (World.block_lt_of_cell? w _ h)).trans h
abbrev kent : Kd (List Int × Int) := Kd.pair (Kd.slice 3 (Kd.int .i64)) (Kd.int .i64)
theorem info37 : (Try.prog.info? 37).map (fun i => (i.zero, i.size, i.bytes)) = some (some (.agg #[.slice none 0 0, .int .i64 0]), 2, 32) := by kernel_rfl
theorem info3r : (Try.prog.info? 3).map (fun i => (i.zero, i.size, i.bytes)) = some (some (.int .i64 0), 1, 8) := by kernel_rfl
theorem info37p : ∃ i, Try.prog.info? 37 = some i ∧ i.size = 2 := by
  have h : (Try.prog.info? 37).map (·.size) = some 2 := by kernel_rfl
  obtain ⟨i, h1, h2⟩ := Option.map_eq_some_iff.1 h
  exact ⟨i, h1, h2⟩
/-- Rows that are read, cut. -/
theorem rr_take {α : Type} {R : α → List Value → Prop} {size : Nat} {w : World} {A : Option Addr} {xs : List α} {m : Nat} (h : ReadsRow R size w A xs.length xs) (hm : m ≤ xs.length) : ReadsRow R size w A m (xs.take m) := by
  have hl : (xs.take m).length = m := by rw [List.length_take]; omega
  refine ⟨hl, by have := h.2.1; omega, fun hp => ?_⟩
  obtain ⟨ad, e, hc⟩ := h.2.2 (by omega)
  refine ⟨ad, e, fun j p hj => hc j p ?_⟩
  rw [List.getElem?_take] at hj
  split at hj
  · exact hj
  · cases hj
theorem rr_drop {α : Type} {R : α → List Value → Prop} {size : Nat} {w : World} {A : Option Addr} {xs : List α} {m c : Nat} (h : ReadsRow R size w A xs.length xs) (hm : m ≤ xs.length) (hc : xs.length ≤ c) : ReadsRow R size w (if c = m then A else A.map (·.add (m * size))) (xs.length - m) (xs.drop m) := by
  have hl : (xs.drop m).length = xs.length - m := List.length_drop
  refine ⟨hl, by have := h.2.1; omega, fun hp => ?_⟩
  obtain ⟨ad, rfl, hcell⟩ := h.2.2 (by omega)
  rw [if_neg (by omega)]
  refine ⟨ad.add (m * size), rfl, fun j p hj => ?_⟩
  rw [List.getElem?_drop] at hj
  obtain ⟨cs, h1, h2, h3⟩ := hcell (m + j) p hj
  refine ⟨cs, h1, h2, fun i u hu => ?_⟩
  rw [Addr.add_add, show m * size + (j * size + i) = (m + j) * size + i by rw [Nat.add_mul]; omega]
  exact h3 i u hu
/-- A row of one's own, as elements that may stand as made. -/
theorem rr_own {α : Type} {d : Kd α} {e base : Nat} {w : World} {ok : Nat → Prop} {v : Value} {xs : List α} (h : d.R e w base ok v xs) : ∃ A c, v = .slice A xs.length c ∧ xs.length ≤ c ∧ ReadsRow (d.M w base (fun k => (ok k ∧ some k ≠ v.ownBlock) ∧ base ≤ k ∧ k < w.heap.size)) d.sz w A xs.length xs := by
  obtain ⟨A, c, e1, hl, _⟩ := Kd.R_reads h
  obtain ⟨_, inner, ho, hr⟩ := h
  obtain ⟨A', c', e2, hR⟩ := own_reads_row ho (hr.imp_ (fun p cs hp => d.M_mono (ok' := fun k => (ok k ∧ some k ≠ v.ownBlock) ∧ base ≤ k ∧ k < w.heap.size) (fun k hk => ⟨hk.1, hk.2.1, hk.2.2.1⟩) (d.M_bound hp))) rfl
  rw [e1] at e2
  injection e2 with e2 _ e3
  subst e2 e3
  exact ⟨A, c, e1, hl, hR⟩
/-- An entry of the list in memory. -/
theorem ent_at {base : Nat} {ok : Nat → Prop} {vl : Value} {L : List (Sr.Ent Int)} (h : kent.R 37 w base ok vl (L.map ent)) : ∃ A c, vl = .slice A L.length c ∧ L.length ≤ c ∧ ∀ i (hi : i < L.length), ∃ ad vp, A = some ad ∧
    w.cell? (ad.add (i * 2)) = some vp ∧ w.cell? ⟨(ad.add (i * 2)).block, (ad.add (i * 2)).off + 1, none⟩ = some (.int .i64 L[i].cost) ∧ (Kd.int .i64).R 3 w base (fun k => (ok k ∧ some k ≠ vl.ownBlock) ∧ base ≤ k ∧ k < w.heap.size) vp L[i].rp.reverse := by
  obtain ⟨A, c, e, hl, hR⟩ := rr_own h
  rw [List.length_map] at e hl hR
  refine ⟨A, c, e, hl, fun i hi => ?_⟩
  obtain ⟨ad, rfl, hc⟩ := hR.2.2 (by omega)
  obtain ⟨cs, h1, h2, h3⟩ := hc i (ent L[i]) (by simp [hi])
  obtain ⟨x0, x1, rfl, ⟨vp, rfl, hp⟩, rfl⟩ := h2
  refine ⟨ad, vp, rfl, h3 0 _ rfl, ?_, hp⟩
  have := h3 1 (.int .i64 L[i].cost) rfl
  rw [← add_field _ _ 1 (by omega)]
  exact this
theorem int_chg {w w' : World} {base : Nat} {v : Value} {xs : List Int} {ok ok' : Nat → Prop} {S : Nat → Prop} (h : (Kd.int .i64).R 3 w base ok v xs) (hc : Chg w w' S) (hn : ∀ k, v.ownBlock = some k → ¬ S k) (hok : ∀ k, v.ownBlock = some k → ok' k) : (Kd.int .i64).R 3 w' base ok' v xs :=
  Kd.R_of_own (own_move (Kd.own_of_R h) (fun k hk => hc.block k (own_lt (Kd.own_of_R h) k hk) (hn k hk))) hok
theorem XAt.chg {w' : World} {base xb : Nat} {what : Int} {key : ByteArray} {ve : Value} {order : List Int} {S : Nat → Prop} (h : XAt g w base xb what key ve order A0 c0 A1 c1 A2 c2) (hc : Chg w w' S) (hx : ¬ S xb) (hn : ∀ k, ve.ownBlock = some k → ¬ S k) (hg : GAt g w' A0 c0 A1 c1 A2 c2) : XAt g w' base xb what key ve order A0 c0 A1 c1 A2 c2 :=
  ⟨(hc.block xb (blk_lt h.blk) hx).trans h.blk, hg, int_chg h.row hc hn (fun _ _ => trivial), h.dom⟩
theorem XAt.ne {base xb gb t : Nat} {what : Int} {key : ByteArray} {ve : Value} {order : List Int} {cs : Array Value} (h : XAt g w base xb what key ve order A0 c0 A1 c1 A2 c2) (hb : w.heap[gb]? = some (.cells cs t (0, 0))) (ht : 3 ≠ t) : ∀ k, ve.ownBlock = some k → k ≠ gb := by
  intro k hk e
  exact own_ne (Kd.own_of_R h.row) hb ht (by rw [hk, e])
def OkL (xb rb : Nat) (ve : Value) (k : Nat) : Prop := k ≠ xb ∧ k ≠ rb ∧ some k ≠ ve.ownBlock
/-- What holds at the head of a round. -/
structure RI (g : Gph) (W wr : World) (xb : Nat) (what : Int) (key : ByteArray) (budget k : Nat) (out : Sr.Out Int) (order : List Int) (L : List (Sr.Ent Int)) (added : Nat) (ve vl : Value) (A0 : Option Addr) (c0 : Nat) (A1 : Option Addr) (c1 : Nat) (A2 : Option Addr) (c2 : Nat) : Prop where
  chg : Chg W wr (fun i => i = xb)
  x : XAt g wr W.heap.size xb what key ve order A0 c0 A1 c1 A2 c2
  l : kent.R 37 wr W.heap.size (OkL xb W.heap.size ve) vl (L.map ent)
  rb : wr.heap[W.heap.size]? = some (.cells #[.slice none 0 0, .int .i64 0] 37 (0, 0))
  ok : ∀ e ∈ L, g.has e.st = true ∧ 0 ≤ e.cost ∧ e.cost ≤ 1099511627776 ∧ e.bk.length ≤ order.length
  few : L.length ≤ 1 + 8 * order.length
  ne : Sr.KeysNe g.prob order
  run : Sr.run g.prob (goalOf g what key) budget k L order added = some out
def RRel (g : Gph) (W : World) (xb : Nat) (what : Int) (key : ByteArray) (budget : Nat) (out : Sr.Out Int) (A0 : Option Addr) (c0 : Nat) (A1 : Option Addr) (c1 : Nat) (A2 : Option Addr) (c2 : Nat) (k : Nat) (v8 : Value) (wr : World) : Prop :=
  ∃ order L added ve vl, vl = v8 ∧ RI g W wr xb what key budget k out order L added ve vl A0 c0 A1 c1 A2 c2
/-- What Run hands back. -/
def RPost (g : Gph) (W : World) (xb : Nat) (what : Int) (key : ByteArray) (out : Sr.Out Int) (A0 : Option Addr) (c0 : Nat) (A1 : Option Addr) (c1 : Nat) (A2 : Option Addr) (c2 : Nat) (e : Ending) (w' : World) : Prop :=
  Chg W w' (fun i => i = xb) ∧ ∃ ve vp order', XAt g w' W.heap.size xb what key ve order' A0 c0 A1 c1 A2 c2 ∧ match out with
  | .found x o => order' = o ∧ e = .returned (.tuple #[.agg #[vp, .int .i64 x.cost], .int .i64 0]) ∧ (Kd.int .i64).R 3 w' W.heap.size (fun _ => True) vp x.rp.reverse
  | .notFound o => order' = o ∧ e = .returned (.tuple #[.agg #[.slice none 0 0, .int .i64 0], .int .i64 4])
  | .budget o => order' = o ∧ e = .returned (.tuple #[.agg #[.slice none 0 0, .int .i64 0], .int .i64 7])
theorem okl_fresh {W wr : World} {xb : Nat} {what : Int} {key : ByteArray} {ve : Value} {order : List Int} (hx : XAt g wr W.heap.size xb what key ve order A0 c0 A1 c1 A2 c2) (hxb : xb < W.heap.size) (hs : W.heap.size < wr.heap.size) {k : Nat} (hk : wr.heap.size ≤ k) : OkL xb W.heap.size ve k :=
  ⟨by omega, by omega, fun e => by have := own_lt (Kd.own_of_R hx.row) k e.symm; omega⟩
/-- The entries of the list, and of a part of it. -/
def OkP (ok : Nat → Prop) (vl : Value) (base n : Nat) (k : Nat) : Prop := (ok k ∧ some k ≠ vl.ownBlock) ∧ base ≤ k ∧ k < n
def OkQ (xb rb : Nat) (ve : Value) (at_ : Nat) (k : Nat) : Prop := OkL xb rb ve k ∧ k ≠ at_
theorem RI.next {W wo w' : World} {xb : Nat} {what : Int} {key : ByteArray} {budget k added m at_ : Nat} {out : Sr.Out Int} {order : List Int} {L : List (Sr.Ent Int)} {ve vl vl' : Value} {x : Sr.Ent Int} (h : RI g W wo xb what key budget (k + 1) out order L added ve vl A0 c0 A1 c1 A2 c2)
    (hm : m = Sr.minIdx L) (hx : L[Sr.minIdx L]? = some x) (hw : (order.any fun s => g.key s == g.key x.st) = true) (hb : Below wo.heap.size wo w') (hR : kent.R 37 w' W.heap.size (OkQ xb W.heap.size ve at_) vl' ((L.eraseIdx m).map ent)) :
    RI g W w' xb what key budget k out order (L.eraseIdx m) added ve vl' A0 c0 A1 c1 A2 c2 :=
  ⟨h.chg.trans (Chg.of_below hb _) (fun _ _ e => e), h.x.below hb, Kd.R_mono hR (fun _ hk => hk.1), (hb.block _ (blk_lt h.rb)).trans h.rb, fun e he => h.ok e (List.mem_of_mem_eraseIdx he), by
    have := List.length_eraseIdx_le L m; have := h.few; omega, h.ne, by subst hm; exact Sr.run_was hx hw h.run⟩
theorem cut_list_to (ad : Addr) (n c m : Nat) (hm : m ≤ n) (hnc : n ≤ c) :
    ∀ W : World, (Instr.slice 63 (.slice (some ad) n c) none (some (.int .i64 (m : Int))) none).run Try.prog W = .ok (.slice (some ad) m c) W := by
  obtain ⟨i, hi, hsz⟩ := info37p
  have h := cut_to (P := Try.prog) 63 37 .i64 Try.underlying63 hi (some ad) n c (m : Int) (by omega) (by omega) hnc
  simp only [Int.toNat_natCast] at h
  exact h
theorem cut_list_from (ad : Addr) (n c m : Nat) (hm : m + 1 ≤ n) (hn : n ≤ 1000000) :
    ∀ W : World, (Instr.slice 63 (.slice (some ad) n c) (some (.int .i64 (IntKind.i64.wrap ((m : Int) + 1)))) none none).run Try.prog W = .ok (.slice (if c = m + 1 then some ad else some (ad.add ((m + 1) * 2))) (n - (m + 1)) (c - (m + 1))) W := by
  obtain ⟨i, hi, hsz⟩ := info37p
  have h := cut_from (P := Try.prog) 63 37 .i64 Try.underlying63 hi 2 hsz (some ad) n c ((m + 1 : Nat) : Int) (by omega) (by omega)
  simp only [Int.toNat_natCast] at h
  rw [show IntKind.i64.wrap ((m : Int) + 1) = ((m + 1 : Nat) : Int) by rw [IntKind.wrap_i64]; omega]
  exact h
theorem below_gr {B : Nat} {w w' : World} {r : Option Nat} (h : w.grownBy w' r) (hr : ∀ k, r = some k → B ≤ k) (hB : B ≤ w.heap.size) : Below B w w' :=
  (Below.refl B w).grown h hB hr
theorem rr_below {α : Type} {R : α → List Value → Prop} {size n : Nat} {w w' : World} {A : Option Addr} {xs : List α} (h : ReadsRow R size w A n xs) (hb : Below w.heap.size w w') : ReadsRow R size w' A n xs := by
  refine ⟨h.1, h.2.1, fun hp => ?_⟩
  obtain ⟨ad, e, hc⟩ := h.2.2 hp
  refine ⟨ad, e, fun j p hj => ?_⟩
  obtain ⟨cs, h1, h2, h3⟩ := hc j p hj
  exact ⟨cs, h1, h2, fun i u hu => (hb.cell (World.block_lt_of_cell? w _ (h3 i u hu))).trans (h3 i u hu)⟩
theorem own_list {ok : Nat → Prop} {base c : Nat} {A : Option Addr} {L : List (Sr.Ent Int)} (h : kent.R 37 w base ok (.slice A L.length c) (L.map ent)) : ReadsRow (kent.M w base (OkP ok (.slice A L.length c) base w.heap.size)) 2 w A (L.map ent).length (L.map ent) := by
  obtain ⟨A', c', e, hl, hR⟩ := rr_own h
  injection e with e1 _ _
  subst e1
  exact hR
theorem part_take {ok : Nat → Prop} {base c m : Nat} {A : Option Addr} {L : List (Sr.Ent Int)} (h : kent.R 37 w base ok (.slice A L.length c) (L.map ent)) (hm : m ≤ L.length) : ReadsRow (kent.M w base (OkP ok (.slice A L.length c) base w.heap.size)) 2 w A m ((L.map ent).take m) :=
  rr_take (own_list h) (by simpa using hm)
theorem part_drop {ok : Nat → Prop} {base c m : Nat} {ad : Addr} {L : List (Sr.Ent Int)} (h : kent.R 37 w base ok (.slice (some ad) L.length c) (L.map ent)) (hm : m ≤ L.length) (hc : L.length ≤ c) : ReadsRow (kent.M w base (OkP ok (.slice (some ad) L.length c) base w.heap.size)) 2 w (if c = m then some ad else some (ad.add (m * 2))) (L.length - m) ((L.map ent).drop m) := by
  have := rr_drop (c := c) (own_list h) (m := m) (by simpa using hm) (by simpa using hc)
  simpa using this
theorem empty_list {w : World} {base : Nat} {ok : Nat → Prop} (hb : base ≤ w.heap.size) (hok : ok w.heap.size) : kent.R 37 (w.alloc (.cells #[] 37)) base ok (.slice (some ⟨w.heap.size, 0, none⟩) 0 0) [] :=
  ⟨fun k hk => by
    have : w.heap.size = k := by simpa [Value.ownBlock] using hk
    subst this; exact hok, [], ⟨rfl, .inr ⟨w.heap.size, 0, #[], rfl, hb, blk_new w _, Nat.le_refl _, by simp [maxLen], rfl, rfl⟩⟩, ⟨rfl, fun j p hj => by simp at hj⟩⟩
theorem erase_ent (L : List (Sr.Ent Int)) (m : Nat) : (L.map ent).take m ++ (L.map ent).drop (m + 1) = (L.eraseIdx m).map ent := by
  rw [← List.map_take, ← List.map_drop, ← List.map_append, List.eraseIdx_eq_take_drop_succ]
theorem list_new {w : World} {v : Value} {o : Obj} (h : v.ownBlock = (Value.slice (some ⟨w.heap.size, 0, none⟩) 0 0).ownBlock ∨ ∃ b, v.ownBlock = some b ∧ (w.alloc o).heap.size ≤ b) : ∀ k, v.ownBlock = some k → w.heap.size ≤ k := by
  intro k hk
  rcases h with h | ⟨b, h, hb⟩
  · rw [h] at hk; simp [Value.ownBlock] at hk; omega
  · rw [h] at hk; simp at hk hb; omega
theorem path_last {w : World} {A : Option Addr} {x : Sr.Ent Int} (h : (Kd.int .i64).C w A x.rp.reverse.length x.rp.reverse) : ∃ ad, A = some ad ∧ w.cell? (ad.add x.bk.length) = some (.int .i64 x.st) := by
  obtain ⟨ad, e, hc⟩ := Kd.at_int h (x.bk.length : Int) (by omega) (by simp [Sr.Ent.rp]; omega)
  refine ⟨ad, e, ?_⟩
  rw [Int.toNat_natCast] at hc
  rw [hc]
  show some (Value.int .i64 (rd (x.st :: x.bk).reverse (x.bk.length : Int))) = _
  have h0 : (0 : Int) ≤ (x.bk.length : Int) := by omega
  simp [rd]
theorem rb_set {W wr : World} {u0 u1 : Value} : Chg wr ((wr.setCell ⟨W.heap.size, 0, none⟩ u0).setCell ⟨W.heap.size, 1, none⟩ u1) (fun i => i = W.heap.size) :=
  (Chg.set wr ⟨W.heap.size, 0, none⟩ u0 (S := fun i => i = W.heap.size) rfl).trans (Chg.set _ ⟨W.heap.size, 1, none⟩ u1 (S := fun i => i = W.heap.size) rfl) (fun _ _ e => e)
theorem rb_x {W wr w' : World} {xb : Nat} {what : Int} {key : ByteArray} {ve : Value} {order : List Int} {cs : Array Value} (hx : XAt g wr W.heap.size xb what key ve order A0 c0 A1 c1 A2 c2) (hrb : wr.heap[W.heap.size]? = some (.cells cs 37 (0, 0))) (hxb : xb < W.heap.size) (hga : ∀ w', Chg W w' (fun i => i = xb) → GAt g w' A0 c0 A1 c1 A2 c2)
    (hc0 : Chg W wr (fun i => i = xb)) (hc : Chg wr w' (fun i => i = W.heap.size)) : Chg W w' (fun i => i = xb) ∧ XAt g w' W.heap.size xb what key ve order A0 c0 A1 c1 A2 c2 := by
  have h1 : Chg W w' (fun i => i = xb) := hc0.trans hc (fun i hi e => by omega)
  exact ⟨h1, hx.chg hc (by omega) (hx.ne hrb (by decide)) (hga _ h1)⟩
theorem rb_post {W wr : World} {xb : Nat} {what : Int} {key : ByteArray} {budget k : Nat} {out : Sr.Out Int} {order : List Int} {L : List (Sr.Ent Int)} {added : Nat} {ve vl : Value} (h : RI g W wr xb what key budget k out order L added ve vl A0 c0 A1 c1 A2 c2) (hxb : xb < W.heap.size)
    (hga : ∀ w', Chg W w' (fun i => i = xb) → GAt g w' A0 c0 A1 c1 A2 c2) (ho : out = .notFound order) {e : Ending} (he : e = .returned (.tuple #[.agg #[.slice none 0 0, .int .i64 0], .int .i64 4])) :
    RPost g W xb what key out A0 c0 A1 c1 A2 c2 e ((wr.setCell ⟨W.heap.size, 0, none⟩ (.slice none 0 0)).setCell ⟨W.heap.size, 1, none⟩ (.int .i64 0)) := by
  subst ho
  obtain ⟨h1, h2⟩ := rb_x h.x h.rb hxb hga h.chg (rb_set (u0 := .slice none 0 0) (u1 := .int .i64 0))
  exact ⟨h1, ve, undef, order, h2, rfl, he⟩
theorem rb_found {W wo w7 : World} {xb : Nat} {what : Int} {key : ByteArray} {budget k : Nat} {out : Sr.Out Int} {order : List Int} {L : List (Sr.Ent Int)} {added : Nat} {ve vl vp : Value} {x : Sr.Ent Int} {ok : Nat → Prop} (h : RI g W wo xb what key budget k out order L added ve vl A0 c0 A1 c1 A2 c2) (hB : Below wo.heap.size wo w7) (hxb : xb < W.heap.size)
    (hga : ∀ w', Chg W w' (fun i => i = xb) → GAt g w' A0 c0 A1 c1 A2 c2) (ho : out = .found x order) (hp : (Kd.int .i64).R 3 wo W.heap.size ok vp x.rp.reverse) (hok : ∀ k, ok k → k ≠ W.heap.size) {e : Ending} (he : e = .returned (.tuple #[.agg #[vp, .int .i64 x.cost], .int .i64 0])) :
    RPost g W xb what key out A0 c0 A1 c1 A2 c2 e ((w7.setCell ⟨W.heap.size, 0, none⟩ vp).setCell ⟨W.heap.size, 1, none⟩ (.int .i64 x.cost)) := by
  subst ho
  obtain ⟨h1, h2⟩ := rb_x (h.x.below hB) ((hB.block _ (blk_lt h.rb)).trans h.rb) hxb hga (h.chg.trans (Chg.of_below hB _) (fun _ _ e => e)) (rb_set (u0 := vp) (u1 := .int .i64 x.cost))
  exact ⟨h1, ve, vp, order, h2, rfl, he, Kd.R_mono (R_chg (Kd.R_below hp hB) rb_set (fun i hi _ e => hok i hi e)) (fun _ _ => trivial)⟩
theorem rb_bud {W wo w7 : World} {xb : Nat} {what : Int} {key : ByteArray} {budget k : Nat} {out : Sr.Out Int} {order : List Int} {L : List (Sr.Ent Int)} {added : Nat} {ve vl : Value} (h : RI g W wo xb what key budget k out order L added ve vl A0 c0 A1 c1 A2 c2) (hB : Below wo.heap.size wo w7) (hxb : xb < W.heap.size)
    (hga : ∀ w', Chg W w' (fun i => i = xb) → GAt g w' A0 c0 A1 c1 A2 c2) (ho : out = .budget order) {e : Ending} (he : e = .returned (.tuple #[.agg #[.slice none 0 0, .int .i64 0], .int .i64 7])) :
    RPost g W xb what key out A0 c0 A1 c1 A2 c2 e ((w7.setCell ⟨W.heap.size, 0, none⟩ (.slice none 0 0)).setCell ⟨W.heap.size, 1, none⟩ (.int .i64 0)) := by
  subst ho
  obtain ⟨h1, h2⟩ := rb_x (h.x.below hB) ((hB.block _ (blk_lt h.rb)).trans h.rb) hxb hga (h.chg.trans (Chg.of_below hB _) (fun _ _ e => e)) (rb_set (u0 := .slice none 0 0) (u1 := .int .i64 0))
  exact ⟨h1, ve, undef, order, h2, rfl, he⟩
/-- Expanded grows by one. -/
theorem x_app {W w8 w9 : World} {xb : Nat} {what s : Int} {key : ByteArray} {order : List Int} {ve v9 : Value} (hx : XAt g w8 W.heap.size xb what key ve order A0 c0 A1 c1 A2 c2) (hc : Chg W w8 (fun i => i = xb)) (hxb : xb < W.heap.size) (hga : ∀ w', Chg W w' (fun i => i = xb) → GAt g w' A0 c0 A1 c1 A2 c2) (hs : g.has s = true)
    (hR : (Kd.int .i64).R 3 w9 W.heap.size (fun _ => True) v9 (order ++ [s])) (hg : w8.grownBy w9 ve.ownBlock) :
    XAt g (w9.setCell ⟨xb, 5, none⟩ v9) W.heap.size xb what key v9 (order ++ [s]) A0 c0 A1 c1 A2 c2 ∧ Chg w8 (w9.setCell ⟨xb, 5, none⟩ v9) (fun i => i = xb ∨ ve.ownBlock = some i) ∧ Chg W (w9.setCell ⟨xb, 5, none⟩ v9) (fun i => i = xb) := by
  have h1 : Chg w8 (w9.setCell ⟨xb, 5, none⟩ v9) (fun i => i = xb ∨ ve.ownBlock = some i) := (Chg.of_grown hg (S := fun i => i = xb ∨ ve.ownBlock = some i) (fun k hk => .inr hk)).trans (Chg.set w9 ⟨xb, 5, none⟩ v9 (S := fun i => i = xb) rfl) (fun i _ e => .inl e)
  have h2 : Chg W (w9.setCell ⟨xb, 5, none⟩ v9) (fun i => i = xb) := hc.trans h1 (fun i hi e => by
    rcases e with e | e
    · exact e
    · rcases (Kd.own_of_R hx.row).2 with ⟨rfl, _⟩ | ⟨gb, cap, cur, rfl, hgb, _⟩
      · simp [Value.ownBlock] at e
      · have : gb = i := by simpa [Value.ownBlock] using e
        omega)
  have hb9 : w9.heap[xb]? = w8.heap[xb]? := hg.block xb (blk_lt hx.blk) (fun e => (hx.ne hx.blk (by decide)) xb e.symm rfl)
  have hblk := hb9.trans hx.blk
  refine ⟨⟨by simpa using blk_set hblk 5 v9, hga _ h2, Kd.R_of_own (own_move (Kd.own_of_R hR) (fun k hk => ?_)) (fun _ _ => trivial), ?_⟩, h1, h2⟩
  · exact Below.heap_setCell _ _ _ _ (fun e => own_ne (Kd.own_of_R hR) hblk (by decide) (by rw [hk]; exact congrArg some e.symm))
  · intro t ht
    rcases List.mem_append.1 ht with ht | ht
    · exact hx.dom t ht
    · obtain rfl : t = s := by simpa using ht
      exact hs
theorem order_le {order : List Int} (hl : g.large = false) (hd : ∀ s ∈ order, g.has s = true) (hn : Sr.KeysNe g.prob order) : order.length ≤ 12 := by
  have h1 := List.Nodup.length_le_of_subset hn.nodup (fun s h => mem_dom.2 (hd s h))
  have h2 := dom_len g hl
  omega
def SnRel (L : List (Sr.Ent Int)) (m : Nat) (W : World) (v9 v31 : Value) (wr : World) : Prop :=
  ∃ i k : Nat, i ≤ L.length ∧ k < L.length ∧ v31 = .int .i64 i ∧ v9 = .int .i64 k ∧ Sr.scan L (L.drop i) i k = m ∧ Below W.heap.size W wr
theorem heap_new (w : World) (o : Obj) (n : Nat) (e : n = w.heap.size) : (w.alloc o).heap[n]? = some o := by subst e; exact blk_new w o
theorem int_row {w : World} {base gb : Nat} {xs : List Int} {ok : Nat → Prop} (h : w.heap[gb]? = some (.cells (xs.map (Value.int .i64)).toArray 3 (0, 0))) (hb : base ≤ gb) (hok : ok gb) (hm : xs.length ≤ 9223372036854775807) : (Kd.int .i64).R 3 w base ok (.slice (some ⟨gb, 0, none⟩) xs.length xs.length) xs :=
  Kd.R_of_own (enc := Value.int .i64) ⟨by simp [encs], .inr ⟨gb, xs.length, (xs.map (Value.int .i64)).toArray, rfl, hb, h, Nat.le_refl _, by simpa [maxLen] using hm, by simp, by rw [Nat.mul_one]; exact List.take_of_length_le (by simp)⟩⟩ (fun k hk => by
    have : gb = k := by simpa [Value.ownBlock] using hk
    subst this; exact hok)
theorem R_carry {α : Type} {d : Kd α} {e base : Nat} {w8 w10 : World} {ok ok' S : Nat → Prop} {v : Value} {xs : List α} (h : d.R e w8 base ok v xs) (hc : Chg w8 w10 S) (hS : ∀ i, ok i → i < w8.heap.size → ¬ S i) (ho : ∀ i, ok i → i < w8.heap.size → ok' i) : d.R e w10 base ok' v xs :=
  Kd.R_mono (R_chg (Kd.R_bound h) hc (fun i hi hl => hS i hi.1 hl)) (fun k hk => ho k hk.1 hk.2.2.1)
theorem chg_cell {w' : World} {S : Nat → Prop} {p : Addr} {v : Value} (hc : Chg w w' S) (h : w.cell? p = some v) (hn : ¬ S p.block) : w'.cell? p = some v := by
  have hb := hc.block p.block (World.block_lt_of_cell? w _ h) hn
  unfold World.cell? at h ⊢
  rw [hb]
  exact h
/-- Blocks of the list. -/
def SX (xb rb base : Nat) (ve : Value) (at_ : Nat) (wx : World) (i : Nat) : Prop := OkQ xb rb ve at_ i ∧ base ≤ i ∧ ∃ cs, wx.heap[i]? = some (.cells cs 37 (0, 0))
theorem SX.of {xb rb base at_ : Nat} {ve vo : Value} {wx wr : World} {xs : List (List Int × Int)} (h : kent.R 37 wr base (OkQ xb rb ve at_) vo xs) (hc : Chg wx wr (SX xb rb base ve at_ wx)) {k : Nat} (hk : vo.ownBlock = some k) (hlt : k < wx.heap.size) : SX xb rb base ve at_ wx k := by
  obtain ⟨inner, ho⟩ := Kd.R_own h
  obtain ⟨cs, hcs⟩ := own_typed ho k hk
  have hb : base ≤ k := by
    rcases ho.2 with ⟨rfl, _⟩ | ⟨gb, cap, cur, rfl, hgb, _⟩
    · simp [Value.ownBlock] at hk
    · have : gb = k := by simpa [Value.ownBlock] using hk
      omega
  by_cases hs : SX xb rb base ve at_ wx k
  · exact hs
  · exact ⟨h.1 k hk, hb, cs, (hc.block k hlt hs).symm.trans hcs⟩
theorem ev_below {B : Nat} {w0 wc wn : World} {o : Obj} (h : Below B w0 wc) (hB : B ≤ wc.heap.size) (e : wc.alloc o = wn) : Below B w0 wn := by
  subst e; exact h.alloc hB o
theorem ev_R {α : Type} {d : Kd α} {e base : Nat} {wc wn : World} {o : Obj} {ok : Nat → Prop} {v : Value} {xs : List α} (h : d.R e wc base ok v xs) (he : wc.alloc o = wn) : d.R e wn base ok v xs := by
  subst he; exact Kd.R_below h ((Below.refl _ _).alloc (Nat.le_refl _) _)
theorem ev_e {base : Nat} {wc wn : World} (e : wc.alloc (.cells #[] 3) = wn) (hb : base ≤ wc.heap.size) : (Kd.int .i64).R 3 wn base (fun k => base ≤ k) (.slice (some ⟨wc.heap.size, 0, none⟩) 0 0) [] := by
  subst e; exact int_row (xs := []) (blk_new wc _) hb hb (by simp)
theorem ev_s {base : Nat} {wc wn : World} {s : Int} (e : wc.alloc (.cells #[.int .i64 s] 3) = wn) (hb : base ≤ wc.heap.size) : (Kd.int .i64).R 3 wn base (fun k => base ≤ k) (.slice (some ⟨wc.heap.size, 0, none⟩) 1 1) [s] := by
  subst e; exact int_row (xs := [s]) (blk_new wc _) hb hb (by simp)
def DJ (u v : Value) : Prop := ∀ k, u.ownBlock = some k → v.ownBlock ≠ some k
theorem dj_l {base n c : Nat} {wc : World} {ok : Nat → Prop} {v : Value} {xs : List Int} (h : (Kd.int .i64).R 3 wc base ok v xs) : DJ (.slice (some ⟨wc.heap.size, 0, none⟩) n c) v := by
  intro k hk e
  have := own_lt (Kd.own_of_R h) k e
  have : wc.heap.size = k := by simpa [Value.ownBlock] using hk
  omega
theorem dj_r {base n c : Nat} {wc : World} {ok : Nat → Prop} {v : Value} {xs : List Int} (h : (Kd.int .i64).R 3 wc base ok v xs) : DJ v (.slice (some ⟨wc.heap.size, 0, none⟩) n c) := by
  intro k hk e
  exact dj_l (n := n) (c := c) h k e hk
theorem dj_g {base : Nat} {wc : World} {ok : Nat → Prop} {u u' v : Value} {xs : List Int} (hd : DJ u v) (h : (Kd.int .i64).R 3 wc base ok v xs) (ha : u'.ownBlock = u.ownBlock ∨ ∃ b, u'.ownBlock = some b ∧ wc.heap.size ≤ b) : DJ u' v := by
  intro k hk e
  rcases ha with ha | ⟨b, ha, hb⟩
  · exact hd k (ha ▸ hk) e
  · have := own_lt (Kd.own_of_R h) k e
    rw [ha] at hk
    injection hk with hk
    omega
theorem R_gr {base : Nat} {wc w3 : World} {ok : Nat → Prop} {u v : Value} {xs : List Int} (h : (Kd.int .i64).R 3 wc base ok v xs) (hg : wc.grownBy w3 u.ownBlock) (hd : DJ u v) : (Kd.int .i64).R 3 w3 base ok v xs :=
  Kd.R_of_own (own_move (Kd.own_of_R h) (fun k hk => hg.block k (own_lt (Kd.own_of_R h) k hk) (fun e => hd k e.symm hk))) (fun k hk => h.1 k hk)
theorem s_row {e base n c : Nat} {w : World} {ok : Nat → Prop} {A : Option Addr} {xs : List Int} (h : (Kd.int .i64).R e w base ok (.slice A n c) xs) : ReadsRow (fun x cs => cs = [Value.int .i64 x]) 1 w A n xs := by
  obtain ⟨A', c', e1, _, hR⟩ := rr_own h
  injection e1 with e1 e2 _
  subst e1 e2
  exact hR
/-- The rounds over the steps of an expanded state. -/
def IR (xb rb : Nat) (ve : Value) (at_ : Nat) (x : Sr.Ent Int) (ps : List (Int × Int)) (n0 : Nat) (Lf : List (Sr.Ent Int)) (addf : Nat) (wx : World) (v8 v106 : Value) (wr : World) : Prop :=
  ∃ (j : Nat) (Lc : List (Sr.Ent Int)) (addc : Nat) (vo : Value), vo = v8 ∧ v106 = .int .i64 j ∧ j ≤ ps.length ∧ kent.R 37 wr rb (OkQ xb rb ve at_) vo (Lc.map ent) ∧ Lc ++ Sr.pushes x (ps.drop j) addc = Lf ∧ addc + (Sr.pushes x (ps.drop j) addc).length = addf ∧ Lc.length ≤ n0 + j ∧ Chg wx wr (SX xb rb rb ve at_ wx)
theorem pushes_skip (x : Sr.Ent Int) (y : Int × Int) (r : List (Int × Int)) (n : Nat) (h : y.2 < 0 ∨ y.2 > 1099511627776 - x.cost) : Sr.pushes x (y :: r) n = Sr.pushes x r n := by
  conv => lhs; unfold Sr.pushes
  rw [if_pos (by simpa [Sr.maxCount] using h)]
theorem pushes_take (x : Sr.Ent Int) (y : Int × Int) (r : List (Int × Int)) (n : Nat) (h : ¬ (y.2 < 0 ∨ y.2 > 1099511627776 - x.cost)) : Sr.pushes x (y :: r) n = ⟨y.1, x.st :: x.bk, x.cost + y.2, n⟩ :: Sr.pushes x r (n + 1) := by
  conv => lhs; unfold Sr.pushes
  rw [if_neg (by simpa [Sr.maxCount] using h)]
theorem IR.skip {xb rb at_ j n0 addf addc : Nat} {ve vo : Value} {x : Sr.Ent Int} {ps : List (Int × Int)} {Lf Lc : List (Sr.Ent Int)} {wx wr w' : World} (hj : j < ps.length) (hs : ps[j].2 < 0 ∨ ps[j].2 > 1099511627776 - x.cost)
    (hR : kent.R 37 wr rb (OkQ xb rb ve at_) vo (Lc.map ent)) (hL : Lc ++ Sr.pushes x (ps.drop j) addc = Lf) (ha : addc + (Sr.pushes x (ps.drop j) addc).length = addf) (hl : Lc.length ≤ n0 + j) (hc : Chg wx wr (SX xb rb rb ve at_ wx)) (hb : Below wr.heap.size wr w') :
    IR xb rb ve at_ x ps n0 Lf addf wx vo (.int .i64 ((j : Int) + 1)) w' := by
  rw [List.drop_eq_getElem_cons hj, pushes_skip x _ _ _ hs] at hL ha
  exact ⟨j + 1, Lc, addc, vo, rfl, by simp, hj, Kd.R_below hR hb, hL, ha, by omega, hc.trans (Chg.of_below hb (fun _ => False)) (fun _ _ hi => hi.elim)⟩
theorem IR.take {xb rb at_ j n0 addf addc : Nat} {ve vo v8 : Value} {x : Sr.Ent Int} {ps : List (Int × Int)} {Lf Lc : List (Sr.Ent Int)} {wx wr wc w' : World} (hj : j < ps.length) (hs : ¬ (ps[j].2 < 0 ∨ ps[j].2 > 1099511627776 - x.cost))
    (hR : kent.R 37 wr rb (OkQ xb rb ve at_) vo (Lc.map ent)) (hL : Lc ++ Sr.pushes x (ps.drop j) addc = Lf) (ha : addc + (Sr.pushes x (ps.drop j) addc).length = addf) (hl : Lc.length ≤ n0 + j) (hc : Chg wx wr (SX xb rb rb ve at_ wx)) (hb : Below wr.heap.size wr wc) (hg : wc.grownBy w' vo.ownBlock)
    (hR8 : kent.R 37 w' rb (OkQ xb rb ve at_) v8 (Lc.map ent ++ [(x.rp.reverse ++ [ps[j].1], x.cost + ps[j].2)])) :
    IR xb rb ve at_ x ps n0 Lf addf wx v8 (.int .i64 ((j : Int) + 1)) w' := by
  rw [List.drop_eq_getElem_cons hj, pushes_take x _ _ _ hs] at hL ha
  refine ⟨j + 1, Lc ++ [⟨ps[j].1, x.st :: x.bk, x.cost + ps[j].2, addc⟩], addc + 1, v8, rfl, by simp, hj, ?_, by rw [← hL]; simp, by rw [← ha]; simp; omega, by simp; omega, ?_⟩
  · rw [List.map_append]
    have e : [(x.rp.reverse ++ [ps[j].1], x.cost + ps[j].2)] = List.map ent [⟨ps[j].1, x.st :: x.bk, x.cost + ps[j].2, addc⟩] := by simp [ent, Sr.Ent.rp]
    rw [← e]
    exact hR8
  · refine hc.trans ((Chg.of_below hb (fun k => vo.ownBlock = some k)).trans (Chg.of_grown hg (S := fun k => vo.ownBlock = some k) (fun _ hk => hk)) (fun _ _ hk => hk)) (fun i hi hk => SX.of hR hc hk hi)
theorem cell_SX {xb rb base at_ t : Nat} {ve v : Value} {wx wr : World} {p : Addr} {cs : Array Value} (hc : Chg wx wr (SX xb rb base ve at_ wx)) (h : wx.cell? p = some v) (hb : wx.heap[p.block]? = some (.cells cs t (0, 0))) (ht : t ≠ 37) : wr.cell? p = some v := by
  refine chg_cell hc h (fun hs => ?_)
  obtain ⟨_, _, cs', hb'⟩ := hs
  rw [hb] at hb'
  injection hb' with hb'
  injection hb' with _ e
  exact ht e
theorem add_block (a : Addr) (n : Nat) : (a.add n).block = a.block := by cases a; simp only [Addr.add]; split <;> rfl
theorem wrap_num {n : Int} (h0 : -9223372036854775808 ≤ n) (h1 : n ≤ 9223372036854775807) : wrap64 n = n := by unfold wrap64; omega
theorem meas (n j : Nat) (h : j < n) : n - ((j : Int) + 1).toNat < n - j := by omega
theorem gcell {w w' : World} {r : Option Nat} {p : Addr} {v : Value} (hg : w.grownBy w' r) (h : w.cell? p = some v) (hn : r ≠ some p.block) : w'.cell? p = some v :=
  chg_cell (Chg.of_grown hg (S := fun i => r = some i) (fun _ h => h)) h hn
theorem pushes_mem (x : Sr.Ent Int) : ∀ (r : List (Int × Int)) (n : Nat) (e : Sr.Ent Int), e ∈ Sr.pushes x r n → ∃ y ∈ r, e.st = y.1 ∧ e.bk = x.st :: x.bk ∧ e.cost = x.cost + y.2 ∧ 0 ≤ y.2 ∧ y.2 ≤ 1099511627776 - x.cost := by
  intro r
  induction r with
  | nil => intro n e he; simp [Sr.pushes] at he
  | cons y r ih =>
    intro n e he
    by_cases h : y.2 < 0 ∨ y.2 > 1099511627776 - x.cost
    · rw [pushes_skip x y r n h] at he
      obtain ⟨z, hz, r⟩ := ih n e he
      exact ⟨z, by simp [hz], r⟩
    · rw [pushes_take x y r n h] at he
      rcases List.mem_cons.1 he with rfl | he
      · exact ⟨y, by simp, rfl, rfl, rfl, by omega, by omega⟩
      · obtain ⟨z, hz, r⟩ := ih (n + 1) e he
        exact ⟨z, by simp [hz], r⟩
theorem pushes_len (x : Sr.Ent Int) : ∀ (r : List (Int × Int)) (n : Nat), (Sr.pushes x r n).length ≤ r.length := by
  intro r
  induction r with
  | nil => intro n; simp [Sr.pushes]
  | cons y r ih =>
    intro n
    unfold Sr.pushes
    split
    · have := ih n; simp; omega
    · have := ih (n + 1); simp; omega
theorem RI.grow {W wo wx wr : World} {xb at_ : Nat} {what : Int} {key : ByteArray} {budget k added addf : Nat} {out : Sr.Out Int} {order : List Int} {L Lf : List (Sr.Ent Int)} {ve vl v9 vo : Value} {x : Sr.Ent Int} (h : RI g W wo xb what key budget (k + 1) out order L added ve vl A0 c0 A1 c1 A2 c2)
    (hl : g.large = false) (hga : ∀ w', Chg W w' (fun i => i = xb) → GAt g w' A0 c0 A1 c1 A2 c2) (hok : g.has x.st = true ∧ 0 ≤ x.cost ∧ x.cost ≤ 1099511627776 ∧ x.bk.length ≤ order.length)
    (hw : (order.any fun s => g.key s == g.key x.st) = false) (hrun : Sr.run g.prob (goalOf g what key) budget k (L.eraseIdx (Sr.minIdx L) ++ Sr.pushes x (g.prob.next x.st) added) (order ++ [x.st]) (added + (Sr.pushes x (g.prob.next x.st) added).length) = some out)
    (hXx : XAt g wx W.heap.size xb what key v9 (order ++ [x.st]) A0 c0 A1 c1 A2 c2) (hCW : Chg W wx (fun i => i = xb)) (hrb : wx.heap[W.heap.size]? = some (.cells #[.slice none 0 0, .int .i64 0] 37 (0, 0)))
    (hLf : Lf = L.eraseIdx (Sr.minIdx L) ++ Sr.pushes x (steps (g.next x.st)) added) (haf : addf = added + (Sr.pushes x (steps (g.next x.st)) added).length)
    (hc : Chg wx wr (SX xb W.heap.size W.heap.size v9 at_ wx)) (hR : kent.R 37 wr W.heap.size (OkQ xb W.heap.size v9 at_) vo (Lf.map ent)) :
    RI g W wr xb what key budget k out (order ++ [x.st]) Lf addf v9 vo A0 c0 A1 c1 A2 c2 := by
  have hcw : Chg W wr (fun i => i = xb) := hCW.trans hc (fun i hi hs => by have := hs.2.1; omega)
  refine ⟨hcw, hXx.chg hc (fun hs => hs.1.1.1 rfl) (fun k hk hs => hs.1.1.2.2 hk.symm) (hga _ hcw), Kd.R_mono hR (fun _ hk => hk.1), (hc.block _ (blk_lt hrb) (fun hs => hs.1.1.2.1 rfl)).trans hrb, ?_, ?_, h.ne.snoc hw, by rw [hLf, haf]; exact hrun⟩
  · intro e he
    rw [hLf] at he
    rcases List.mem_append.1 he with he | he
    · have := h.ok e (List.mem_of_mem_eraseIdx he)
      exact ⟨this.1, this.2.1, this.2.2.1, by have := this.2.2.2; simp; omega⟩
    · obtain ⟨y, hy, e1, e2, e3, e4, e5⟩ := pushes_mem x _ _ e he
      unfold steps at hy
      obtain ⟨z, hz, rfl⟩ := List.mem_map.1 hy
      simp only at e1 e3 e4 e5
      refine ⟨by rw [e1]; exact next_has hz, by omega, by omega, by rw [e2]; simp; omega⟩
  · have h1 := List.length_eraseIdx_le L (Sr.minIdx L)
    have h2 := pushes_len x (steps (g.next x.st)) added
    have h3 := next_len g hl x.st
    have h4 := h.few
    have h5 : (steps (g.next x.st)).length = (g.next x.st).length := by simp [steps]
    rw [hLf, List.length_append, List.length_append, List.length_singleton]
    omega
theorem start_ri {W : World} {xb : Nat} {what : Int} {key : ByteArray} {start : Int} {budget k : Nat} {out : Sr.Out Int}
    (hx : XAt g W W.heap.size xb what key (.slice none 0 0) [] A0 c0 A1 c1 A2 c2) (hs : g.has start = true) (hrun : Sr.run g.prob (goalOf g what key) budget k [⟨start, [], 0, 0⟩] [] 1 = some out) (hxb : xb < W.heap.size) :
    RI g W (((W.alloc (.cells #[.slice none 0 0, .int .i64 0] 37)).alloc (.cells #[.int .i64 start] 3)).alloc (.cells #[.slice (some ⟨W.heap.size + 1, 0, none⟩) 1 1, .int .i64 0] 37)) xb what key budget k out [] [⟨start, [], 0, 0⟩] 1 (.slice none 0 0) (.slice (some ⟨W.heap.size + 1 + 1, 0, none⟩) 1 1) A0 c0 A1 c1 A2 c2 := by
  have b1 : Below W.heap.size W (W.alloc (.cells #[.slice none 0 0, .int .i64 0] 37)) := (Below.refl _ _).alloc (Nat.le_refl _) _
  have b2 := b1.alloc (by simp) (.cells #[.int .i64 start] 3)
  have b3 := b2.alloc (by simp; omega) (.cells #[.slice (some ⟨W.heap.size + 1, 0, none⟩) 1 1, .int .i64 0] 37)
  have hrow : (Kd.int .i64).R 3 (((W.alloc (.cells #[.slice none 0 0, .int .i64 0] 37)).alloc (.cells #[.int .i64 start] 3)).alloc (.cells #[.slice (some ⟨W.heap.size + 1, 0, none⟩) 1 1, .int .i64 0] 37)) W.heap.size (fun k => OkL xb W.heap.size (.slice none 0 0) k ∧ some k ≠ (Value.slice (some ⟨W.heap.size + 1 + 1, 0, none⟩) 1 1).ownBlock) (.slice (some ⟨W.heap.size + 1, 0, none⟩) 1 1) [start] := by
    refine int_row (xs := [start]) ?_ (by omega) ⟨⟨by omega, by omega, by simp [Value.ownBlock]⟩, by simp [Value.ownBlock]⟩ (by simp)
    rw [Below.heap_alloc _ _ _ (by simp)]
    exact heap_new _ _ _ (by simp)
  refine ⟨Chg.of_below b3 _, hx.below b3, ⟨fun k hk => ?_, [.slice (some ⟨W.heap.size + 1, 0, none⟩) 1 1, .int .i64 0], ?_, ?_⟩, ?_, ?_, by simp, List.Pairwise.nil, hrun⟩
  · have : W.heap.size + 1 + 1 = k := by simpa [Value.ownBlock] using hk
    subst this
    exact ⟨by omega, by omega, by simp [Value.ownBlock]⟩
  · exact ⟨rfl, .inr ⟨W.heap.size + 1 + 1, 1, #[.slice (some ⟨W.heap.size + 1, 0, none⟩) 1 1, .int .i64 0], rfl, by omega, heap_new _ _ _ (by simp), Nat.le_refl _, by simp [maxLen], rfl, rfl⟩⟩
  · refine ⟨rfl, fun j p hj => ?_⟩
    cases j with
    | zero =>
      obtain rfl : ent ⟨start, [], 0, 0⟩ = p := by simpa using hj
      exact ⟨[.slice (some ⟨W.heap.size + 1, 0, none⟩) 1 1], [.int .i64 0], rfl, ⟨_, rfl, hrow⟩, rfl⟩
    | succ j => simp at hj
  · rw [Below.heap_alloc _ _ _ (by simp; omega), Below.heap_alloc _ _ _ (by simp)]
    exact blk_new W _
  · intro e he
    obtain rfl : e = ⟨start, [], 0, 0⟩ := by simpa using he
    exact ⟨hs, by simp, by simp, by simp⟩
set_option maxRecDepth 1000000 in
set_option maxHeartbeats 8000000 in
theorem run_any {W : World} {xb : Nat} {what : Int} {key : ByteArray} {start : Int} {budget k : Nat} {out : Sr.Out Int} (hl : g.large = false) (hga : ∀ w', Chg W w' (fun i => i = xb) → GAt g w' A0 c0 A1 c1 A2 c2)
    (hx : XAt g W W.heap.size xb what key (.slice none 0 0) [] A0 c0 A1 c1 A2 c2) (hs : g.has start = true) (hb1 : 1 ≤ budget) (hb2 : budget ≤ 1048576)
    (hrun : Sr.run g.prob (goalOf g what key) budget k [⟨start, [], 0, 0⟩] [] 1 = some out) :
    Calls Try.prog 15 #[.pointer (some ⟨xb, 0, none⟩), .int .i64 start, .int .i64 (budget : Int)] W (RPost g W xb what key out A0 c0 A1 c1 A2 c2) := by
  have HX := Lib.hid hx
  have HL := Lib.hid hl
  have HGA := Lib.hid hga
  have HXB := Lib.hid (show xb < W.heap.size from blk_lt hx.blk)
  have HI := Lib.hid (show RRel g W xb what key budget out A0 c0 A1 c1 A2 c2 k (.slice (some ⟨W.heap.size + 1 + 1, 0, none⟩) 1 1) _ from ⟨[], _, 1, _, _, rfl, start_ri hx hs hrun HXB.out⟩)
  have d1 : decide ((budget : Int) < 1) = false := decide_eq_false (by omega)
  have d2 : decide (1048576 < (budget : Int)) = false := decide_eq_false (by omega)
  clear hx hga hrun hs hl
  go_enter Try.func15, Try.ntmps15
  go_wp2
  go_loopg [8] k (fun kq v8 wr => RRel g W xb what key budget out A0 c0 A1 c1 A2 c2 kq v8 wr)
  case atStart => exact HI.out
  case round =>
    clear HI
    obtain ⟨order, L, added, ve, vl, rfl, hI⟩ := hrel
    obtain ⟨A, c, hvl, hcl, hent⟩ := ent_at hI.l
    have HI := Lib.hid hI
    have HENT := Lib.hid hent
    have HVL := Lib.hid hvl
    have ho12 := order_le HL.out hI.x.dom hI.ne
    have hlf := hI.few
    clear hI hent
    subst hvl
    cases gk with
    | zero => exact absurd HI.out.run (by simp [Sr.run])
    | succ k1 =>
    by_cases hz : L.length = 0
    · have HOUT := Lib.hid (show out = .notFound order by
        have h := HI.out.run
        have e : L = [] := List.eq_nil_of_length_eq_zero hz
        subst e
        simpa [Sr.run, eq_comm] using h)
      have q0 : wr.cell? ⟨W.heap.size, 0, none⟩ = some (.slice none 0 0) := by simpa using blk_cell HI.out.rb 0
      have f0 := blk_frozen HI.out.rb 0
      have q1 : wr.cell? ⟨W.heap.size, 1, none⟩ = some (.int .i64 0) := by simpa using blk_cell HI.out.rb 1
      have f1 := blk_frozen HI.out.rb 1
      have hz2 : (L.length : Int) = 0 := by omega
      go_wp2
      have hblk : ((wr.setCell ⟨W.heap.size, 0, none⟩ (.slice none 0 0)).setCell ⟨W.heap.size, 1, none⟩ (.int .i64 0)).heap[W.heap.size]? = some (.cells #[.slice none 0 0, .int .i64 0] 37 (0, 0)) := by
        simpa using blk_set (blk_set HI.out.rb 0 (.slice none 0 0)) 1 (.int .i64 0)
      refine bodyPost_ret (results_ct rfl _ _ W.heap.size 37 #[.slice none 0 0, .int .i64 0] (0, 0) _ rfl hblk Try.underlying37 rfl (by kernel_rfl)) rfl ?_
      exact rb_post HI.out HXB.out HGA.out HOUT.out rfl
    · have hmlt := (Sr.minIdx_spec L (by rintro rfl; exact hz rfl)).1
      have HM := Lib.hid hmlt
      have HIS := Lib.hid (show SnRel L (Sr.minIdx L) wr (.int .i64 0) (.int .i64 0) wr from ⟨0, 0, Nat.zero_le _, by omega, rfl, rfl, by rw [List.drop_zero]; rfl, Below.refl _ _⟩)
      have hcm : (L.length : Int) ≤ 1000000 := by omega
      clear hmlt
      go_wp2
      obtain ⟨wo, hwo⟩ : ∃ wo : World, wo = wr := ⟨_, rfl⟩
      rw [← hwo] at HIS HI HENT ⊢
      clear hwo
      go_loopw [9, 31] (fun v9 v31 wr => SnRel L (Sr.minIdx L) wo v9 v31 wr) (fun _ v31 _ => L.length - (intOf v31).toNat)
      case atStart => exact HIS.out
      case round =>
        clear HIS
        obtain ⟨i, kk, hi, hkk, rfl, rfl, hsc, hB⟩ := hrel
        have HSC := Lib.hid hsc
        have HBr := Lib.hid hB
        clear hsc hB
        by_cases hlt : i < L.length
        · obtain ⟨ad, vp1, hA, e0, e1, _⟩ := HENT.out i hlt
          obtain ⟨ad', vp2, hA', e2, e3, _⟩ := HENT.out kk hkk
          rw [hA] at hA'
          injection hA' with hA'
          subst hA'
          subst hA
          replace e1 := (HBr.out.cell (World.block_lt_of_cell? wo _ e1)).trans e1
          replace e3 := (HBr.out.cell (World.block_lt_of_cell? wo _ e3)).trans e3
          have HSC2 : Hid (Sr.scan L (L.drop (i + 1)) (i + 1) (if L[i].cost < L[kk].cost then i else kk) = Sr.minIdx L) := by
            have h := HSC.out
            rw [List.drop_eq_getElem_cons hlt, Sr.scan] at h
            simp only [List.getElem?_eq_getElem hkk, Option.map_some, Option.getD_some] at h
            exact Lib.hid h
          obtain ⟨ci, hci⟩ : ∃ ci, L[i].cost = ci := ⟨_, rfl⟩
          obtain ⟨ck, hck⟩ : ∃ ck, L[kk].cost = ck := ⟨_, rfl⟩
          rw [hci] at e1 HSC2
          rw [hck] at e3 HSC2
          clear hci hck e0 e2 HSC
          have hi0 : 0 ≤ (i : Int) := by omega
          have hi1 : (i : Int) < (L.length : Int) := by omega
          have hk0 : 0 ≤ (kk : Int) := by omega
          have hk1 : (kk : Int) < (L.length : Int) := by omega
          by_cases hcc : ci < ck
          · have g1 : decide (ci < ck) = true := decide_eq_true hcc
            rw [if_pos hcc] at HSC2
            clear hcc
            go_wp2
            go_quiet (fail)
            go_wp2
            go_roundw
            case rel => exact ⟨i + 1, i, by omega, hlt, by go_num, rfl, HSC2.out, pw_below_drewN HBr.out _⟩
            case measure => simp [intOf]; omega
          · have g1 : decide (ci < ck) = false := decide_eq_false hcc
            rw [if_neg hcc] at HSC2
            clear hcc
            go_wp2
            go_quiet (fail)
            go_wp2
            go_roundw
            case rel => exact ⟨i + 1, kk, by omega, hkk, by go_num, rfl, HSC2.out, pw_below_drewN HBr.out _⟩
            case measure => simp [intOf]; omega
        · have hkm : kk = Sr.minIdx L := by
            have h := HSC.out
            rw [List.drop_eq_nil_of_le (by omega)] at h
            exact h
          clear HSC
          obtain ⟨ad, vp, hA, e0, e1, hp⟩ := HENT.out kk hkk
          subst hA
          obtain ⟨Ap, cp, hvp, hlp, hCp⟩ := Kd.R_reads hp
          subst hvp
          have HX := Lib.hid (show L[Sr.minIdx L]? = some L[kk] by rw [← hkm]; exact List.getElem?_eq_getElem hkk)
          have HOK := Lib.hid (HI.out.ok L[kk] (List.getElem_mem hkk))
          obtain ⟨x, hx⟩ : ∃ x, L[kk] = x := ⟨_, rfl⟩
          rw [hx] at e0 e1 hp hlp hCp HX HOK
          replace e0 := (HBr.out.cell (World.block_lt_of_cell? wo _ e0)).trans e0
          replace e1 := (HBr.out.cell (World.block_lt_of_cell? wo _ e1)).trans e1
          have HP := Lib.hid hp
          obtain ⟨pd, hAp, hpc⟩ := path_last hCp
          subst hAp
          have HPC := Lib.hid hpc
          clear hpc
          have HKM := Lib.hid hkm
          have hpl : x.rp.reverse.length = x.bk.length + 1 := by simp [Sr.Ent.rp]
          have hob := HOK.out.2.2.2
          rw [hpl] at e0 hlp
          have hi0 : 0 ≤ (kk : Int) := by omega
          have hi1 : (kk : Int) < (L.length : Int) := by omega
          clear hp hCp hx hkm
          go_wp2
          generalize hwa : wr.alloc (.cells #[.slice (some pd) (x.bk.length + 1) cp, .int .i64 x.cost] 37) = wa
          have HBA := Lib.hid (show Below wr.heap.size wr wa from hwa ▸ (Below.refl _ _).alloc (Nat.le_refl _) _)
          have HAB := Lib.hid (show wa.heap[wr.heap.size]? = some (.cells #[.slice (some pd) (x.bk.length + 1) cp, .int .i64 x.cost] 37 (0, 0)) from hwa ▸ blk_new wr _)
          obtain ⟨atb, hatb⟩ : ∃ atb, wr.heap.size = atb := ⟨_, rfl⟩
          clear hwa
          have hkm1 : kk ≤ L.length := by omega
          have hcutT := cut_list_to ad L.length c kk (by omega) hcl
          have hcutF := cut_list_from ad L.length c kk (by omega) (by omega)
          have HBD := Lib.hid (show Below wo.heap.size wo wa.drew from pw_below_drewN (below_then HBr.out HBr.out.size HBA.out) 1)
          have HAB2 := Lib.hid (show wa.drew.heap[atb]? = some (.cells #[.slice (some pd) (x.bk.length + 1) cp, .int .i64 x.cost] 37 (0, 0)) from hatb ▸ HAB.out)
          have HATB := Lib.hid (show wo.heap.size ≤ atb from hatb ▸ HBr.out.size)
          have HRD := Lib.hid (show kent.R 37 wa.drew W.heap.size (OkQ xb W.heap.size ve atb) (.slice (some ad) L.length c) (L.map ent) from Kd.R_below (Kd.R_mono (Kd.R_bound HI.out.l) (fun k hk => ⟨hk.1, by have := hk.2.2.1; have := HATB.out; omega⟩)) HBD.out)
          have HOKN := Lib.hid (show ∀ k, wo.heap.size ≤ k → OkL xb W.heap.size ve k from fun k hk => okl_fresh HI.out.x HXB.out (blk_lt HI.out.rb) hk)
          have HWo := Lib.hid (show W.heap.size ≤ wo.heap.size from HI.out.chg.size)
          clear HAB HBA
          obtain ⟨A5, hA5⟩ : ∃ A5, (if c = kk + 1 then some ad else some (ad.add ((kk + 1) * 2))) = A5 := ⟨_, rfl⟩
          have hPD := part_drop HRD.out (m := kk + 1) hkk hcl
          rw [hA5] at hcutF hPD
          clear hA5
          have HPD := Lib.hid hPD
          clear hPD
          refine start_ (n := 11) (S := fun w' => True) (ds := [0, 4, 9]) #[false, false, false, false, false, false, false, false, false, false, false] (by kernel_rfl) rfl rfl trivial (fun hHeld => ?_)
          have hw2 : wo.heap.size ≤ wa.drew.heap.size := HBD.out.size
          generalize wa.drew = w2 at HRD HBD HAB2 HPD hHeld hw2 ⊢
          have hWo := HWo.out
          have hatw := blk_lt HAB2.out
          refine pure_ (i := 1) (N := (some 52)) (v := ?_) (a' := ?_) #[false, true, false, false, false, false, false, false, false, false, false] rfl rfl (by kernel_rfl) (fun _ _ _ h => h) (Or.inl ⟨by rfl, ?_⟩) ?_ ?_
          rotate_left
          · intro w'
            go_simp
            with_reducible rfl
          rotate_left
          · simp only [Act.put, List.setIfInBounds_toArray, List.set_cons_zero, List.set_cons_succ]
            rfl
          refine pure_ (i := 2) (N := (some 53)) (v := ?_) (a' := ?_) #[false, true, true, false, false, false, false, false, false, false, false] rfl rfl (by kernel_rfl) (fun _ _ _ h => h) (Or.inl ⟨by rfl, ?_⟩) ?_ ?_
          rotate_left
          · intro w'
            go_simp
            with_reducible rfl
          rotate_left
          · simp only [Act.put, List.setIfInBounds_toArray, List.set_cons_zero, List.set_cons_succ]
            rfl
          refine pure_ (i := 3) (N := (some 54)) (v := ?_) (a' := ?_) #[false, true, true, true, false, false, false, false, false, false, false] rfl rfl (by kernel_rfl) (fun _ _ _ h => h) (Or.inl ⟨by rfl, ?_⟩) ?_ ?_
          rotate_left
          · intro w'
            go_simp
            with_reducible rfl
          rotate_left
          · simp only [Act.put, List.setIfInBounds_toArray, List.set_cons_zero, List.set_cons_succ]
            rfl
          refine pure_ (i := 5) (N := (some 56)) (v := ?_) (a' := ?_) #[false, true, true, true, false, true, false, false, false, false, false] rfl rfl (by kernel_rfl) (fun _ _ _ h => h) (Or.inl ⟨by rfl, ?_⟩) ?_ ?_
          rotate_left
          · intro w'
            go_simp
            with_reducible rfl
          rotate_left
          · simp only [Act.put, List.setIfInBounds_toArray, List.set_cons_zero, List.set_cons_succ]
            rfl
          refine pure_ (i := 6) (N := (some 57)) (v := ?_) (a' := ?_) #[false, true, true, true, false, true, true, false, false, false, false] rfl rfl (by kernel_rfl) (fun _ _ _ h => h) (Or.inl ⟨by rfl, ?_⟩) ?_ ?_
          rotate_left
          · intro w'
            go_simp
            with_reducible rfl
          rotate_left
          · simp only [Act.put, List.setIfInBounds_toArray, List.set_cons_zero, List.set_cons_succ]
            rfl
          refine pure_ (i := 7) (N := (some 58)) (v := ?_) (a' := ?_) #[false, true, true, true, false, true, true, true, false, false, false] rfl rfl (by kernel_rfl) (fun _ _ _ h => h) (Or.inl ⟨by rfl, ?_⟩) ?_ ?_
          rotate_left
          · intro w'
            go_simp
            with_reducible rfl
          rotate_left
          · simp only [Act.put, List.setIfInBounds_toArray, List.set_cons_zero, List.set_cons_succ]
            rfl
          refine pure_ (i := 8) (N := (some 59)) (v := ?_) (a' := ?_) #[false, true, true, true, false, true, true, true, true, false, false] rfl rfl (by kernel_rfl) (fun _ _ _ h => h) (Or.inl ⟨by rfl, ?_⟩) ?_ ?_
          rotate_left
          · intro w'
            go_simp
            with_reducible rfl
          rotate_left
          · simp only [Act.put, List.setIfInBounds_toArray, List.set_cons_zero, List.set_cons_succ]
            rfl
          refine last_ (i := 0) (N := (some 51)) #[true, true, true, true, false, true, true, true, true, false, false] rfl rfl (by kernel_rfl) (by decide) (fun K hK => ?_)
          go_simp
          refine hK.out _ _ ?_
          clear hK K
          (try simp only [Act.put, List.setIfInBounds_toArray, List.set_cons_zero, List.set_cons_succ])
          refine last_ (i := 4) (N := (some 55)) #[true, true, true, true, true, true, true, true, true, false, false] rfl rfl (by kernel_rfl) (by decide) (fun K hK => ?_)
          refine Kd.R_append_rows_step kent (Rr := kent.M w2 W.heap.size (OkP (OkQ xb W.heap.size ve atb) (.slice (some ad) L.length c) W.heap.size w2.heap.size)) (w0 := w2) W.heap.size rfl (.tmp 51) (.tmp 54) 63 37 _ 32 rfl Try.underlying63 info37 rfl (by decide) (by decide) (.slice (some ⟨w2.heap.size, 0, none⟩) 0 0) [] ((L.map ent).take kk) (some ad) kk c (OkQ xb W.heap.size ve atb) (OkP (OkQ xb W.heap.size ve atb) (.slice (some ad) L.length c) W.heap.size w2.heap.size) rfl rfl (empty_list (by omega) (⟨HOKN.out _ (by omega), by omega⟩)) (rr_below (part_take HRD.out hkm1) ((Below.refl _ _).alloc (Nat.le_refl _) _)) (fun x cs h => Kd.M_below h ((Below.refl _ _).alloc (Nat.le_refl _) _)) (fun k hk => ⟨hk.1.1, fun e => by have := hk.2.2; simp [Value.ownBlock] at e; omega⟩) (fun k hk => ⟨HOKN.out k (by simp at hk; omega), by simp at hk; omega⟩) ((Below.refl _ _).alloc (by omega) _) (by simp; omega) (by simp; omega) ?_
          intro v3 w3 hR3 hB3 hG3 hA3
          have HR3 := Lib.hid hR3
          have HB3 := Lib.hid (((Below.refl w2.heap.size w2).alloc (Nat.le_refl _) (.cells #[] 37)).grown hG3 (by simp) (by intro k hk; simp [Value.ownBlock] at hk; omega))
          have HN3 := Lib.hid (list_new hA3)
          clear hR3 hB3 hG3 hA3
          refine hK.out _ _ ?_
          clear hK K
          (try simp only [Act.put, List.setIfInBounds_toArray, List.set_cons_zero, List.set_cons_succ])
          refine last_ (i := 9) (N := (some 60)) #[true, true, true, true, true, true, true, true, true, true, false] rfl rfl (by kernel_rfl) (by decide) (fun K hK => ?_)
          have h3w := HB3.out.size
          refine Kd.R_append_rows_step kent (Rr := kent.M w2 W.heap.size (OkP (OkQ xb W.heap.size ve atb) (.slice (some ad) L.length c) W.heap.size w2.heap.size)) (w0 := w2) W.heap.size rfl (.tmp 55) (.tmp 59) 63 37 _ 32 rfl Try.underlying63 info37 rfl (by decide) (by decide) v3 ((L.map ent).take kk) ((L.map ent).drop (kk + 1)) _ (L.length - (kk + 1)) (c - (kk + 1)) (OkQ xb W.heap.size ve atb) (OkP (OkQ xb W.heap.size ve atb) (.slice (some ad) L.length c) W.heap.size w2.heap.size) rfl rfl HR3.out (rr_below HPD.out HB3.out) (fun x cs h => Kd.M_below h HB3.out) (fun k hk => ⟨hk.1.1, fun e => by have := hk.2.2; have := HN3.out k e.symm; omega⟩) (fun k hk => ⟨HOKN.out k (by omega), by omega⟩) (HB3.out.mono (by omega)) (by omega) (by simp; omega) ?_
          intro v4 w4 hR4 hB4 hG4 hA4
          rw [erase_ent] at hR4
          have HR4 := Lib.hid hR4
          have HB4 := Lib.hid (HB3.out.grown hG4 HB3.out.size HN3.out)
          clear hR4 hB4 hG4 hA4 h3w
          refine hK.out _ _ ?_
          clear hK K
          (try simp only [Act.put, List.setIfInBounds_toArray, List.set_cons_zero, List.set_cons_succ])
          refine pure_ (i := 10) (N := (some 8)) (v := ?_) (a' := ?_) #[true, true, true, true, true, true, true, true, true, true, true] rfl rfl (by kernel_rfl) (fun _ _ _ h => h) (Or.inl ⟨by rfl, ?_⟩) ?_ ?_
          rotate_left
          · intro w'
            go_simp
            with_reducible rfl
          rotate_left
          · simp only [Act.put, List.setIfInBounds_toArray, List.set_cons_zero, List.set_cons_succ]
            rfl
          refine done_ (by kernel_rfl) ?_
          clear hHeld
          have HB4a := Lib.hid (below_then HBD.out hw2 HB4.out)
          have HAB4 := Lib.hid ((HB4.out.block atb (blk_lt HAB2.out)).trans HAB2.out)
          have b0 : w4.cell? ⟨atb, 0, none⟩ = some (.slice (some pd) (x.bk.length + 1) cp) := by simpa using blk_cell HAB4.out 0
          have b1 : w4.cell? ⟨atb, 1, none⟩ = some (.int .i64 x.cost) := by simpa using blk_cell HAB4.out 1
          have hw4 := HB4.out.size
          have HPC4 := ((HB4a.out.cell (World.block_lt_of_cell? wo _ HPC.out)).trans HPC.out)
          as_aux_lemma =>
            have HNAT := Lib.hid hatw
            clear HR3 HB3 HN3 HAB2 HBD HRD HPC hcutT hcutF HPD
            have hHX4 := HI.out.x.below HB4a.out
            obtain ⟨Ae, ce, hve, hle, _⟩ := Kd.R_reads hHX4.row
            have HX4 := Lib.hid hHX4
            obtain ⟨q0, q1, q2, q3, q4, q5⟩ := HX4.out.cells
            clear hHX4
            go_wp2_with fail
            refine (gkey_any HX4.out.at_ x.st (has_max HL.out HOK.out.1)).mono ?_
            rintro en w5 ⟨rfl, hb5⟩
            have HX5 := Lib.hid (HX4.out.below hb5)
            have HB45 := Lib.hid hb5
            clear hb5 q0 q1 q2 q3 q4 q5 b0 b1 HPC4
            go_wp2_with fail
            skip
            refine (was_any HX5.out HL.out).mono ?_
            rintro en w6 ⟨rfl, hb6⟩
            have HX6 := Lib.hid (HX5.out.below hb6)
            have HB46 := Lib.hid (below_then HB45.out HB45.out.size hb6)
            have HB6 := Lib.hid (below_then HB4a.out HB4a.out.size HB46.out)
            have HR6 := Lib.hid (Kd.R_below HR4.out HB46.out)
            have HAB6 := Lib.hid ((HB46.out.block atb (blk_lt HAB4.out)).trans HAB4.out)
            clear hb6 HX5 HB45 HX4 HR4 HAB4
            obtain ⟨rw_, hrw⟩ : ∃ r, (order.any fun s => g.key s == g.key x.st) = r := ⟨_, rfl⟩
            rw [hrw]
            have HRW := Lib.hid hrw
            clear hrw
            cases rw_ with
            | true =>
              go_wp2
              go_roundg k1
              case measure => omega
              case rel => exact ⟨_, _, _, _, _, rfl, HI.out.next HKM.out HX.out HRW.out HB6.out HR6.out⟩
            | false =>
              go_wp2_with fail
              refine (goal_any HX6.out HL.out x.st HOK.out.1).mono ?_
              rintro en w7 ⟨rfl, hb7⟩
              have HX7 := Lib.hid (HX6.out.below hb7)
              have HB7 := Lib.hid (below_then HB6.out HB6.out.size hb7)
              have HR7 := Lib.hid (Kd.R_below HR6.out hb7)
              have HAB7 := Lib.hid ((hb7.block atb (blk_lt HAB6.out)).trans HAB6.out)
              clear hb7 HX6 HB46 HB6 HR6 HAB6
              obtain ⟨gl, hgl⟩ : ∃ r, goalOf g what key x.st = r := ⟨_, rfl⟩
              rw [hgl]
              have HGL := Lib.hid hgl
              as_aux_lemma =>
                clear hgl
                have b0 : w7.cell? ⟨atb, 0, none⟩ = some (.slice (some pd) (x.bk.length + 1) cp) := by simpa using blk_cell HAB7.out 0
                have b1 : w7.cell? ⟨atb, 1, none⟩ = some (.int .i64 x.cost) := by simpa using blk_cell HAB7.out 1
                have hrb7 := (HB7.out.block _ (blk_lt HI.out.rb)).trans HI.out.rb
                have q0 : w7.cell? ⟨W.heap.size, 0, none⟩ = some (.slice none 0 0) := by simpa using blk_cell hrb7 0
                have f0 := blk_frozen hrb7 0
                have q1 : w7.cell? ⟨W.heap.size, 1, none⟩ = some (.int .i64 0) := by simpa using blk_cell hrb7 1
                have f1 := blk_frozen hrb7 1
                have HRB7 := Lib.hid hrb7
                clear hrb7
                cases gl with
                | true =>
                  have HOUT := Lib.hid (Sr.run_goal (p := g.prob) HX.out HRW.out HGL.out HI.out.run)
                  go_wp2
                  have hblk : ((w7.setCell ⟨W.heap.size, 0, none⟩ (.slice (some pd) (x.bk.length + 1) cp)).setCell ⟨W.heap.size, 1, none⟩ (.int .i64 x.cost)).heap[W.heap.size]? = some (.cells #[.slice (some pd) (x.bk.length + 1) cp, .int .i64 x.cost] 37 (0, 0)) := by
                    simpa using blk_set (blk_set HRB7.out 0 (.slice (some pd) (x.bk.length + 1) cp)) 1 (.int .i64 x.cost)
                  refine bodyPost_ret (results_ct rfl _ _ W.heap.size 37 #[.slice (some pd) (x.bk.length + 1) cp, .int .i64 x.cost] (0, 0) _ rfl hblk Try.underlying37 rfl (by kernel_rfl)) rfl ?_
                  exact rb_found HI.out HB7.out HXB.out HGA.out HOUT.out (ok := fun k => (OkL xb W.heap.size ve k ∧ some k ≠ (Value.slice (some ad) L.length c).ownBlock) ∧ W.heap.size ≤ k ∧ k < wo.heap.size) (by rw [← hpl]; exact HP.out) (fun k hk => hk.1.1.2.1) rfl
                | false =>
                  obtain ⟨Ae, ce, hve, hle, _⟩ := Kd.R_reads HX7.out.row
                  obtain ⟨p0, p1, p2, p3, p4, p5⟩ := HX7.out.cells
                  by_cases hbu : order.length = budget
                  · have HOUT := Lib.hid (Sr.run_budget (p := g.prob) HX.out HRW.out HGL.out hbu HI.out.run)
                    have hbu2 : (order.length : Int) = (budget : Int) := by omega
                    rw [hve] at p5
                    clear hve
                    go_wp2
                    have hblk : ((w7.setCell ⟨W.heap.size, 0, none⟩ (.slice none 0 0)).setCell ⟨W.heap.size, 1, none⟩ (.int .i64 0)).heap[W.heap.size]? = some (.cells #[.slice none 0 0, .int .i64 0] 37 (0, 0)) := by
                      simpa using blk_set (blk_set HRB7.out 0 (.slice none 0 0)) 1 (.int .i64 0)
                    refine bodyPost_ret (results_ct rfl _ _ W.heap.size 37 #[.slice none 0 0, .int .i64 0] (0, 0) _ rfl hblk Try.underlying37 rfl (by kernel_rfl)) rfl ?_
                    exact rb_bud HI.out HB7.out HXB.out HGA.out HOUT.out rfl
                  · have HRUN := Lib.hid (Sr.run_expand (p := g.prob) HX.out HRW.out HGL.out hbu HI.out.run)
                    have hbu2 : ((order.length : Int) == (budget : Int)) = false := by rw [beq_eq_false_iff_ne]; omega
                    have HVE := Lib.hid hve
                    rw [hve] at p5
                    have hxr := HX7.out.row
                    rw [hve] at hxr
                    have HXR := Lib.hid hxr
                    clear hve hxr hbu
                    have f5 := blk_frozen HX7.out.blk 5
                    skip
                    go_wp2_with (first | (at_builtin; refine Kd.R_append (Kd.int .i64) (w0 := w7) W.heap.size rfl (.tmp 93) (.tmp 95) 24 3 (.int .i64 0) 8 rfl Try.underlying24 info3r rfl (by decide) (by decide) (.slice Ae order.length ce) order x.st [.int .i64 x.st] (fun _ => True) (fun _ => False) rfl rfl rfl (fun _ h => h.elim) (fun _ _ => trivial) HXR.out (Below.refl _ _) (by have := HI.out.chg.size; have := HB7.out.size; omega) (by omega) ?_; intro v9 w9 hR9 hB9 hg9 ha9; obtain ⟨A9, c9, hv9⟩ := Kd.R_slice hR9; generalize (order ++ [x.st]).length = m9 at hv9; subst hv9; rw [← HVE.out] at hg9 ha9; have HR9 := Lib.hid hR9; have HG9 := Lib.hid hg9; have HA9 := Lib.hid ha9; have hk9 := (hg9.block xb (blk_lt HX7.out.blk) (fun e => (HX7.out.ne HX7.out.blk (by decide)) xb e.symm rfl)).trans HX7.out.blk; have p5' := blk_cell hk9 5; have p0' := blk_cell hk9 0; have p1' := blk_cell hk9 1; have p2' := blk_cell hk9 2; simp only [List.getElem?_toArray, List.getElem?_cons_succ, List.getElem?_cons_zero] at p0' p1' p2'; have f5' := blk_frozen hk9 5; simp only [List.getElem?_toArray, List.getElem?_cons_succ, List.getElem?_cons_zero] at p5'; clear hR9 hB9 hg9 ha9 hk9 p0 p1 p2 p3 p4 p5 f5 b0 b1 q0 q1 f0 f1) | fail)
                    obtain ⟨hXA, hCA, hCW⟩ := x_app HX7.out (HI.out.chg.trans (Chg.of_below HB7.out _) (fun _ _ e => e)) HXB.out HGA.out HOK.out.1 HR9.out HG9.out
                    refine (gnext_any hXA.at_ HL.out x.st).mono ?_
                    rintro en w11 ⟨vn, rfl, hvn, hb11⟩
                    obtain ⟨An, cn, hvn2, hlcn, hCn⟩ := Kd.R_reads hvn
                    subst hvn2
                    have HX11 := Lib.hid (hXA.below hb11)
                    have HCW11 := Lib.hid (hCW.trans (Chg.of_below hb11 _) (fun _ _ e => e))
                    have hc711 := hCA.trans (Chg.of_below hb11 _) (fun _ _ e => e)
                    have HR11 : Hid (kent.R 37 w11 W.heap.size (OkQ xb W.heap.size (.slice A9 m9 c9) atb) v4 ((L.eraseIdx kk).map ent)) := Lib.hid (R_carry HR7.out hc711 (fun i hi _ e => e.elim hi.1.1 (fun e => hi.1.2.2 e.symm)) (fun i hi hil => ⟨⟨hi.1.1, hi.1.2.1, fun e => by
                      rcases HA9.out with h | ⟨b, h, hb⟩
                      · exact hi.1.2.2 (e.trans h)
                      · rw [h] at e
                        injection e with e
                        omega⟩, hi.2⟩))
                    have HP11 := Lib.hid (int_chg (ok' := fun _ => True) (Kd.R_below HP.out HB7.out) hc711 (fun k hk e => e.elim (HP.out.1 k hk).1.1.1 (fun e => (HP.out.1 k hk).1.1.2.2 e.symm)) (fun _ _ => trivial))
                    rw [hpl] at HP11
                    have HAB11 := Lib.hid ((hc711.block atb (blk_lt HAB7.out) (fun e => e.elim (by have := HATB.out; have := HWo.out; have := HXB.out; omega) (fun e => HX7.out.ne HAB7.out (by decide) atb e rfl))).trans HAB7.out)
                    have HRB11 := Lib.hid ((hc711.block W.heap.size (blk_lt HRB7.out) (fun e => e.elim (by have := HXB.out; omega) (fun e => HX7.out.ne HRB7.out (by decide) _ e rfl))).trans HRB7.out)
                    have HTY : Hid (∀ ad, An = some ad → ∃ cs, w11.heap[ad.block]? = some (.cells cs 51 (0, 0))) := Lib.hid (fun ad e => by
                      subst e
                      obtain ⟨inner, ho⟩ := Kd.R_own hvn
                      exact own_typed ho ad.block (by simp [Value.ownBlock]))
                    have HNL := Lib.hid (next_len g HL.out x.st)
                    have HCN := Lib.hid hCn
                    have HWX := Lib.hid (show W.heap.size ≤ w11.heap.size from HCW11.out.size)
                    have HI := Lib.hid (show IR xb W.heap.size (.slice A9 m9 c9) atb x (steps (g.next x.st)) L.length (L.eraseIdx kk ++ Sr.pushes x (steps (g.next x.st)) added) (added + (Sr.pushes x (steps (g.next x.st)) added).length) w11 v4 (.int .i64 0) w11 from ⟨0, L.eraseIdx kk, added, v4, rfl, rfl, Nat.zero_le _, HR11.out, by rw [List.drop_zero], by rw [List.drop_zero], by have := List.length_eraseIdx_le L kk; omega, Chg.refl _ _⟩)
                    have HPSL : Hid ((steps (g.next x.st)).length = (g.next x.st).length) := Lib.hid (by simp [steps])
                    clear hCn hvn hb11 hc711 hXA hCA hCW HR7 HAB7 HRB7 HX7 HB7 HR9 HG9 HA9 HXR HVE p0' p1' p2' p5' f5' hle HR11
                    generalize hns : g.next x.st = ns at HCN HI HPSL HNL ⊢
                    have HNS := Lib.hid hns
                    clear hns
                    as_aux_lemma =>
                      go_wp2
                      go_loopw [8, 106] (fun v8 v106 wr => IR xb W.heap.size (.slice A9 m9 c9) atb x (steps ns) L.length (L.eraseIdx kk ++ Sr.pushes x (steps ns) added) (added + (Sr.pushes x (steps ns) added).length) w11 v8 v106 wr) (fun _ v106 _ => ns.length - (intOf v106).toNat)
                      case atStart => exact HI.out
                      case round =>
                        clear HI
                        obtain ⟨j, Lc, addc, vo, rfl, rfl, hj, hR, hLc, hac, hlc, hC⟩ := hrel
                        have HR := Lib.hid hR
                        have HLC := Lib.hid hLc
                        have HAC := Lib.hid hac
                        have HLE := Lib.hid hlc
                        have HC := Lib.hid hC
                        clear hR hLc hac hC
                        rw [HPSL.out] at hj
                        as_aux_lemma =>
                          by_cases hlt : j < ns.length
                          · have hj0 : 0 ≤ (j : Int) := by omega
                            have hj1 : (j : Int) < (ns.length : Int) := by omega
                            obtain ⟨ad1, hAn, hx0, hx1⟩ := at_T51 HCN.out (j : Int) hj0 hj1
                            subst hAn
                            have hrd : rd_T51 ns (j : Int) = ns[j] := by simp [rd_T51, hlt]
                            rw [hrd, Int.toNat_natCast] at hx0 hx1
                            obtain ⟨cs1, hcs1⟩ := HTY.out ad1 rfl
                            replace hx0 := cell_SX (t := 51) (cs := cs1) HC.out hx0 (by rw [add_block]; exact hcs1) (by decide)
                            replace hx1 := cell_SX (t := 51) (cs := cs1) HC.out hx1 (by show w11.heap[(ad1.add (j * 2)).block]? = _; rw [add_block]; exact hcs1) (by decide)
                            have HJ := Lib.hid (show j < (steps ns).length by rw [HPSL.out]; exact hlt)
                            obtain ⟨y0, ey0⟩ : ∃ y, ns[j].f0 = y := ⟨_, rfl⟩
                            obtain ⟨y1, ey1⟩ : ∃ y, ns[j].f1 = y := ⟨_, rfl⟩
                            have HPJ := Lib.hid (show (steps ns)[j]'HJ.out = (y0, y1) by simp [steps, ey0, ey1])
                            rw [ey0] at hx0
                            rw [ey1] at hx1
                            have hABr := (HC.out.block atb (blk_lt HAB11.out) (fun hs => hs.1.2 rfl)).trans HAB11.out
                            have HABr := Lib.hid hABr
                            have b0 : wr.cell? ⟨atb, 0, none⟩ = some (.slice (some pd) (x.bk.length + 1) cp) := by simpa using blk_cell hABr 0
                            have b1 : wr.cell? ⟨atb, 1, none⟩ = some (.int .i64 x.cost) := by simpa using blk_cell hABr 1
                            clear hrd hcs1 ey0 ey1 hABr
                            have hnl := HNL.out
                            have b0a : (wr.alloc (.cells #[.int .i64 y0, .int .i64 y1] 51)).cell? ⟨atb, 0, none⟩ = some (.slice (some pd) (x.bk.length + 1) cp) := keepw ((Below.refl _ _).alloc (Nat.le_refl _) _) b0
                            have b1a : (wr.alloc (.cells #[.int .i64 y0, .int .i64 y1] 51)).cell? ⟨atb, 1, none⟩ = some (.int .i64 x.cost) := keepw ((Below.refl _ _).alloc (Nat.le_refl _) _) b1
                            have hok2 := HOK.out.2.1
                            have hok3 := HOK.out.2.2.1
                            by_cases hn : y1 < 0
                            · have HSK := Lib.hid (IR.skip (w' := wr.alloc (.cells #[.int .i64 y0, .int .i64 y1] 51)) HJ.out (by rw [HPJ.out]; exact .inl hn) HR.out HLC.out HAC.out HLE.out HC.out ((Below.refl _ _).alloc (Nat.le_refl _) _))
                              have g1 : decide (0 ≤ y1) = false := decide_eq_false (by omega)
                              clear hn
                              go_wp2
                              go_roundw
                              case rel => exact HSK.out
                              case measure =>
                                clear hok2 hok3 g1
                                simp [intOf]
                                exact meas _ _ hlt
                            · have g1 : decide (0 ≤ y1) = true := decide_eq_true (by omega)
                              by_cases hm : y1 ≤ 1099511627776 - x.cost
                              · have HNS2 := Lib.hid (show ¬ (((steps ns)[j]'HJ.out).2 < 0 ∨ ((steps ns)[j]'HJ.out).2 > 1099511627776 - x.cost) by rw [HPJ.out]; simp only; omega)
                                have g2 : decide (y1 ≤ 1099511627776 - x.cost) = true := decide_eq_true hm
                                have hwa : IntKind.i64.wrap (x.cost + y1) = x.cost + y1 := i64w (by omega) (by omega)
                                have HQ := Lib.hid (show ((wr.alloc (.cells #[.int .i64 y0, .int .i64 y1] 51)).drew.cell? ⟨atb, 0, none⟩ = some (.slice (some pd) (x.bk.length + 1) cp)) ∧ ((wr.alloc (.cells #[.int .i64 y0, .int .i64 y1] 51)).drew.cell? ⟨atb, 1, none⟩ = some (.int .i64 x.cost)) ∧ ((wr.alloc (.cells #[.int .i64 y0, .int .i64 y1] 51)).drew.cell? ⟨wr.heap.size, 0, none⟩ = some (.int .i64 y0)) ∧ ((wr.alloc (.cells #[.int .i64 y0, .int .i64 y1] 51)).drew.cell? ⟨wr.heap.size, 1, none⟩ = some (.int .i64 y1)) from ⟨keepw (Below.drew ((Below.refl _ _).alloc (Nat.le_refl _) _)) b0, keepw (Below.drew ((Below.refl _ _).alloc (Nat.le_refl _) _)) b1, by simp, by simp⟩)
                                go_wp2
                                have HB20 := Lib.hid (show Below wr.heap.size wr (wr.alloc (.cells #[.int .i64 y0, .int .i64 y1] 51)).drew from Below.drew ((Below.refl _ _).alloc (Nat.le_refl _) _))
                                have HR20 := Lib.hid (Kd.R_below HR.out HB20.out)
                                have HROW := Lib.hid (rr_below (s_row (int_chg (ok' := fun _ => True) HP11.out HC.out (fun k hk hs => by
                                  obtain ⟨_, _, cs, hcs⟩ := hs
                                  obtain ⟨cs', hcs'⟩ := own_typed (Kd.own_of_R HP11.out) k hk
                                  rw [hcs'] at hcs
                                  injection hcs with hcs
                                  injection hcs with _ e
                                  exact absurd e (by decide)) (fun _ _ => trivial))) HB20.out)
                                have hws1 := HC.out.size
                                have HFR := Lib.hid (show ∀ k, (wr.alloc (.cells #[.int .i64 y0, .int .i64 y1] 51)).drew.heap.size ≤ k → OkQ xb W.heap.size (.slice A9 m9 c9) atb k from fun k hk => by
                                  have h1 := HB20.out.size
                                  exact ⟨⟨by have := HXB.out; have := HWX.out; omega, by have := blk_lt HRB11.out; omega, fun e => by have := own_lt (Kd.own_of_R HX11.out.row) k e.symm; omega⟩, by have := blk_lt HAB11.out; omega⟩)
                                have HOBr := Lib.hid (show ∀ k, vo.ownBlock = some k → k < wr.heap.size from fun k hk => by
                                  obtain ⟨inner, ho⟩ := Kd.R_own HR.out
                                  exact own_lt ho k hk)
                                have HOB := Lib.hid (show ∀ k, vo.ownBlock = some k → k < (wr.alloc (.cells #[.int .i64 y0, .int .i64 y1] 51)).drew.heap.size from fun k hk => Nat.lt_of_lt_of_le (HOBr.out k hk) HB20.out.size)
                                have HN1 := Lib.hid (show vo.ownBlock ≠ some atb from fun e => (HR.out.1 atb e).2 rfl)
                                have HN2 := Lib.hid (show vo.ownBlock ≠ some wr.heap.size from fun e => by have := HOBr.out _ e; omega)
                                have HWS := Lib.hid (show W.heap.size ≤ (wr.alloc (.cells #[.int .i64 y0, .int .i64 y1] 51)).drew.heap.size from by have := HB20.out.size; have := HWX.out; omega)
                                clear HOBr hws1
                                refine start_ (n := 18) (S := fun w' => w'.cell? ⟨atb, 0, none⟩ = some (.slice (some pd) (x.bk.length + 1) cp) ∧ w'.cell? ⟨atb, 1, none⟩ = some (.int .i64 x.cost) ∧ w'.cell? ⟨wr.heap.size, 0, none⟩ = some (.int .i64 y0) ∧ w'.cell? ⟨wr.heap.size, 1, none⟩ = some (.int .i64 y1)) (ds := []) #[false, false, false, false, false, false, false, false, false, false, false, false, false, false, false, false, false, false] (by kernel_rfl) rfl rfl HQ.out (fun hHeld => ?_)
                                clear b0 b1 b0a b1a hx0 hx1
                                generalize (wr.alloc (.cells #[.int .i64 y0, .int .i64 y1] 51)).drew = w20 at HQ HB20 HROW HR20 HFR HOB HWS hHeld ⊢
                                have HBc := Lib.hid (Below.refl w20.heap.size w20)
                                refine pure_ (i := 0) (N := (some 121)) (v := ?_) (a' := ?_) #[true, false, false, false, false, false, false, false, false, false, false, false, false, false, false, false, false, false] rfl rfl (by kernel_rfl) (fun _ _ _ h => h) (Or.inl ⟨by rfl, ?_⟩) ?_ ?_
                                rotate_left
                                · intro w'
                                  go_simp
                                  with_reducible rfl
                                rotate_left
                                · simp only [Act.put, List.setIfInBounds_toArray, List.set_cons_zero, List.set_cons_succ]
                                  rfl
                                refine pure_ (i := 2) (N := (some 123)) (v := ?_) (a' := ?_) #[true, false, true, false, false, false, false, false, false, false, false, false, false, false, false, false, false, false] rfl rfl (by kernel_rfl) (fun _ _ _ h => h) (Or.inl ⟨by rfl, ?_⟩) ?_ ?_
                                rotate_left
                                · intro w'
                                  go_simp
                                  with_reducible rfl
                                rotate_left
                                · simp only [Act.put, List.setIfInBounds_toArray, List.set_cons_zero, List.set_cons_succ]
                                  rfl
                                refine take_ (i := 3) (N := (some 124)) (v := ?_) (a' := ?_) #[true, false, true, true, false, false, false, false, false, false, false, false, false, false, false, false, false, false] rfl rfl (by kernel_rfl) (fun _ _ _ h => h) (Or.inl ⟨by rfl, ?_⟩) hHeld ?_ ?_
                                rotate_left
                                · rintro w' ⟨s0, s1, s2, s3⟩
                                  go_simp
                                  with_reducible rfl
                                rotate_left
                                · simp only [Act.put, List.setIfInBounds_toArray, List.set_cons_zero, List.set_cons_succ]
                                  rfl
                                refine pure_ (i := 5) (N := (some 126)) (v := ?_) (a' := ?_) #[true, false, true, true, false, true, false, false, false, false, false, false, false, false, false, false, false, false] rfl rfl (by kernel_rfl) (fun _ _ _ h => h) (Or.inl ⟨by rfl, ?_⟩) ?_ ?_
                                rotate_left
                                · intro w'
                                  go_simp
                                  with_reducible rfl
                                rotate_left
                                · simp only [Act.put, List.setIfInBounds_toArray, List.set_cons_zero, List.set_cons_succ]
                                  rfl
                                refine take_ (i := 6) (N := (some 127)) (v := ?_) (a' := ?_) #[true, false, true, true, false, true, true, false, false, false, false, false, false, false, false, false, false, false] rfl rfl (by kernel_rfl) (fun _ _ _ h => h) (Or.inl ⟨by rfl, ?_⟩) hHeld ?_ ?_
                                rotate_left
                                · rintro w' ⟨s0, s1, s2, s3⟩
                                  go_simp
                                  with_reducible rfl
                                rotate_left
                                · simp only [Act.put, List.setIfInBounds_toArray, List.set_cons_zero, List.set_cons_succ]
                                  rfl
                                refine pure_ (i := 9) (N := (some 130)) (v := ?_) (a' := ?_) #[true, false, true, true, false, true, true, false, false, true, false, false, false, false, false, false, false, false] rfl rfl (by kernel_rfl) (fun _ _ _ h => h) (Or.inl ⟨by rfl, ?_⟩) ?_ ?_
                                rotate_left
                                · intro w'
                                  go_simp
                                  with_reducible rfl
                                rotate_left
                                · simp only [Act.put, List.setIfInBounds_toArray, List.set_cons_zero, List.set_cons_succ]
                                  rfl
                                refine take_ (i := 10) (N := (some 131)) (v := ?_) (a' := ?_) #[true, false, true, true, false, true, true, false, false, true, true, false, false, false, false, false, false, false] rfl rfl (by kernel_rfl) (fun _ _ _ h => h) (Or.inl ⟨by rfl, ?_⟩) hHeld ?_ ?_
                                rotate_left
                                · rintro w' ⟨s0, s1, s2, s3⟩
                                  go_simp
                                  with_reducible rfl
                                rotate_left
                                · simp only [Act.put, List.setIfInBounds_toArray, List.set_cons_zero, List.set_cons_succ]
                                  rfl
                                refine pure_ (i := 11) (N := (some 132)) (v := ?_) (a' := ?_) #[true, false, true, true, false, true, true, false, false, true, true, true, false, false, false, false, false, false] rfl rfl (by kernel_rfl) (fun _ _ _ h => h) (Or.inl ⟨by rfl, ?_⟩) ?_ ?_
                                rotate_left
                                · intro w'
                                  go_simp
                                  with_reducible rfl
                                rotate_left
                                · simp only [Act.put, List.setIfInBounds_toArray, List.set_cons_zero, List.set_cons_succ]
                                  rfl
                                refine take_ (i := 12) (N := (some 133)) (v := ?_) (a' := ?_) #[true, false, true, true, false, true, true, false, false, true, true, true, true, false, false, false, false, false] rfl rfl (by kernel_rfl) (fun _ _ _ h => h) (Or.inl ⟨by rfl, ?_⟩) hHeld ?_ ?_
                                rotate_left
                                · rintro w' ⟨s0, s1, s2, s3⟩
                                  go_simp
                                  with_reducible rfl
                                rotate_left
                                · simp only [Act.put, List.setIfInBounds_toArray, List.set_cons_zero, List.set_cons_succ]
                                  rfl
                                refine pure_ (i := 13) (N := (some 134)) (v := ?_) (a' := ?_) #[true, false, true, true, false, true, true, false, false, true, true, true, true, true, false, false, false, false] rfl rfl (by kernel_rfl) (fun _ _ _ h => h) (Or.inl ⟨by rfl, ?_⟩) ?_ ?_
                                rotate_left
                                · intro w'
                                  go_simp
                                  with_reducible rfl
                                rotate_left
                                · simp only [Act.put, List.setIfInBounds_toArray, List.set_cons_zero, List.set_cons_succ]
                                  rfl
                                refine two_ (i := 1) (j := 7) (Ni := (some 122)) (Nj := (some 128)) #[true, true, true, true, false, true, true, false, false, true, true, true, true, true, false, false, false, false] #[true, false, true, true, false, true, true, true, false, true, true, true, true, true, false, false, false, false] rfl rfl rfl rfl (by kernel_rfl) (by decide) (by decide) (fun K hK => ?_) (fun K hK => ?_)
                                · go_simp
                                  generalize hwn : World.alloc _ (Obj.cells #[] 3) = wn
                                  have HE := Lib.hid (ev_e (base := w20.heap.size) hwn HBc.out.size)
                                  first | (have HDJ := Lib.hid (dj_l (n := 0) (c := 0) HS.out); replace HS := Lib.hid (ev_R HS.out hwn)) | skip
                                  replace HBc := Lib.hid (ev_below HBc.out HBc.out.size hwn)
                                  clear hwn
                                  refine hK.out _ _ ⟨keepw HBc.out HQ.out.1, keepw HBc.out HQ.out.2.1, keepw HBc.out HQ.out.2.2.1, keepw HBc.out HQ.out.2.2.2⟩ (fun hHeld => ?_)
                                  clear hK K
                                  (try simp only [Act.put, List.setIfInBounds_toArray, List.set_cons_zero, List.set_cons_succ])
                                  refine two_ (i := 4) (j := 7) (Ni := (some 125)) (Nj := (some 128)) #[true, true, true, true, true, true, true, false, false, true, true, true, true, true, false, false, false, false] #[true, true, true, true, false, true, true, true, false, true, true, true, true, true, false, false, false, false] rfl rfl rfl rfl (by kernel_rfl) (by decide) (by decide) (fun K hK => ?_) (fun K hK => ?_)
                                  · refine Kd.R_append_rows_step (Kd.int .i64) (Rr := fun x cs => cs = [Value.int .i64 x]) (w0 := w20) w20.heap.size rfl (.tmp 122) (.tmp 124) 24 3 (.int .i64 0) 8 rfl Try.underlying24 info3r rfl (by decide) (by decide) _ [] x.rp.reverse (some pd) (x.bk.length + 1) cp (fun k => w20.heap.size ≤ k) (fun _ => False) rfl rfl HE.out (rr_below HROW.out HBc.out) (fun x cs h => h) (fun _ h => h.elim) (fun k hk => Nat.le_trans HBc.out.size hk) HBc.out HBc.out.size (by simp; omega) ?_
                                    intro v21 w21 hR21 hB21 hG21 hA21
                                    first | (have hdj2 := dj_g HDJ.out HS.out hA21; replace HS := Lib.hid (R_gr HS.out hG21 HDJ.out); replace HDJ := Lib.hid hdj2; clear hdj2) | skip
                                    replace HBc := Lib.hid (HBc.out.grown hG21 HBc.out.size (fun k hk => HE.out.1 k hk))
                                    replace HE := Lib.hid hR21
                                    clear hR21 hB21 hG21 hA21
                                    refine hK.out _ _ ⟨keepw HBc.out HQ.out.1, keepw HBc.out HQ.out.2.1, keepw HBc.out HQ.out.2.2.1, keepw HBc.out HQ.out.2.2.2⟩ (fun hHeld => ?_)
                                    clear hK K
                                    (try simp only [Act.put, List.setIfInBounds_toArray, List.set_cons_zero, List.set_cons_succ])
                                    refine one_ (i := 7) (N := (some 128)) #[true, true, true, true, true, true, true, true, false, true, true, true, true, true, false, false, false, false] rfl rfl (by kernel_rfl) (by decide) (fun K hK => ?_)
                                    go_simp
                                    generalize hwn : World.alloc _ (Obj.cells #[Value.int IntKind.i64 y0] 3) = wn
                                    have HS := Lib.hid (ev_s (base := w20.heap.size) hwn HBc.out.size)
                                    first | (have HDJ := Lib.hid (dj_r (n := 1) (c := 1) HE.out); replace HE := Lib.hid (ev_R HE.out hwn)) | skip
                                    replace HBc := Lib.hid (ev_below HBc.out HBc.out.size hwn)
                                    clear hwn
                                    refine hK.out _ _ ⟨keepw HBc.out HQ.out.1, keepw HBc.out HQ.out.2.1, keepw HBc.out HQ.out.2.2.1, keepw HBc.out HQ.out.2.2.2⟩ (fun hHeld => ?_)
                                    clear hK K
                                    (try simp only [Act.put, List.setIfInBounds_toArray, List.set_cons_zero, List.set_cons_succ])
                                    refine one_ (i := 8) (N := (some 129)) #[true, true, true, true, true, true, true, true, true, true, true, true, true, true, false, false, false, false] rfl rfl (by kernel_rfl) (by decide) (fun K hK => ?_)
                                    refine Kd.R_append_rows_step (Kd.int .i64) (Rr := fun x cs => cs = [Value.int .i64 x]) (w0 := w20) w20.heap.size rfl (.tmp 125) (.tmp 128) 24 3 (.int .i64 0) 8 rfl Try.underlying24 info3r rfl (by decide) (by decide) _ ([] ++ x.rp.reverse) [y0] _ 1 1 (fun k => w20.heap.size ≤ k) (fun _ => False) rfl rfl HE.out (s_row HS.out) (fun x cs h => h) (fun _ h => h.elim) (fun k hk => Nat.le_trans HBc.out.size hk) HBc.out HBc.out.size (by rw [List.nil_append, hpl]; omega) ?_
                                    intro v22 w22 hR22 hB22 hG22 hA22
                                    obtain ⟨A22, c22, hv22⟩ := Kd.R_slice hR22
                                    generalize ([] ++ x.rp.reverse ++ [y0]).length = m22 at hv22
                                    subst hv22
                                    replace HBc := Lib.hid (HBc.out.grown hG22 HBc.out.size (fun k hk => HE.out.1 k hk))
                                    have HV := Lib.hid hR22
                                    clear hR22 hB22 hG22 hA22 HE HS HDJ
                                    refine hK.out _ _ ⟨keepw HBc.out HQ.out.1, keepw HBc.out HQ.out.2.1, keepw HBc.out HQ.out.2.2.1, keepw HBc.out HQ.out.2.2.2⟩ (fun hHeld => ?_)
                                    clear hK K
                                    (try simp only [Act.put, List.setIfInBounds_toArray, List.set_cons_zero, List.set_cons_succ])
                                    refine pure_ (i := 14) (N := (some 135)) (v := ?_) (a' := ?_) #[true, true, true, true, true, true, true, true, true, true, true, true, true, true, true, false, false, false] rfl rfl (by kernel_rfl) (fun _ _ _ h => h) (Or.inl ⟨by rfl, ?_⟩) ?_ ?_
                                    rotate_left
                                    · intro w'
                                      go_simp
                                      with_reducible rfl
                                    rotate_left
                                    · simp only [Act.put, List.setIfInBounds_toArray, List.set_cons_zero, List.set_cons_succ]
                                      rfl
                                    refine one_ (i := 15) (N := (some 136)) #[true, true, true, true, true, true, true, true, true, true, true, true, true, true, true, true, false, false] rfl rfl (by kernel_rfl) (by decide) (fun K hK => ?_)
                                    go_simp
                                    refine hK.out _ _ ⟨keepw ((Below.refl _ _).alloc (Nat.le_refl _) _) hHeld.1, keepw ((Below.refl _ _).alloc (Nat.le_refl _) _) hHeld.2.1, keepw ((Below.refl _ _).alloc (Nat.le_refl _) _) hHeld.2.2.1, keepw ((Below.refl _ _).alloc (Nat.le_refl _) _) hHeld.2.2.2⟩ (fun hHeld => ?_)
                                    clear hK K
                                    (try simp only [Act.put, List.setIfInBounds_toArray, List.set_cons_zero, List.set_cons_succ])
                                    refine one_ (i := 16) (N := (some 137)) #[true, true, true, true, true, true, true, true, true, true, true, true, true, true, true, true, true, false] rfl rfl (by kernel_rfl) (by decide) (fun K hK => ?_)
                                    have hsz1 := HBc.out.size
                                    refine Kd.R_append_step kent (w0 := w20) W.heap.size rfl (.tmp 121) (.tmp 136) 63 37 _ 32 rfl Try.underlying63 info37 rfl (by decide) (by decide) vo (Lc.map ent) ([] ++ x.rp.reverse ++ [y0], x.cost + y1) [.slice A22 m22 c22, .int .i64 (x.cost + y1)] (OkQ xb W.heap.size (.slice A9 m9 c9) atb) (fun k => w20.heap.size ≤ k) rfl (by simp [Act.eval]) ⟨[.slice A22 m22 c22], [.int .i64 (x.cost + y1)], rfl, ⟨_, rfl, Kd.R_lower HV.out HWS.out⟩, rfl⟩ (fun k hk => ⟨HFR.out k hk, fun e => by have := HOB.out k e.symm; omega⟩) (fun k hk => HFR.out k (Nat.le_trans hsz1 hk)) (Kd.R_below HR20.out HBc.out) (HBc.out.mono HWS.out) (Nat.le_trans HWS.out hsz1) (by rw [List.length_map]; omega) ?_
                                    intro v23 w23 hR23 hB23 hG23 hA23
                                    have HIR := Lib.hid (IR.take (w' := w23) (v8 := v23) HJ.out HNS2.out HR.out HLC.out HAC.out HLE.out HC.out (below_then HB20.out HB20.out.size HBc.out) hG23 (by rw [HPJ.out]; exact hR23))
                                    have HS16 := Lib.hid (show (w23.cell? ⟨atb, 0, none⟩ = some (.slice (some pd) (x.bk.length + 1) cp)) ∧ (w23.cell? ⟨atb, 1, none⟩ = some (.int .i64 x.cost)) ∧ (w23.cell? ⟨wr.heap.size, 0, none⟩ = some (.int .i64 y0)) ∧ (w23.cell? ⟨wr.heap.size, 1, none⟩ = some (.int .i64 y1)) from ⟨gcell hG23 (keepw HBc.out HQ.out.1) HN1.out, gcell hG23 (keepw HBc.out HQ.out.2.1) HN1.out, gcell hG23 (keepw HBc.out HQ.out.2.2.1) HN2.out, gcell hG23 (keepw HBc.out HQ.out.2.2.2) HN2.out⟩)
                                    clear hR23 hB23 hG23 hA23
                                    refine hK.out _ _ HS16.out (fun hHeld => ?_)
                                    clear hK K
                                    (try simp only [Act.put, List.setIfInBounds_toArray, List.set_cons_zero, List.set_cons_succ])
                                    refine pure_ (i := 17) (N := (some 8)) (v := ?_) (a' := ?_) #[true, true, true, true, true, true, true, true, true, true, true, true, true, true, true, true, true, true] rfl rfl (by kernel_rfl) (fun _ _ _ h => h) (Or.inl ⟨by rfl, ?_⟩) ?_ ?_
                                    rotate_left
                                    · intro w'
                                      go_simp
                                      with_reducible rfl
                                    rotate_left
                                    · simp only [Act.put, List.setIfInBounds_toArray, List.set_cons_zero, List.set_cons_succ]
                                      rfl
                                    refine done_ (by kernel_rfl) ?_
                                    go_wp2
                                    go_roundw
                                    case rel => exact HIR.out
                                    case measure => simp [intOf]; omega
                                  · go_simp
                                    generalize hwn : World.alloc _ (Obj.cells #[Value.int IntKind.i64 y0] 3) = wn
                                    have HS := Lib.hid (ev_s (base := w20.heap.size) hwn HBc.out.size)
                                    first | (have HDJ := Lib.hid (dj_r (n := 1) (c := 1) HE.out); replace HE := Lib.hid (ev_R HE.out hwn)) | skip
                                    replace HBc := Lib.hid (ev_below HBc.out HBc.out.size hwn)
                                    clear hwn
                                    refine hK.out _ _ ⟨keepw HBc.out HQ.out.1, keepw HBc.out HQ.out.2.1, keepw HBc.out HQ.out.2.2.1, keepw HBc.out HQ.out.2.2.2⟩ (fun hHeld => ?_)
                                    clear hK K
                                    (try simp only [Act.put, List.setIfInBounds_toArray, List.set_cons_zero, List.set_cons_succ])
                                    refine one_ (i := 4) (N := (some 125)) #[true, true, true, true, true, true, true, true, false, true, true, true, true, true, false, false, false, false] rfl rfl (by kernel_rfl) (by decide) (fun K hK => ?_)
                                    refine Kd.R_append_rows_step (Kd.int .i64) (Rr := fun x cs => cs = [Value.int .i64 x]) (w0 := w20) w20.heap.size rfl (.tmp 122) (.tmp 124) 24 3 (.int .i64 0) 8 rfl Try.underlying24 info3r rfl (by decide) (by decide) _ [] x.rp.reverse (some pd) (x.bk.length + 1) cp (fun k => w20.heap.size ≤ k) (fun _ => False) rfl rfl HE.out (rr_below HROW.out HBc.out) (fun x cs h => h) (fun _ h => h.elim) (fun k hk => Nat.le_trans HBc.out.size hk) HBc.out HBc.out.size (by simp; omega) ?_
                                    intro v21 w21 hR21 hB21 hG21 hA21
                                    first | (have hdj2 := dj_g HDJ.out HS.out hA21; replace HS := Lib.hid (R_gr HS.out hG21 HDJ.out); replace HDJ := Lib.hid hdj2; clear hdj2) | skip
                                    replace HBc := Lib.hid (HBc.out.grown hG21 HBc.out.size (fun k hk => HE.out.1 k hk))
                                    replace HE := Lib.hid hR21
                                    clear hR21 hB21 hG21 hA21
                                    refine hK.out _ _ ⟨keepw HBc.out HQ.out.1, keepw HBc.out HQ.out.2.1, keepw HBc.out HQ.out.2.2.1, keepw HBc.out HQ.out.2.2.2⟩ (fun hHeld => ?_)
                                    clear hK K
                                    (try simp only [Act.put, List.setIfInBounds_toArray, List.set_cons_zero, List.set_cons_succ])
                                    refine one_ (i := 8) (N := (some 129)) #[true, true, true, true, true, true, true, true, true, true, true, true, true, true, false, false, false, false] rfl rfl (by kernel_rfl) (by decide) (fun K hK => ?_)
                                    refine Kd.R_append_rows_step (Kd.int .i64) (Rr := fun x cs => cs = [Value.int .i64 x]) (w0 := w20) w20.heap.size rfl (.tmp 125) (.tmp 128) 24 3 (.int .i64 0) 8 rfl Try.underlying24 info3r rfl (by decide) (by decide) _ ([] ++ x.rp.reverse) [y0] _ 1 1 (fun k => w20.heap.size ≤ k) (fun _ => False) rfl rfl HE.out (s_row HS.out) (fun x cs h => h) (fun _ h => h.elim) (fun k hk => Nat.le_trans HBc.out.size hk) HBc.out HBc.out.size (by rw [List.nil_append, hpl]; omega) ?_
                                    intro v22 w22 hR22 hB22 hG22 hA22
                                    obtain ⟨A22, c22, hv22⟩ := Kd.R_slice hR22
                                    generalize ([] ++ x.rp.reverse ++ [y0]).length = m22 at hv22
                                    subst hv22
                                    replace HBc := Lib.hid (HBc.out.grown hG22 HBc.out.size (fun k hk => HE.out.1 k hk))
                                    have HV := Lib.hid hR22
                                    clear hR22 hB22 hG22 hA22 HE HS HDJ
                                    refine hK.out _ _ ⟨keepw HBc.out HQ.out.1, keepw HBc.out HQ.out.2.1, keepw HBc.out HQ.out.2.2.1, keepw HBc.out HQ.out.2.2.2⟩ (fun hHeld => ?_)
                                    clear hK K
                                    (try simp only [Act.put, List.setIfInBounds_toArray, List.set_cons_zero, List.set_cons_succ])
                                    refine pure_ (i := 14) (N := (some 135)) (v := ?_) (a' := ?_) #[true, true, true, true, true, true, true, true, true, true, true, true, true, true, true, false, false, false] rfl rfl (by kernel_rfl) (fun _ _ _ h => h) (Or.inl ⟨by rfl, ?_⟩) ?_ ?_
                                    rotate_left
                                    · intro w'
                                      go_simp
                                      with_reducible rfl
                                    rotate_left
                                    · simp only [Act.put, List.setIfInBounds_toArray, List.set_cons_zero, List.set_cons_succ]
                                      rfl
                                    refine one_ (i := 15) (N := (some 136)) #[true, true, true, true, true, true, true, true, true, true, true, true, true, true, true, true, false, false] rfl rfl (by kernel_rfl) (by decide) (fun K hK => ?_)
                                    go_simp
                                    refine hK.out _ _ ⟨keepw ((Below.refl _ _).alloc (Nat.le_refl _) _) hHeld.1, keepw ((Below.refl _ _).alloc (Nat.le_refl _) _) hHeld.2.1, keepw ((Below.refl _ _).alloc (Nat.le_refl _) _) hHeld.2.2.1, keepw ((Below.refl _ _).alloc (Nat.le_refl _) _) hHeld.2.2.2⟩ (fun hHeld => ?_)
                                    clear hK K
                                    (try simp only [Act.put, List.setIfInBounds_toArray, List.set_cons_zero, List.set_cons_succ])
                                    refine one_ (i := 16) (N := (some 137)) #[true, true, true, true, true, true, true, true, true, true, true, true, true, true, true, true, true, false] rfl rfl (by kernel_rfl) (by decide) (fun K hK => ?_)
                                    have hsz1 := HBc.out.size
                                    refine Kd.R_append_step kent (w0 := w20) W.heap.size rfl (.tmp 121) (.tmp 136) 63 37 _ 32 rfl Try.underlying63 info37 rfl (by decide) (by decide) vo (Lc.map ent) ([] ++ x.rp.reverse ++ [y0], x.cost + y1) [.slice A22 m22 c22, .int .i64 (x.cost + y1)] (OkQ xb W.heap.size (.slice A9 m9 c9) atb) (fun k => w20.heap.size ≤ k) rfl (by simp [Act.eval]) ⟨[.slice A22 m22 c22], [.int .i64 (x.cost + y1)], rfl, ⟨_, rfl, Kd.R_lower HV.out HWS.out⟩, rfl⟩ (fun k hk => ⟨HFR.out k hk, fun e => by have := HOB.out k e.symm; omega⟩) (fun k hk => HFR.out k (Nat.le_trans hsz1 hk)) (Kd.R_below HR20.out HBc.out) (HBc.out.mono HWS.out) (Nat.le_trans HWS.out hsz1) (by rw [List.length_map]; omega) ?_
                                    intro v23 w23 hR23 hB23 hG23 hA23
                                    have HIR := Lib.hid (IR.take (w' := w23) (v8 := v23) HJ.out HNS2.out HR.out HLC.out HAC.out HLE.out HC.out (below_then HB20.out HB20.out.size HBc.out) hG23 (by rw [HPJ.out]; exact hR23))
                                    have HS16 := Lib.hid (show (w23.cell? ⟨atb, 0, none⟩ = some (.slice (some pd) (x.bk.length + 1) cp)) ∧ (w23.cell? ⟨atb, 1, none⟩ = some (.int .i64 x.cost)) ∧ (w23.cell? ⟨wr.heap.size, 0, none⟩ = some (.int .i64 y0)) ∧ (w23.cell? ⟨wr.heap.size, 1, none⟩ = some (.int .i64 y1)) from ⟨gcell hG23 (keepw HBc.out HQ.out.1) HN1.out, gcell hG23 (keepw HBc.out HQ.out.2.1) HN1.out, gcell hG23 (keepw HBc.out HQ.out.2.2.1) HN2.out, gcell hG23 (keepw HBc.out HQ.out.2.2.2) HN2.out⟩)
                                    clear hR23 hB23 hG23 hA23
                                    refine hK.out _ _ HS16.out (fun hHeld => ?_)
                                    clear hK K
                                    (try simp only [Act.put, List.setIfInBounds_toArray, List.set_cons_zero, List.set_cons_succ])
                                    refine pure_ (i := 17) (N := (some 8)) (v := ?_) (a' := ?_) #[true, true, true, true, true, true, true, true, true, true, true, true, true, true, true, true, true, true] rfl rfl (by kernel_rfl) (fun _ _ _ h => h) (Or.inl ⟨by rfl, ?_⟩) ?_ ?_
                                    rotate_left
                                    · intro w'
                                      go_simp
                                      with_reducible rfl
                                    rotate_left
                                    · simp only [Act.put, List.setIfInBounds_toArray, List.set_cons_zero, List.set_cons_succ]
                                      rfl
                                    refine done_ (by kernel_rfl) ?_
                                    go_wp2
                                    go_roundw
                                    case rel => exact HIR.out
                                    case measure => simp [intOf]; omega
                                · go_simp
                                  generalize hwn : World.alloc _ (Obj.cells #[Value.int IntKind.i64 y0] 3) = wn
                                  have HS := Lib.hid (ev_s (base := w20.heap.size) hwn HBc.out.size)
                                  first | (have HDJ := Lib.hid (dj_r (n := 1) (c := 1) HE.out); replace HE := Lib.hid (ev_R HE.out hwn)) | skip
                                  replace HBc := Lib.hid (ev_below HBc.out HBc.out.size hwn)
                                  clear hwn
                                  refine hK.out _ _ ⟨keepw HBc.out HQ.out.1, keepw HBc.out HQ.out.2.1, keepw HBc.out HQ.out.2.2.1, keepw HBc.out HQ.out.2.2.2⟩ (fun hHeld => ?_)
                                  clear hK K
                                  (try simp only [Act.put, List.setIfInBounds_toArray, List.set_cons_zero, List.set_cons_succ])
                                  refine one_ (i := 1) (N := (some 122)) #[true, true, true, true, false, true, true, true, false, true, true, true, true, true, false, false, false, false] rfl rfl (by kernel_rfl) (by decide) (fun K hK => ?_)
                                  go_simp
                                  generalize hwn : World.alloc _ (Obj.cells #[] 3) = wn
                                  have HE := Lib.hid (ev_e (base := w20.heap.size) hwn HBc.out.size)
                                  first | (have HDJ := Lib.hid (dj_l (n := 0) (c := 0) HS.out); replace HS := Lib.hid (ev_R HS.out hwn)) | skip
                                  replace HBc := Lib.hid (ev_below HBc.out HBc.out.size hwn)
                                  clear hwn
                                  refine hK.out _ _ ⟨keepw HBc.out HQ.out.1, keepw HBc.out HQ.out.2.1, keepw HBc.out HQ.out.2.2.1, keepw HBc.out HQ.out.2.2.2⟩ (fun hHeld => ?_)
                                  clear hK K
                                  (try simp only [Act.put, List.setIfInBounds_toArray, List.set_cons_zero, List.set_cons_succ])
                                  refine one_ (i := 4) (N := (some 125)) #[true, true, true, true, true, true, true, true, false, true, true, true, true, true, false, false, false, false] rfl rfl (by kernel_rfl) (by decide) (fun K hK => ?_)
                                  refine Kd.R_append_rows_step (Kd.int .i64) (Rr := fun x cs => cs = [Value.int .i64 x]) (w0 := w20) w20.heap.size rfl (.tmp 122) (.tmp 124) 24 3 (.int .i64 0) 8 rfl Try.underlying24 info3r rfl (by decide) (by decide) _ [] x.rp.reverse (some pd) (x.bk.length + 1) cp (fun k => w20.heap.size ≤ k) (fun _ => False) rfl rfl HE.out (rr_below HROW.out HBc.out) (fun x cs h => h) (fun _ h => h.elim) (fun k hk => Nat.le_trans HBc.out.size hk) HBc.out HBc.out.size (by simp; omega) ?_
                                  intro v21 w21 hR21 hB21 hG21 hA21
                                  first | (have hdj2 := dj_g HDJ.out HS.out hA21; replace HS := Lib.hid (R_gr HS.out hG21 HDJ.out); replace HDJ := Lib.hid hdj2; clear hdj2) | skip
                                  replace HBc := Lib.hid (HBc.out.grown hG21 HBc.out.size (fun k hk => HE.out.1 k hk))
                                  replace HE := Lib.hid hR21
                                  clear hR21 hB21 hG21 hA21
                                  refine hK.out _ _ ⟨keepw HBc.out HQ.out.1, keepw HBc.out HQ.out.2.1, keepw HBc.out HQ.out.2.2.1, keepw HBc.out HQ.out.2.2.2⟩ (fun hHeld => ?_)
                                  clear hK K
                                  (try simp only [Act.put, List.setIfInBounds_toArray, List.set_cons_zero, List.set_cons_succ])
                                  refine one_ (i := 8) (N := (some 129)) #[true, true, true, true, true, true, true, true, true, true, true, true, true, true, false, false, false, false] rfl rfl (by kernel_rfl) (by decide) (fun K hK => ?_)
                                  refine Kd.R_append_rows_step (Kd.int .i64) (Rr := fun x cs => cs = [Value.int .i64 x]) (w0 := w20) w20.heap.size rfl (.tmp 125) (.tmp 128) 24 3 (.int .i64 0) 8 rfl Try.underlying24 info3r rfl (by decide) (by decide) _ ([] ++ x.rp.reverse) [y0] _ 1 1 (fun k => w20.heap.size ≤ k) (fun _ => False) rfl rfl HE.out (s_row HS.out) (fun x cs h => h) (fun _ h => h.elim) (fun k hk => Nat.le_trans HBc.out.size hk) HBc.out HBc.out.size (by rw [List.nil_append, hpl]; omega) ?_
                                  intro v22 w22 hR22 hB22 hG22 hA22
                                  obtain ⟨A22, c22, hv22⟩ := Kd.R_slice hR22
                                  generalize ([] ++ x.rp.reverse ++ [y0]).length = m22 at hv22
                                  subst hv22
                                  replace HBc := Lib.hid (HBc.out.grown hG22 HBc.out.size (fun k hk => HE.out.1 k hk))
                                  have HV := Lib.hid hR22
                                  clear hR22 hB22 hG22 hA22 HE HS HDJ
                                  refine hK.out _ _ ⟨keepw HBc.out HQ.out.1, keepw HBc.out HQ.out.2.1, keepw HBc.out HQ.out.2.2.1, keepw HBc.out HQ.out.2.2.2⟩ (fun hHeld => ?_)
                                  clear hK K
                                  (try simp only [Act.put, List.setIfInBounds_toArray, List.set_cons_zero, List.set_cons_succ])
                                  refine pure_ (i := 14) (N := (some 135)) (v := ?_) (a' := ?_) #[true, true, true, true, true, true, true, true, true, true, true, true, true, true, true, false, false, false] rfl rfl (by kernel_rfl) (fun _ _ _ h => h) (Or.inl ⟨by rfl, ?_⟩) ?_ ?_
                                  rotate_left
                                  · intro w'
                                    go_simp
                                    with_reducible rfl
                                  rotate_left
                                  · simp only [Act.put, List.setIfInBounds_toArray, List.set_cons_zero, List.set_cons_succ]
                                    rfl
                                  refine one_ (i := 15) (N := (some 136)) #[true, true, true, true, true, true, true, true, true, true, true, true, true, true, true, true, false, false] rfl rfl (by kernel_rfl) (by decide) (fun K hK => ?_)
                                  go_simp
                                  refine hK.out _ _ ⟨keepw ((Below.refl _ _).alloc (Nat.le_refl _) _) hHeld.1, keepw ((Below.refl _ _).alloc (Nat.le_refl _) _) hHeld.2.1, keepw ((Below.refl _ _).alloc (Nat.le_refl _) _) hHeld.2.2.1, keepw ((Below.refl _ _).alloc (Nat.le_refl _) _) hHeld.2.2.2⟩ (fun hHeld => ?_)
                                  clear hK K
                                  (try simp only [Act.put, List.setIfInBounds_toArray, List.set_cons_zero, List.set_cons_succ])
                                  refine one_ (i := 16) (N := (some 137)) #[true, true, true, true, true, true, true, true, true, true, true, true, true, true, true, true, true, false] rfl rfl (by kernel_rfl) (by decide) (fun K hK => ?_)
                                  have hsz1 := HBc.out.size
                                  refine Kd.R_append_step kent (w0 := w20) W.heap.size rfl (.tmp 121) (.tmp 136) 63 37 _ 32 rfl Try.underlying63 info37 rfl (by decide) (by decide) vo (Lc.map ent) ([] ++ x.rp.reverse ++ [y0], x.cost + y1) [.slice A22 m22 c22, .int .i64 (x.cost + y1)] (OkQ xb W.heap.size (.slice A9 m9 c9) atb) (fun k => w20.heap.size ≤ k) rfl (by simp [Act.eval]) ⟨[.slice A22 m22 c22], [.int .i64 (x.cost + y1)], rfl, ⟨_, rfl, Kd.R_lower HV.out HWS.out⟩, rfl⟩ (fun k hk => ⟨HFR.out k hk, fun e => by have := HOB.out k e.symm; omega⟩) (fun k hk => HFR.out k (Nat.le_trans hsz1 hk)) (Kd.R_below HR20.out HBc.out) (HBc.out.mono HWS.out) (Nat.le_trans HWS.out hsz1) (by rw [List.length_map]; omega) ?_
                                  intro v23 w23 hR23 hB23 hG23 hA23
                                  have HIR := Lib.hid (IR.take (w' := w23) (v8 := v23) HJ.out HNS2.out HR.out HLC.out HAC.out HLE.out HC.out (below_then HB20.out HB20.out.size HBc.out) hG23 (by rw [HPJ.out]; exact hR23))
                                  have HS16 := Lib.hid (show (w23.cell? ⟨atb, 0, none⟩ = some (.slice (some pd) (x.bk.length + 1) cp)) ∧ (w23.cell? ⟨atb, 1, none⟩ = some (.int .i64 x.cost)) ∧ (w23.cell? ⟨wr.heap.size, 0, none⟩ = some (.int .i64 y0)) ∧ (w23.cell? ⟨wr.heap.size, 1, none⟩ = some (.int .i64 y1)) from ⟨gcell hG23 (keepw HBc.out HQ.out.1) HN1.out, gcell hG23 (keepw HBc.out HQ.out.2.1) HN1.out, gcell hG23 (keepw HBc.out HQ.out.2.2.1) HN2.out, gcell hG23 (keepw HBc.out HQ.out.2.2.2) HN2.out⟩)
                                  clear hR23 hB23 hG23 hA23
                                  refine hK.out _ _ HS16.out (fun hHeld => ?_)
                                  clear hK K
                                  (try simp only [Act.put, List.setIfInBounds_toArray, List.set_cons_zero, List.set_cons_succ])
                                  refine pure_ (i := 17) (N := (some 8)) (v := ?_) (a' := ?_) #[true, true, true, true, true, true, true, true, true, true, true, true, true, true, true, true, true, true] rfl rfl (by kernel_rfl) (fun _ _ _ h => h) (Or.inl ⟨by rfl, ?_⟩) ?_ ?_
                                  rotate_left
                                  · intro w'
                                    go_simp
                                    with_reducible rfl
                                  rotate_left
                                  · simp only [Act.put, List.setIfInBounds_toArray, List.set_cons_zero, List.set_cons_succ]
                                    rfl
                                  refine done_ (by kernel_rfl) ?_
                                  go_wp2
                                  go_roundw
                                  case rel => exact HIR.out
                                  case measure => simp [intOf]; omega
                              · have HSK := Lib.hid (IR.skip (w' := wr.alloc (.cells #[.int .i64 y0, .int .i64 y1] 51)) HJ.out (by rw [HPJ.out]; exact .inr (by simp only; omega)) HR.out HLC.out HAC.out HLE.out HC.out ((Below.refl _ _).alloc (Nat.le_refl _) _))
                                have g2 : decide (y1 ≤ 1099511627776 - x.cost) = false := decide_eq_false hm
                                clear hn hm
                                go_wp2
                                go_roundw
                                case rel => exact HSK.out
                                case measure =>
                                  clear hok2 hok3 g1
                                  simp [intOf]
                                  exact meas _ _ hlt
                          · have hjn : j = (steps ns).length := by rw [HPSL.out]; omega
                            go_wp2
                            go_roundg k1
                            case measure => omega
                            case rel =>
                              have hL := HLC.out
                              rw [hjn, List.drop_length] at hL
                              simp only [Sr.pushes, List.append_nil] at hL
                              refine ⟨order ++ [x.st], L.eraseIdx kk ++ Sr.pushes x (steps ns) added, added + (Sr.pushes x (steps ns) added).length, .slice A9 m9 c9, vo, rfl, ?_⟩
                              have hR := HR.out
                              rw [hL] at hR
                              exact HI.out.grow HL.out HGA.out HOK.out HRW.out HRUN.out HX11.out HCW11.out HRB11.out (by rw [HNS.out, ← HKM.out]) (by rw [HNS.out]) HC.out hR
end Go.Proofs.Ytipdejalohmkpaa.Gr
