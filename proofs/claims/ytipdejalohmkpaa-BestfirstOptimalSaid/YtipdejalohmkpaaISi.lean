/- What the search keeps in memory, and what each of its steps does to it. -/
import Derived.Test.YtipdejalohmkpaaIP
import Derived.Test.YtipdejalohmkpaaSr
import Derived.Test.YtipdejalohmkpaaMp
import Derived.Test.YtipdejalohmkpaaGr
namespace Go.Proofs.Ytipdejalohmkpaa.I
open Go.RowKit Hp Go.Proofs.YtipdejalohmkpaaW.PrintWords

abbrev ST : Type := Int
def stV : ST → Value := fun s => .int .i64 s
/-- The kind of a step's cells: where it leads, and its cost. -/
def kst : Kd (ST × Int) := Kd.pair (Kd.int .i64) (Kd.int .i64)
/-- The states before an entry, the last one first, by the entries' chain. -/
def EPath (w : World) : List ST → Option Addr → Prop
  | [], a => a = none
  | s :: r, a => ∃ e d, a = some ⟨e, 0, none⟩ ∧ EntAt w e d ∧ d.st = stV s ∧ EPath w r d.bf
def EK (w w' : World) : Prop := ∀ e d, EntAt w e d → EntAt w' e d
theorem EPath.keep {w w' : World} (h : EK w w') : ∀ {l : List ST} {a : Option Addr}, EPath w l a → EPath w' l a
  | [], _, h1 => h1
  | _ :: _, _, ⟨e, d, h1, h2, h3, h4⟩ => ⟨e, d, h1, h e d h2, h3, EPath.keep h h4⟩
theorem EK.below {w w' : World} (h : Below w.heap.size w w') : EK w w' := fun _ _ he => he.below h
theorem EK.trans {a b c : World} (h : EK a b) (k : EK b c) : EK a c := fun e d he => k e d (h e d he)
theorem EK.qs {base q : Nat} {u : Value} {w w' : World} (hq : QAt w q u) (h : Chg (QS base q w) w w') : EK w w' := fun _ _ he => he.chg h (QS.not_ent hq he)
theorem EK.map {w w' : World} {b : Nat} {ks : List ByteArray} (hs : SetAt w b ks) (h : w.grownBy w' (some b)) : EK w w' := fun e d he => he.of_block (h.block e he.lt (by
  rintro hk
  injection hk with hk
  subst hk
  obtain ⟨es, cl, h1, _⟩ := hs
  unfold EntAt at he
  rw [he] at h1
  injection h1 with h1
  cases h1))
theorem EK.row {w w' : World} {base : Nat} {v : Value} {n : Nat} {xs : List Value} (hr : w.ownsRow base 3 1 v n xs) (h : w.grownBy w' v.ownBlock) : EK w w' := fun e d he => he.of_block (h.block e he.lt (by
  intro hk
  obtain ⟨cells, hc⟩ := own_typed hr e hk.symm
  unfold EntAt at he
  rw [hc] at he
  injection he with he
  injection he with _ ht
  exact absurd ht (by decide)))

def dat (pe : Nat → Sr.Ent ST) (bf : Nat → Option Addr) (b : Nat) : EntD := ⟨stV (pe b).st, bf b, (pe b).cost, (pe b).num⟩
structure SI (p : Sr.Prob ST) (W0 : World) (q M : Nat) (order : List ST) (vo : Value) (pe : Nat → Sr.Ent ST) (bf : Nat → Option Addr) (l : List Nat) (L : List (Sr.Ent ST)) (added : Nat) (w : World) : Prop where
  heap : HeapAt (dat pe bf) W0.heap.size q l w
  path : ∀ b ∈ l, EPath w (pe b).bk (bf b)
  perm : (l.map pe).Perm L
  rise : Sr.Rising L added
  set : SetAt w M (order.map p.key)
  ord : w.ownsRow W0.heap.size 3 1 vo order.length (order.map stV)
  below : Below W0.heap.size W0 w
  q0 : W0.heap.size ≤ q
  M0 : W0.heap.size ≤ M

section
variable {p : Sr.Prob ST} {W0 : World} {q M : Nat} {order : List ST} {vo : Value} {pe : Nat → Sr.Ent ST} {bf : Nat → Option Addr} {l : List Nat} {L : List (Sr.Ent ST)} {added : Nat} {w w' : World}

theorem HeapAt.below {D : Nat → EntD} {base : Nat} (h : HeapAt D base q l w) (hb : Below w.heap.size w w') : HeapAt D base q l w' := by
  obtain ⟨⟨v, hq, hr⟩, he, hh⟩ := h
  exact ⟨⟨v, hq.of_block (hb.block q hq.lt), hr.below hb⟩, fun e hm => (he e hm).below hb, hh⟩
theorem HeapAt.grown {D : Nat → EntD} {base : Nat} {row : Option Nat} (h : HeapAt D base q l w) (hg : w.grownBy w' row) (hk : EK w w') (hq : some q ≠ row) (hr : ∀ v, RowOf w base v l → v.ownBlock = none ∨ v.ownBlock ≠ row) : HeapAt D base q l w' := by
  obtain ⟨⟨v, hq1, hr1⟩, he, hh⟩ := h
  exact ⟨⟨v, hq1.of_block (hg.block q hq1.lt hq), hr1.kept hg (hr v hr1)⟩, fun e hm => hk e _ (he e hm), hh⟩
theorem below_lower {B : Nat} {a b c : World} (h : Below B a b) (k : Below b.heap.size b c) (hB : B ≤ b.heap.size) : Below B a c := h.trans (k.mono hB)
theorem SI.step (h : SI p W0 q M order vo pe bf l L added w) (hb : Below w.heap.size w w') : SI p W0 q M order vo pe bf l L added w' :=
  ⟨h.heap.below hb, fun b hm => (h.path b hm).keep (EK.below hb), h.perm, h.rise, h.set.of_block (hb.block M h.set.lt), pw_own_below h.ord hb, below_lower h.below hb h.below.size, h.q0, h.M0⟩
theorem SI.len (h : SI p W0 q M order vo pe bf l L added w) : l.length = L.length := by have := h.perm.length_eq; simpa using this

theorem not_row_qs {base : Nat} {u v : Value} {n : Nat} {xs : List Value} (hq : QAt w q u) (hr : w.ownsRow base 3 1 v n xs) (hc : Chg (QS base q w) w w') : w'.ownsRow base 3 1 v n xs := own_move hr (fun k hk => hc.block k (own_lt hr k hk) (by
  obtain ⟨cells, hcl⟩ := own_typed hr k hk
  rintro (rfl | ⟨_, c, f, hh⟩)
  · unfold QAt at hq
    rw [hcl] at hq
    injection hq with hq
    injection hq with _ ht
    exact absurd ht (by decide)
  · rw [hcl] at hh
    injection hh with hh
    injection hh with _ ht
    exact absurd ht (by decide)))
theorem not_set_qs {base : Nat} {u : Value} {ks : List ByteArray} (hq : QAt w q u) (hs : SetAt w M ks) (hc : Chg (QS base q w) w w') : SetAt w' M ks := hs.of_block (hc.block M hs.lt (by
  obtain ⟨es, cl, h1, _⟩ := hs
  rintro (rfl | ⟨_, c, f, hh⟩)
  · unfold QAt at hq
    rw [hq] at h1
    injection h1 with h1
    cases h1
  · rw [hh] at h1
    injection h1 with h1
    cases h1))

theorem SI.pop (h : SI p W0 q M order vo pe bf l L added w) (hp : HPopPost (dat pe bf) W0.heap.size q l w w') :
    ∃ l', SI p W0 q M order vo pe bf l' (L.eraseIdx (Sr.minIdx L)) added w' ∧ L[Sr.minIdx L]? = some (pe (at_ l 0)) ∧ EntAt w' (at_ l 0) (dat pe bf (at_ l 0)) ∧ EPath w' (pe (at_ l 0)).bk (bf (at_ l 0)) := by
  obtain ⟨l', hperm, hheap, hchg⟩ := hp
  obtain ⟨v, hq, hr⟩ := h.heap.ex
  have hk := EK.qs hq hchg
  have h0 : at_ l 0 ∈ l := hperm.mem_iff.1 (by simp)
  have hp2 : (pe (at_ l 0) :: l'.map pe).Perm L := ((hperm.map pe).trans h.perm)
  have hmin : ∀ y ∈ L, (pe (at_ l 0)).cost < y.cost ∨ ((pe (at_ l 0)).cost = y.cost ∧ (pe (at_ l 0)).num ≤ y.num) := by
    intro y hy
    obtain ⟨b, hb, rfl⟩ := List.mem_map.1 (h.perm.mem_iff.2 hy)
    obtain ⟨k, hkl, hkb⟩ := List.getElem_of_mem hb
    have := heap_root h.heap.heap k hkl
    rw [leK_iff] at this
    rw [show at_ l k = b from by simp [at_, List.getElem?_eq_getElem hkl, hkb]] at this
    simp only [kf, dat, EntD.key] at this
    omega
  obtain ⟨e1, e2⟩ := Sr.min_head h.rise hp2 hmin
  refine ⟨l', ⟨hheap, fun b hb => (h.path b (hperm.mem_iff.1 (List.mem_cons_of_mem _ hb))).keep hk, e2, h.rise.erase _, not_set_qs hq h.set hchg, not_row_qs hq h.ord hchg, ?_, h.q0, h.M0⟩, e1, hk _ _ (h.heap.ents _ h0), (h.path _ h0).keep hk⟩
  exact h.below.trans (hchg.below h.below.size (by
    rintro k (rfl | ⟨hb, _⟩)
    · exact h.q0
    · exact hb))

theorem heap_congr {D D' : Nat → EntD} {base : Nat} (h : HeapAt D base q l w) (he : ∀ b ∈ l, D' b = D b) : HeapAt D' base q l w := by
  refine ⟨h.ex, fun b hb => by rw [he b hb]; exact h.ents b hb, fun k h0 hk => ?_⟩
  have m1 : at_ l k ∈ l := by simp [at_, List.getElem?_eq_getElem hk]
  have m2 : at_ l ((k - 1) / 2) ∈ l := by simp [at_, List.getElem?_eq_getElem (show (k - 1) / 2 < l.length by omega)]
  unfold kf
  rw [he _ m1, he _ m2]
  exact h.heap k h0 hk
/-- The world behind the making of an entry. -/
def mkEnt (w : World) (t : ST) (b0 : Nat) (cost : Int) (num : Nat) : World := w.alloc (.cells #[stV t, .pointer (some ⟨b0, 0, none⟩), .int .i64 cost, .int .i64 (num : Int)] 82)
theorem mkEnt_at (w : World) (t : ST) (b0 : Nat) (cost : Int) (num : Nat) : EntAt (mkEnt w t b0 cost num) w.heap.size ⟨stV t, some ⟨b0, 0, none⟩, cost, num⟩ := by
  show (w.heap.push _)[w.heap.size]? = _
  simp
def pe1 (pe : Nat → Sr.Ent ST) (x : Nat) (e : Sr.Ent ST) : Nat → Sr.Ent ST := fun b => if b = x then e else pe b
def bf1 (bf : Nat → Option Addr) (x b0 : Nat) : Nat → Option Addr := fun b => if b = x then some ⟨b0, 0, none⟩ else bf b
theorem SI.make (h : SI p W0 q M order vo pe bf l L added w) (t : ST) (b0 : Nat) (cost : Int) (e : Sr.Ent ST) (he : e.st = t) (hc : e.cost = cost) (hn : e.num = added) :
    HeapAt (dat (pe1 pe w.heap.size e) (bf1 bf w.heap.size b0)) W0.heap.size q l (mkEnt w t b0 cost added) ∧ EntAt (mkEnt w t b0 cost added) w.heap.size (dat (pe1 pe w.heap.size e) (bf1 bf w.heap.size b0) w.heap.size) := by
  have hb : Below w.heap.size w (mkEnt w t b0 cost added) := (Below.refl _ _).alloc (Nat.le_refl _) _
  refine ⟨heap_congr (h.heap.below hb) (fun b hb' => ?_), ?_⟩
  · have := (h.heap.ents b hb').lt
    unfold dat pe1 bf1
    rw [if_neg (by omega), if_neg (by omega)]
  · have := mkEnt_at w t b0 cost added
    unfold dat pe1 bf1
    rw [if_pos rfl, if_pos rfl, he, hc, hn]
    exact this
theorem SI.push (h : SI p W0 q M order vo pe bf l L added w) (t : ST) (b0 : Nat) (cost : Int) (e x : Sr.Ent ST) (he : e = ⟨t, x.st :: x.bk, cost, added⟩) (hb0 : EntAt w b0 (dat pe bf b0)) (hx : pe b0 = x) (hpath : EPath w x.bk (bf b0))
    (hp : HPushPost (dat (pe1 pe w.heap.size e) (bf1 bf w.heap.size b0)) W0.heap.size q l w.heap.size (mkEnt w t b0 cost added) w') :
    (∃ l', SI p W0 q M order vo (pe1 pe w.heap.size e) (bf1 bf w.heap.size b0) l' (L ++ [e]) (added + 1) w') ∧ EK w w' ∧ Chg (QS W0.heap.size q w) w w' := by
  obtain ⟨l', hperm, hheap, hchg⟩ := hp
  have hb : Below w.heap.size w (mkEnt w t b0 cost added) := (Below.refl _ _).alloc (Nat.le_refl _) _
  obtain ⟨v, hq, hr⟩ := h.heap.ex
  have hq1 : QAt (mkEnt w t b0 cost added) q v := hq.of_block (hb.block q hq.lt)
  have hk : EK w w' := (EK.below hb).trans (EK.qs hq1 hchg)
  have hk1 : EK (mkEnt w t b0 cost added) w' := EK.qs hq1 hchg
  have hlt : ∀ b ∈ l, b ≠ w.heap.size := fun b hm => by have := (h.heap.ents b hm).lt; omega
  have hchg' : Chg (QS W0.heap.size q w) w w' := by
    refine (Chg.of_below hb _).trans hchg (fun i hi => ?_)
    by_cases hil : i < w.heap.size
    · rcases hi with rfl | ⟨h1, c, f, h2⟩
      · exact .inl (.inl rfl)
      · exact .inl (.inr ⟨h1, c, f, by rw [hb.block i hil] at h2; exact h2⟩)
    · exact .inr (by omega)
  refine ⟨⟨l', hheap, fun b hbm => ?_, ?_, ?_, not_set_qs hq1 (h.set.of_block (hb.block M h.set.lt)) hchg, not_row_qs hq1 (pw_own_below h.ord hb) hchg, ?_, h.q0, h.M0⟩, hk, hchg'⟩
  · rcases List.mem_append.1 (hperm.mem_iff.1 hbm) with hbl | hbl
    · have hne := hlt b hbl
      unfold pe1 bf1
      rw [if_neg hne, if_neg hne]
      exact (h.path b hbl).keep hk
    · obtain rfl : b = w.heap.size := by simpa using hbl
      unfold pe1 bf1
      rw [if_pos rfl, if_pos rfl, he]
      refine ⟨b0, dat pe bf b0, rfl, hk _ _ hb0, ?_, ?_⟩
      · show stV (pe b0).st = _; rw [hx]
      · exact hpath.keep hk
  · have h1 : (l ++ [w.heap.size]).map (pe1 pe w.heap.size e) = l.map pe ++ [e] := by
      rw [List.map_append]
      congr 1
      · exact List.map_congr_left (fun b hm => by unfold pe1; rw [if_neg (hlt b hm)])
      · simp [pe1]
    have h2 := hperm.map (pe1 pe w.heap.size e)
    rw [h1] at h2
    exact h2.trans (h.perm.append_right _)
  · refine ⟨List.pairwise_append.2 ⟨h.rise.1, by simp, fun a ha b hbm => ?_⟩, fun y hy => ?_⟩
    · obtain rfl : b = e := by simpa using hbm
      have := h.rise.2 a ha
      rw [he]; exact this
    · rcases List.mem_append.1 hy with hy | hy
      · have := h.rise.2 y hy; omega
      · obtain rfl : y = e := by simpa using hy
        rw [he]; exact Nat.lt_succ_self _
  · exact h.below.trans (hchg'.below h.below.size (by
      rintro k (rfl | ⟨hb', _⟩)
      · exact h.q0
      · exact hb'))

theorem SI.mark (h : SI p W0 q M order vo pe bf l L added w) (s : ST) (hs : SetAt w' M ((order.map p.key) ++ [p.key s])) (hg : w.grownBy w' (some M)) : 
    HeapAt (dat pe bf) W0.heap.size q l w' ∧ (∀ b ∈ l, EPath w' (pe b).bk (bf b)) ∧ SetAt w' M ((order ++ [s]).map p.key) ∧ w'.ownsRow W0.heap.size 3 1 vo order.length (order.map stV) ∧ Below W0.heap.size W0 w' ∧ EK w w' := by
  have hk := EK.map h.set hg
  have hcell : ∀ {k c t f}, w.heap[k]? = some (.cells c t f) → k ≠ M := by
    rintro k c t f hk' rfl
    obtain ⟨es, cl, h1, _⟩ := h.set
    rw [hk'] at h1
    injection h1 with h1
    cases h1
  obtain ⟨v, hq, hr⟩ := h.heap.ex
  refine ⟨h.heap.grown hg hk (fun e => hcell hq (by injection e)) (fun v hv => ?_), fun b hb => (h.path b hb).keep hk, by rw [List.map_append]; exact hs, h.ord.kept hg ?_, h.below.grown hg h.below.size (fun k e => by injection e with e; subst e; exact h.M0), hk⟩
  · cases e : v.ownBlock with
    | none => exact .inl rfl
    | some k =>
      obtain ⟨cells, hc⟩ := own_typed hv k e
      exact .inr (fun e' => hcell hc (by injection e'))
  · cases e : vo.ownBlock with
    | none => exact .inl rfl
    | some k =>
      obtain ⟨cells, hc⟩ := own_typed h.ord k e
      exact .inr (fun e' => hcell hc (by injection e'))
end
end Go.Proofs.Ytipdejalohmkpaa.I
