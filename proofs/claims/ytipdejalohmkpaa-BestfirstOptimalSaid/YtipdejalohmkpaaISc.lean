/- The search, walked. -/
import Derived.Test.YtipdejalohmkpaaISi
import Derived.WalkSpells
import Derived.StillTailTactics
import Derived.Deep.LoopGhost
namespace Go.Proofs.Ytipdejalohmkpaa.I
open Go.RowKit Hp Go.Proofs.YtipdejalohmkpaaW.PrintWords

/-- A problem in memory: what its methods answer in every world that grew out of W0. -/
structure PrC (p : Sr.Prob ST) (ok : ST → Prop) (pr : Value) (W0 : World) : Prop where
  key : ∀ (w : World) (s : ST), ok s → Below W0.heap.size W0 w → Calls Try.prog 69 #[pr, stV s] w fun e w' => e = .returned (.string (p.key s)) ∧ Below w.heap.size w w'
  next : ∀ (w : World) (s : ST), ok s → Below W0.heap.size W0 w → Calls Try.prog 70 #[pr, stV s] w fun e w' => ∃ v : Value, e = .returned v ∧ kst.R 102 w' w.heap.size (fun _ => True) v (p.next s) ∧ Below w.heap.size w w'
  few : ∀ s, (p.next s).length ≤ 100
  oks : ∀ s x, ok s → x ∈ p.next s → ok x.1
  mkey : ∀ w, (method 230 62 pr "Key").run Try.prog w = .ok (69, pr) w
  mnext : ∀ w, (method 230 62 pr "Next").run Try.prog w = .ok (70, pr) w
  nkey : ∀ w, (nilAhead 230 62 pr "Key").run Try.prog w = .ok (some false) w
  nnext : ∀ w, (nilAhead 230 62 pr "Next").run Try.prog w = .ok (some false) w
  mgoal : ∀ w, (method 230 62 pr "Goal").run Try.prog w = .ok (68, pr) w

/-- What the search hands back. -/
def SPost (W0 : World) (out : Sr.Out ST) (e : Ending) (w' : World) : Prop :=
  Below W0.heap.size W0 w' ∧ match out with
  | .notFound order => ∃ vo, e = .returned (.tuple #[.pointer none, vo, .int .i64 4]) ∧ w'.ownsRow W0.heap.size 3 1 vo order.length (order.map stV)
  | .budget _ => e = .returned (.tuple #[.pointer none, .slice none 0 0, .int .i64 7])
  | .found x _ => ∃ b vo d, e = .returned (.tuple #[.pointer (some ⟨b, 0, none⟩), vo, .int .i64 0]) ∧ EntAt w' b d ∧ d.st = stV x.st ∧ d.cost = x.cost ∧ EPath w' x.bk d.bf

/-- Behind the taking of the first entry. -/
def Popped (p : Sr.Prob ST) (W0 : World) (q M : Nat) (order : List ST) (vo : Value) (L : List (Sr.Ent ST)) (added : Nat) (b0 : Nat) (x : Sr.Ent ST) (w : World) : Prop :=
  ∃ pe bf l', SI p W0 q M order vo pe bf l' L added w ∧ pe b0 = x ∧ EntAt w b0 (dat pe bf b0) ∧ EPath w x.bk (bf b0)
theorem Popped.step {p : Sr.Prob ST} {W0 : World} {q M : Nat} {order : List ST} {vo : Value} {L : List (Sr.Ent ST)} {added : Nat} {b0 : Nat} {x : Sr.Ent ST} {w w' : World} (h : Popped p W0 q M order vo L added b0 x w) (hb : Below w.heap.size w w') : Popped p W0 q M order vo L added b0 x w' := by
  obtain ⟨pe, bf, l', h1, h2, h3, h4⟩ := h
  exact ⟨pe, bf, l', h1.step hb, h2, h3.below hb, h4.keep (EK.below hb)⟩
theorem Popped.c0 {p : Sr.Prob ST} {W0 : World} {q M : Nat} {order : List ST} {vo : Value} {L : List (Sr.Ent ST)} {added : Nat} {b0 : Nat} {x : Sr.Ent ST} {w : World} (h : Popped p W0 q M order vo L added b0 x w) : w.cell? ⟨b0, 0, none⟩ = some (stV x.st) := by
  obtain ⟨pe, bf, l', h1, h2, h3, h4⟩ := h
  rw [← h2]; exact h3.c0
theorem Popped.below {p : Sr.Prob ST} {W0 : World} {q M : Nat} {order : List ST} {vo : Value} {L : List (Sr.Ent ST)} {added : Nat} {b0 : Nat} {x : Sr.Ent ST} {w : World} (h : Popped p W0 q M order vo L added b0 x w) : Below W0.heap.size W0 w := by
  obtain ⟨pe, bf, l', h1, _⟩ := h
  exact h1.below
theorem Popped.set {p : Sr.Prob ST} {W0 : World} {q M : Nat} {order : List ST} {vo : Value} {L : List (Sr.Ent ST)} {added : Nat} {b0 : Nat} {x : Sr.Ent ST} {w : World} (h : Popped p W0 q M order vo L added b0 x w) : SetAt w M (order.map p.key) := by
  obtain ⟨pe, bf, l', h1, _⟩ := h
  exact h1.set
theorem pop_popped {p : Sr.Prob ST} {W0 : World} {q M : Nat} {order : List ST} {vo : Value} {pe : Nat → Sr.Ent ST} {bf : Nat → Option Addr} {l : List Nat} {L : List (Sr.Ent ST)} {added : Nat} {w : World} (h : SI p W0 q M order vo pe bf l L added w) {n : Nat} (hn : l.length = n + 1) (hl : l.length < 1000000000) :
    ∃ b0 x, L[Sr.minIdx L]? = some x ∧ Calls Try.prog 40 #[.iface 97 (.pointer (some ⟨q, 0, none⟩))] w fun e w' => e = .returned (.iface 77 (.pointer (some ⟨b0, 0, none⟩))) ∧ Popped p W0 q M order vo (L.eraseIdx (Sr.minIdx L)) added b0 x w' := by
  have hne : L ≠ [] := by rintro rfl; have := h.len; rw [hn] at this; simp at this
  obtain ⟨hlt, _⟩ := Sr.minIdx_spec L hne
  refine ⟨at_ l 0, L[Sr.minIdx L], List.getElem?_eq_getElem hlt, (hpop_any (dat pe bf) W0.heap.size q l n w h.heap hn hl).mono ?_⟩
  rintro e w' ⟨rfl, hp⟩
  obtain ⟨l', h1, h2, h3, h4⟩ := h.pop hp
  rw [List.getElem?_eq_getElem hlt] at h2
  injection h2 with h2
  refine ⟨rfl, pe, bf, l', h1, h2.symm, h3, ?_⟩
  rw [h2]; exact h4
theorem mark_append {p : Sr.Prob ST} {W0 : World} {q M : Nat} {order : List ST} {vo v1 : Value} {L : List (Sr.Ent ST)} {added : Nat} {b0 : Nat} {x : Sr.Ent ST} {w w' w1 : World} (h : Popped p W0 q M order vo L added b0 x w)
    (hset : SetAt w' M (order.map p.key ++ [p.key x.st])) (hg : w.grownBy w' (some M)) (hrow : w1.ownsRow W0.heap.size 3 1 v1 (order ++ [x.st]).length ((order ++ [x.st]).map stV)) (hB : Below W0.heap.size W0 w1) (hgr : w'.grownBy w1 vo.ownBlock) :
    Popped p W0 q M (order ++ [x.st]) v1 L added b0 x w1 := by
  obtain ⟨pe, bf, l', h1, h2, h3, h4⟩ := h
  obtain ⟨a1, a2, a3, a4, a5, a6⟩ := h1.mark x.st hset hg
  have hk := EK.row a4 hgr
  have hne : ∀ {k c t}, t ≠ 3 → w'.heap[k]? = some (.cells c t (0, 0)) → some k ≠ vo.ownBlock := by
    intro k c t ht hk' e
    obtain ⟨cells, hc⟩ := own_typed a4 k e.symm
    rw [hc] at hk'
    injection hk' with hk'
    injection hk' with _ e2
    exact ht e2.symm
  obtain ⟨v, hq, hr⟩ := a1.ex
  refine ⟨pe, bf, l', ⟨a1.grown hgr hk (hne (by decide) hq) (fun v hv => ?_), fun b hb => (a2 b hb).keep hk, h1.perm, h1.rise, a3.of_block (hgr.block M a3.lt ?_), hrow, hB, h1.q0, h1.M0⟩, h2, hk _ _ (a6 _ _ h3), (h4.keep a6).keep hk⟩
  · cases e : v.ownBlock with
    | none => exact .inl rfl
    | some k =>
      obtain ⟨cells, hc⟩ := own_typed hv k e
      exact .inr (hne (by decide) hc)
  · intro e
    obtain ⟨cells, hc⟩ := own_typed a4 M e.symm
    obtain ⟨es, cl, h5, _⟩ := a3
    rw [hc] at h5
    injection h5 with h5
    cases h5
theorem mark_c0 {p : Sr.Prob ST} {W0 : World} {q M : Nat} {order : List ST} {vo : Value} {L : List (Sr.Ent ST)} {added : Nat} {b0 : Nat} {x : Sr.Ent ST} {w w' : World} (h : Popped p W0 q M order vo L added b0 x w)
    (hset : SetAt w' M (order.map p.key ++ [p.key x.st])) (hg : w.grownBy w' (some M)) : w'.cell? ⟨b0, 0, none⟩ = some (stV x.st) ∧ w'.ownsRow W0.heap.size 3 1 vo order.length (order.map stV) ∧ Below W0.heap.size W0 w' := by
  obtain ⟨pe, bf, l', h1, h2, h3, h4⟩ := h
  obtain ⟨a1, a2, a3, a4, a5, a6⟩ := h1.mark x.st hset hg
  exact ⟨by rw [← h2]; exact (a6 _ _ h3).c0, a4, a5⟩
theorem info_st : (Try.prog.info? 3).map (fun i => (i.zero, i.size, i.bytes)) = some (some (.int .i64 0), 1, 8) := by kernel_rfl
theorem Popped.ord {p : Sr.Prob ST} {W0 : World} {q M : Nat} {order : List ST} {vo : Value} {L : List (Sr.Ent ST)} {added : Nat} {b0 : Nat} {x : Sr.Ent ST} {w : World} (h : Popped p W0 q M order vo L added b0 x w) : w.ownsRow W0.heap.size 3 1 vo order.length (order.map stV) := by
  obtain ⟨pe, bf, l', h1, _⟩ := h
  exact h1.ord
theorem Popped.c2 {p : Sr.Prob ST} {W0 : World} {q M : Nat} {order : List ST} {vo : Value} {L : List (Sr.Ent ST)} {added : Nat} {b0 : Nat} {x : Sr.Ent ST} {w : World} (h : Popped p W0 q M order vo L added b0 x w) : w.cell? ⟨b0, 2, none⟩ = some (.int .i64 x.cost) := by
  obtain ⟨pe, bf, l', h1, h2, h3, h4⟩ := h
  rw [← h2]; exact h3.c2
theorem Popped.qat {p : Sr.Prob ST} {W0 : World} {q M : Nat} {order : List ST} {vo : Value} {L : List (Sr.Ent ST)} {added : Nat} {b0 : Nat} {x : Sr.Ent ST} {w : World} (h : Popped p W0 q M order vo L added b0 x w) : ∃ v, QAt w q v := by
  obtain ⟨pe, bf, l', h1, h2, h3, h4⟩ := h
  obtain ⟨v, hq, _⟩ := h1.heap.ex
  exact ⟨v, hq⟩
theorem push_popped {p : Sr.Prob ST} {W0 : World} {q M : Nat} {order : List ST} {vo : Value} {L : List (Sr.Ent ST)} {added : Nat} {b0 : Nat} {x : Sr.Ent ST} {w : World} (h : Popped p W0 q M order vo L added b0 x w) (t : ST) (c : Int) (hadd : added < 900000000) :
    Calls Try.prog 41 #[.iface 97 (.pointer (some ⟨q, 0, none⟩)), .iface 77 (.pointer (some ⟨w.heap.size, 0, none⟩))] (mkEnt w t b0 (x.cost + c) added) fun e w' => e = .returned (.tuple #[]) ∧ Popped p W0 q M order vo (L ++ [⟨t, x.st :: x.bk, x.cost + c, added⟩]) (added + 1) b0 x w' ∧ Chg (QS W0.heap.size q w) w w' := by
  obtain ⟨pe, bf, l', h1, h2, h3, h4⟩ := h
  have hlen := h1.len
  have hlen2 := h1.rise.length
  obtain ⟨m1, m2⟩ := h1.make t b0 (x.cost + c) ⟨t, x.st :: x.bk, x.cost + c, added⟩ rfl rfl rfl
  refine (hpush_any _ W0.heap.size q l' w.heap.size (mkEnt w t b0 (x.cost + c) added) m1 m2 (by omega) (by unfold mkEnt; simp; have := h1.below.size; omega)).mono ?_
  rintro e w' ⟨rfl, hp⟩
  obtain ⟨⟨l2, s1⟩, k1, c1⟩ := h1.push t b0 (x.cost + c) ⟨t, x.st :: x.bk, x.cost + c, added⟩ x rfl h3 h2 h4 hp
  have hne : b0 ≠ w.heap.size := by have := h3.lt; omega
  refine ⟨rfl, ⟨_, _, l2, s1, ?_, ?_, ?_⟩, c1⟩
  · unfold pe1; rw [if_neg hne]; exact h2
  · have := k1 _ _ h3
    unfold dat pe1 bf1
    rw [if_neg hne, if_neg hne]
    exact this
  · unfold bf1; rw [if_neg hne]; exact h4.keep k1
theorem steps_keep {base q : Nat} {w w' : World} {u v : Value} {B : Nat} {ns : List (ST × Int)} (h : kst.R 102 w B (fun _ => True) v ns) (hq : QAt w q u) (hc : Chg (QS base q w) w w') : kst.R 102 w' B (fun _ => True) v ns := by
  refine Kd.R_mono (Kd.R_step (Kd.R_bound h) (fun k hk hlt => hc.block k hlt ?_)) (fun _ _ => trivial)
  obtain ⟨_, _, _, t, ht, cells, hcl⟩ := hk
  obtain rfl : t = 102 := by
    simp only [kst, Kd.pair, Kd.int, Kd.scalar, List.append_nil, List.mem_cons, List.not_mem_nil, or_false] at ht
    exact ht
  rintro (rfl | ⟨_, c, f, hh⟩)
  · unfold QAt at hq
    rw [hcl] at hq
    injection hq with hq
    injection hq with _ e
    exact absurd e (by decide)
  · rw [hcl] at hh
    injection hh with hh
    injection hh with _ e
    exact absurd e (by decide)
theorem at_step {w : World} {A : Option Addr} {n : Nat} {xs : List (ST × Int)} (h : kst.C w A n xs) (i : Nat) (h1 : i < n) (x : ST × Int) (hx : xs[i]? = some x) : ∃ ad, A = some ad ∧ w.cell? (ad.add (i * 2)) = some (stV x.1) ∧ w.cell? ⟨(ad.add (i * 2)).block, (ad.add (i * 2)).off + 1, none⟩ = some (.int .i64 x.2) := by
  obtain ⟨ad, c, e, _, hK, hc0⟩ := Kd.C_get h x (i : Int) (by omega) (by omega)
  rw [Int.toNat_natCast] at hK hc0
  rw [show xs.getD i x = x from by simp [hx]] at hK
  obtain ⟨_, _, rfl, rfl, rfl⟩ := hK
  have hc : ∀ j u, [stV x.1, .int .i64 x.2][j]? = some u → w.cell? (ad.add (i * 2 + j)) = some u := hc0
  exact ⟨ad, e, hc 0 _ rfl, by rw [← add_field _ _ 1 (by omega)]; exact hc 1 _ rfl⟩
theorem new_cells (w : World) (a b : Value) (t : TypeId) (n : Nat) : ((w.alloc (.cells #[a, b] t)).drewN n).cell? ⟨w.heap.size, 0, none⟩ = some a ∧ ((w.alloc (.cells #[a, b] t)).drewN n).cell? ⟨w.heap.size, 1, none⟩ = some b := by
  have h : ((w.alloc (.cells #[a, b] t)).drewN n).heap[w.heap.size]? = some (.cells #[a, b] t) := by show (w.heap.push _)[w.heap.size]? = _; simp
  constructor
  · unfold World.cell?; rw [h]; rfl
  · unfold World.cell?; rw [h]; rfl
theorem Popped.lt {p : Sr.Prob ST} {W0 : World} {q M : Nat} {order : List ST} {vo : Value} {L : List (Sr.Ent ST)} {added : Nat} {b0 : Nat} {x : Sr.Ent ST} {w : World} (h : Popped p W0 q M order vo L added b0 x w) : b0 < w.heap.size := by
  obtain ⟨pe, bf, l', h1, h2, h3, h4⟩ := h
  exact h3.lt
theorem below_new (w : World) (o : Obj) (n : Nat) : Below w.heap.size w ((w.alloc o).drewN n) := pw_below_drewN ((Below.refl _ _).alloc (Nat.le_refl _) _) n
/-- The relation of the rounds that add an expansion's entries. -/
def IRel (p : Sr.Prob ST) (W0 : World) (q M : Nat) (order : List ST) (vo : Value) (b0 : Nat) (x : Sr.Ent ST) (ns : List (ST × Int)) (Lf : List (Sr.Ent ST)) (addf : Nat) (w8 : World) (va vj : Value) (wr : World) : Prop :=
  ∃ (j : Nat) (Lc : List (Sr.Ent ST)) (addc : Nat), vj = .int .i64 j ∧ j ≤ ns.length ∧ va = .int .i64 addc ∧ Popped p W0 q M order vo Lc addc b0 x wr ∧ Lc ++ Sr.pushes x (ns.drop j) addc = Lf ∧ addc + (Sr.pushes x (ns.drop j) addc).length = addf ∧ Chg (QS W0.heap.size q w8) w8 wr
theorem IRel.skip {p : Sr.Prob ST} {W0 : World} {q M : Nat} {order : List ST} {vo : Value} {b0 : Nat} {x : Sr.Ent ST} {ns : List (ST × Int)} {Lf : List (Sr.Ent ST)} {addf : Nat} {w8 wr w' : World} {j : Nat} {Lc : List (Sr.Ent ST)} {addc : Nat} {y : ST × Int} (hy : ns[j]? = some y)
    (hp : Popped p W0 q M order vo Lc addc b0 x wr) (hL : Lc ++ Sr.pushes x (ns.drop j) addc = Lf) (ha : addc + (Sr.pushes x (ns.drop j) addc).length = addf) (hc : Chg (QS W0.heap.size q w8) w8 wr) (hs : Sr.pushes x (y :: ns.drop (j + 1)) addc = Sr.pushes x (ns.drop (j + 1)) addc) (hb : Below wr.heap.size wr w') :
    IRel p W0 q M order vo b0 x ns Lf addf w8 (.int .i64 (addc : Int)) (.int .i64 ((j : Int) + 1)) w' := by
  obtain ⟨hlt, hy'⟩ := List.getElem?_eq_some_iff.1 hy
  rw [List.drop_eq_getElem_cons hlt, hy', hs] at hL ha
  exact ⟨j + 1, Lc, addc, by simp, hlt, rfl, hp.step hb, hL, ha, hc.trans (Chg.of_below hb (fun _ => False)) (fun _ hi => hi.elim)⟩
theorem IRel.take {p : Sr.Prob ST} {W0 : World} {q M : Nat} {order : List ST} {vo : Value} {b0 : Nat} {x : Sr.Ent ST} {ns : List (ST × Int)} {Lf : List (Sr.Ent ST)} {addf : Nat} {w8 wr w9 w' : World} {j : Nat} {Lc : List (Sr.Ent ST)} {addc : Nat} {y : ST × Int} (hy : ns[j]? = some y)
    (hL : Lc ++ Sr.pushes x (ns.drop j) addc = Lf) (ha : addc + (Sr.pushes x (ns.drop j) addc).length = addf) (hc : Chg (QS W0.heap.size q w8) w8 wr) (hs : Sr.pushes x (y :: ns.drop (j + 1)) addc = ⟨y.1, x.st :: x.bk, x.cost + y.2, addc⟩ :: Sr.pushes x (ns.drop (j + 1)) (addc + 1)) (hb : Below wr.heap.size wr w9)
    (hp : Popped p W0 q M order vo (Lc ++ [⟨y.1, x.st :: x.bk, x.cost + y.2, addc⟩]) (addc + 1) b0 x w') (hc9 : Chg (QS W0.heap.size q w9) w9 w') :
    IRel p W0 q M order vo b0 x ns Lf addf w8 (.int .i64 ((addc : Int) + 1)) (.int .i64 ((j : Int) + 1)) w' := by
  obtain ⟨hlt, hy'⟩ := List.getElem?_eq_some_iff.1 hy
  rw [List.drop_eq_getElem_cons hlt, hy', hs] at hL ha
  refine ⟨j + 1, _, addc + 1, by simp, hlt, by simp, hp, by rw [← hL]; simp, by rw [← ha]; simp; omega, QS.trans (hc.trans (Chg.of_below hb (fun _ => False)) (fun _ hi => hi.elim)) hc9⟩
theorem chg_of_below {base q : Nat} {w8 w w' : World} (h : Chg (QS base q w8) w8 w) (hb : Below w.heap.size w w') : Chg (QS base q w8) w8 w' := h.trans (Chg.of_below hb (fun _ => False)) (fun _ hi => hi.elim)
theorem chg_trans {base q : Nat} {w8 w w' : World} (h : Chg (QS base q w8) w8 w) (k : Chg (QS base q w) w w') : Chg (QS base q w8) w8 w' := QS.trans h k
theorem pushes_len (x : Sr.Ent ST) : ∀ (r : List (ST × Int)) (n : Nat), (Sr.pushes x r n).length ≤ r.length := by
  intro r
  induction r with
  | nil => intro n; simp [Sr.pushes]
  | cons y r ih =>
    intro n
    unfold Sr.pushes
    split
    · have := ih n; simp; omega
    · have := ih (n + 1); simp; omega
theorem pushes_skip (x : Sr.Ent ST) (y : ST × Int) (r : List (ST × Int)) (n : Nat) (h : y.2 < 0 ∨ y.2 > Sr.maxCount - x.cost) : Sr.pushes x (y :: r) n = Sr.pushes x r n := by
  conv => lhs; unfold Sr.pushes
  rw [if_pos h]
theorem pushes_take (x : Sr.Ent ST) (y : ST × Int) (r : List (ST × Int)) (n : Nat) (h : ¬ (y.2 < 0 ∨ y.2 > Sr.maxCount - x.cost)) : Sr.pushes x (y :: r) n = ⟨y.1, x.st :: x.bk, x.cost + y.2, n⟩ :: Sr.pushes x r (n + 1) := by
  conv => lhs; unfold Sr.pushes
  rw [if_neg h]
theorem pushes_ok {ok : ST → Prop} (x : Sr.Ent ST) (hx : 0 ≤ x.cost ∧ x.cost ≤ Sr.maxCount) : ∀ (r : List (ST × Int)) (n : Nat), (∀ y ∈ r, ok y.1) → ∀ e ∈ Sr.pushes x r n, ok e.st ∧ 0 ≤ e.cost ∧ e.cost ≤ Sr.maxCount := by
  intro r
  induction r with
  | nil => intro n _ e he; simp [Sr.pushes] at he
  | cons y r ih =>
    intro n hr e he
    by_cases h : y.2 < 0 ∨ y.2 > Sr.maxCount - x.cost
    · rw [pushes_skip x y r n h] at he
      exact ih n (fun z hz => hr z (by simp [hz])) e he
    · rw [pushes_take x y r n h] at he
      rcases List.mem_cons.1 he with rfl | he
      · exact ⟨hr y (by simp), by simp only; omega, by simp only; omega⟩
      · exact ih (n + 1) (fun z hz => hr z (by simp [hz])) e he
theorem I_assert : ∀ (v : Value) (w : World), (Instr.typeAssert (.iface 77 v) 20 77 false).run Try.prog w = .ok v w := fun _ _ => by kernel_rfl

/-- The relation of the search's rounds. -/
def SRel (p : Sr.Prob ST) (ok : ST → Prop) (goal : ST → Bool) (budget : Nat) (W0 : World) (q M : Nat) (out : Sr.Out ST) (kq : Nat) (order : List ST) (vo : Value) (L : List (Sr.Ent ST)) (added : Nat) (l : List Nat) (w : World) : Prop :=
  (∃ pe bf, SI p W0 q M order vo pe bf l L added w) ∧ (∀ e ∈ L, ok e.st ∧ 0 ≤ e.cost ∧ e.cost ≤ Sr.maxCount) ∧ order.length ≤ budget ∧ added ≤ 1 + 100 * order.length ∧ Sr.run p goal budget kq L order added = some out

def SRelV (p : Sr.Prob ST) (ok : ST → Prop) (goal : ST → Bool) (budget : Nat) (W0 : World) (q M : Nat) (out : Sr.Out ST) (kq : Nat) (vo va : Value) (wr : World) : Prop :=
  ∃ (order : List ST) (L : List (Sr.Ent ST)) (added : Nat) (l : List Nat) (vo1 : Value), va = .int .i64 added ∧ vo1 = vo ∧ SRel p ok goal budget W0 q M out kq order vo1 L added l wr

theorem start_rel (p : Sr.Prob ST) (ok : ST → Prop) (goal : ST → Bool) (budget : Nat) (W0 : World) (s0 : ST) (out : Sr.Out ST) (k : Nat) (hok : ok s0) (hrun : Sr.run p goal budget k [⟨s0, [], 0, 0⟩] [] 1 = some out) :
    SRel p ok goal budget W0 (W0.heap.size + 1 + 1) (W0.heap.size + 1 + 1 + 1) out k [] (.slice none 0 0) [⟨s0, [], 0, 0⟩] 1 [W0.heap.size]
      ((((W0.alloc (.cells #[stV s0, .pointer none, .int .i64 0, .int .i64 0] 82)).alloc (.cells #[.pointer (some ⟨W0.heap.size, 0, none⟩)] 77)).alloc (.cells #[.slice (some ⟨W0.heap.size + 1, 0, none⟩) 1 1] 99)).alloc (.map #[] 0)) := by
  have e0 : ∀ (w : World) (o : Obj) (n : Nat), n = w.heap.size → (w.alloc o).heap[n]? = some o := fun w o n e => by subst e; show (w.heap.push o)[w.heap.size]? = _; simp
  have b0 : ∀ (w : World) (o o' : Obj) (n : Nat), n = w.heap.size → ((w.alloc o).alloc o').heap[n]? = some o := fun w o o' n e => by
    rw [Below.heap_alloc _ _ _ (by simp; omega)]; exact e0 w o n e
  have m0 : ∀ (w : World) (n : Nat), n = w.heap.size → SetAt (w.alloc (.map #[] 0)) n [] := fun w n e => by subst e; exact SetAt.made w
  refine ⟨⟨fun _ => ⟨s0, [], 0, 0⟩, fun _ => none, ⟨⟨⟨.slice (some ⟨W0.heap.size + 1, 0, none⟩) 1 1, ?_, ?_⟩, ?_, ?_⟩, ?_, ?_, ?_, ?_, own_nil _ _ _ _, ?_, ?_, ?_⟩⟩, ?_, by simp, by simp, hrun⟩
  · exact b0 _ _ _ _ (by simp)
  · refine (World.ownsRow.alloc (World.ownsRow.alloc ⟨by simp, .inr ⟨W0.heap.size + 1, 1, #[.pointer (some ⟨W0.heap.size, 0, none⟩)], rfl, by omega, ?_, by simp, by simp [maxLen], by simp, by simp [ptrV]⟩⟩ _) _)
    exact e0 _ _ _ (by simp)
  · intro e he
    obtain rfl : e = W0.heap.size := by simpa using he
    unfold EntAt
    rw [Below.heap_alloc _ _ _ (by simp; omega), Below.heap_alloc _ _ _ (by simp; omega), Below.heap_alloc _ _ _ (by simp), e0 _ _ _ rfl]
    rfl
  · intro k h0 hk; simp at hk; omega
  · intro b _; rfl
  · simp
  · exact ⟨by simp, by simp⟩
  · exact m0 _ _ (by simp)
  · exact ((((Below.refl _ _).alloc (Nat.le_refl _) _).alloc (by simp) _).alloc (by simp; omega) _).alloc (by simp; omega) _
  · omega
  · omega
  · intro e he
    obtain rfl : e = ⟨s0, [], 0, 0⟩ := by simpa using he
    exact ⟨hok, by simp, by simp [Sr.maxCount]⟩

end Go.Proofs.Ytipdejalohmkpaa.I
