/- The queue's Push and Pop, and what a queue's methods are through the heap's interface. -/
import Derived.Test.YtipdejalohmkpaaIQ
import Derived.Deep.AppendLies
import Derived.Deep.RegionLaw
namespace Go.Proofs.Ytipdejalohmkpaa.I
open Go.RowKit Hp

/-- The world w' is w, but for blocks in S and new ones. -/
structure Chg (S : Nat → Prop) (w w' : World) : Prop where
  os : w'.os = w.os
  tape : w'.tape = w.tape
  output : w'.output = w.output
  size : w.heap.size ≤ w'.heap.size
  block : ∀ k, k < w.heap.size → ¬ S k → w'.heap[k]? = w.heap[k]?
theorem Chg.refl (S : Nat → Prop) (w : World) : Chg S w w := ⟨rfl, rfl, rfl, Nat.le_refl _, fun _ _ _ => rfl⟩
theorem Chg.trans {S T : Nat → Prop} {a b c : World} (h : Chg S a b) (k : Chg T b c) (hs : ∀ i, T i → S i ∨ a.heap.size ≤ i) : Chg S a c :=
  ⟨k.os.trans h.os, k.tape.trans h.tape, k.output.trans h.output, Nat.le_trans h.size k.size, fun i hi hn => (k.block i (Nat.lt_of_lt_of_le hi h.size) (fun ht => by rcases hs i ht with h1 | h1; exact hn h1; omega)).trans (h.block i hi hn)⟩
theorem Chg.mono {S T : Nat → Prop} {a b : World} (h : Chg S a b) (hs : ∀ i, S i → T i) : Chg T a b := ⟨h.os, h.tape, h.output, h.size, fun i hi hn => h.block i hi (fun hk => hn (hs i hk))⟩
theorem Chg.of_grown {w w' : World} {row : Option Nat} (h : w.grownBy w' row) : Chg (fun k => some k = row) w w' := ⟨h.os, h.tape, h.output, h.size, fun k hk hn => h.block k hk hn⟩
theorem Chg.of_below {w w' : World} (h : Below w.heap.size w w') (S : Nat → Prop) : Chg S w w' := ⟨h.os, h.tape, h.output, h.size, fun k hk _ => h.block k hk⟩
theorem Chg.drewN {S : Nat → Prop} {w w' : World} (h : Chg S w w') (n : Nat) : Chg S w (w'.drewN n) := ⟨h.os, h.tape, h.output, h.size, h.block⟩
theorem Chg.drew {S : Nat → Prop} {w w' : World} (h : Chg S w w') : Chg S w w'.drew := ⟨h.os, h.tape, h.output, h.size, h.block⟩
theorem Chg.setCell {S : Nat → Prop} {w w' : World} (h : Chg S w w') {p : Addr} (hp : S p.block ∨ w.heap.size ≤ p.block) (u : Value) : Chg S w (w'.setCell p u) :=
  ⟨h.os, h.tape, h.output, by simp [World.setCell]; exact h.size, fun k hk hn => (Below.heap_setCell _ _ _ _ (by rintro rfl; rcases hp with h1 | h1; exact hn h1; omega)).trans (h.block k hk hn)⟩
theorem Chg.alloc {S : Nat → Prop} {w w' : World} (h : Chg S w w') (o : Obj) : Chg S w (w'.alloc o) :=
  ⟨h.os, h.tape, h.output, by simp; exact Nat.le_succ_of_le h.size, fun k hk hn => (Below.heap_alloc _ _ _ (Nat.lt_of_lt_of_le hk h.size)).trans (h.block k hk hn)⟩
theorem Chg.below {S : Nat → Prop} {w w' : World} {B : Nat} (h : Chg S w w') (hB : B ≤ w.heap.size) (hs : ∀ k, S k → B ≤ k) : Below B w w' :=
  ⟨h.os, h.tape, h.output, h.size, fun k hk => h.block k (Nat.lt_of_lt_of_le hk hB) (fun hk' => by have := hs k hk'; omega)⟩
theorem EntAt.chg {S : Nat → Prop} {w w' : World} {e : Nat} {d : EntD} (h : EntAt w e d) (hc : Chg S w w') (hn : ¬ S e) : EntAt w' e d := h.of_block (hc.block e h.lt hn)

/-- The cell that holds a queue. -/
def QAt (w : World) (q : Nat) (v : Value) : Prop := w.heap[q]? = some (.cells #[v] 99 (0, 0))
theorem QAt.cell {w : World} {q : Nat} {v : Value} (h : QAt w q v) : w.cell? ⟨q, 0, none⟩ = some v := by unfold QAt at h; simp [World.cell?, h]
theorem QAt.frozen {w : World} {q : Nat} {v : Value} (h : QAt w q v) : w.frozen? ⟨q, 0, none⟩ = false := by unfold QAt at h; simp [World.frozen?, h]
theorem QAt.lt {w : World} {q : Nat} {v : Value} (h : QAt w q v) : q < w.heap.size := (Array.getElem?_eq_some_iff.1 h).1
theorem QAt.of_block {w w' : World} {q : Nat} {v : Value} (h : QAt w q v) (hb : w'.heap[q]? = w.heap[q]?) : QAt w' q v := hb.trans h
theorem QAt.ne_row {w : World} {q : Nat} {u v : Value} {base : Nat} {l : List Nat} (h : QAt w q u) (hr : RowOf w base v l) : some q ≠ v.ownBlock := by
  intro hk
  rcases hr.2 with ⟨rfl, _⟩ | ⟨g, cap, cur, rfl, _, hh, _⟩
  · simp [Value.ownBlock] at hk
  · have : q = g := by simpa [Value.ownBlock] using hk
    subst this
    unfold QAt at h
    rw [hh] at h
    injection h with h
    injection h with _ ht
    exact absurd ht (by decide)
theorem QAt.ne_ent {w : World} {q : Nat} {u : Value} {e : Nat} {d : EntD} (h : QAt w q u) (he : EntAt w e d) : e ≠ q := by
  rintro rfl
  unfold QAt at h
  unfold EntAt at he
  rw [h] at he
  injection he with he
  injection he with _ ht
  exact absurd ht (by decide)
theorem QAt.set {w : World} {q : Nat} {v : Value} (h : QAt w q v) (u : Value) : QAt (w.setCell ⟨q, 0, none⟩ u) q u := by
  unfold QAt at *
  simp [World.setCell, Array.getElem?_modify, h]

theorem meth_less (a : Addr) (w : World) (v : Value) (h : w.cell? a = some v) : (method 230 97 (.pointer (some a)) "Less").run Try.prog w = .ok (75, v) w := by
  have e : (method 230 97 (.pointer (some a)) "Less").run Try.prog w = (Sem.load .plain a fun v => .pure (75, v)).run Try.prog w := by kernel_rfl
  rw [e]; simp only [Sem.run, h]
theorem meth_len (a : Addr) (w : World) (v : Value) (h : w.cell? a = some v) : (method 230 97 (.pointer (some a)) "Len").run Try.prog w = .ok (43, v) w := by
  have e : (method 230 97 (.pointer (some a)) "Len").run Try.prog w = (Sem.load .plain a fun v => .pure (43, v)).run Try.prog w := by kernel_rfl
  rw [e]; simp only [Sem.run, h]
theorem meth_swap (a : Addr) (w : World) (v : Value) (h : w.cell? a = some v) : (method 230 97 (.pointer (some a)) "Swap").run Try.prog w = .ok (78, v) w := by
  have e : (method 230 97 (.pointer (some a)) "Swap").run Try.prog w = (Sem.load .plain a fun v => .pure (78, v)).run Try.prog w := by kernel_rfl
  rw [e]; simp only [Sem.run, h]
theorem meth_push (a : Addr) (w : World) : (method 230 97 (.pointer (some a)) "Push").run Try.prog w = .ok (77, .pointer (some a)) w := by kernel_rfl
theorem meth_pop (a : Addr) (w : World) : (method 230 97 (.pointer (some a)) "Pop").run Try.prog w = .ok (76, .pointer (some a)) w := by kernel_rfl

def PopPost (base q : Nat) (l : List Nat) (w w' : World) : Prop := ∃ v', QAt w' q v' ∧ RowOf w' base v' l ∧ Chg (fun k => k = q) w w'
set_option maxHeartbeats 400000 in
theorem pop_cells (q g n cap e : Nat) (w : World) (hn : n < 140737488355328) (hcap : n + 1 ≤ cap)
    (hq : w.cell? ⟨q, 0, none⟩ = some (.slice (some ⟨g, 0, none⟩) (n + 1) cap)) (hf : w.frozen? ⟨q, 0, none⟩ = false) (hg : w.cell? ⟨g, n, none⟩ = some (.pointer (some ⟨e, 0, none⟩))) :
    Calls Try.prog 76 #[.pointer (some ⟨q, 0, none⟩)] w fun x w' => x = .returned (.iface 77 (.pointer (some ⟨e, 0, none⟩))) ∧ w' = w.setCell ⟨q, 0, none⟩ (.slice (some ⟨g, 0, none⟩) n cap) := by
  go_enter Try.func76, Try.ntmps76
  go_wp2
  go_ret
  exact ⟨rfl, rfl⟩
/-- Pop takes the last entry off a row. -/
theorem pop_any (base q : Nat) (v : Value) (l : List Nat) (x : Nat) (w : World) (hq : QAt w q v) (hr : RowOf w base v (l ++ [x])) (hl : l.length < 140737488355328) :
    Calls Try.prog 76 #[.pointer (some ⟨q, 0, none⟩)] w fun e w' => e = .returned (.iface 77 (ptrV x)) ∧ PopPost base q l w w' := by
  have hne := hq.ne_row hr
  obtain ⟨h1, h2⟩ := id hr
  rcases h2 with ⟨_, h0⟩ | ⟨g, cap, cur, hv, hg, hh, hn, hcap, hsz, htake⟩
  · simp at h0
  · have hlen : (l ++ [x]).length = l.length + 1 := by simp
    rw [hlen] at hv hn htake
    subst hv
    have hc := hr.cell l.length (by simp)
    rw [show at_ (l ++ [x]) l.length = x from by simp [at_]] at hc
    refine (pop_cells q g l.length cap x w hl hn hq.cell hq.frozen hc).mono ?_
    rintro e w' ⟨rfl, rfl⟩
    refine ⟨rfl, _, hq.set _, ?_, (Chg.refl (fun k => k = q) w).setCell (p := ⟨q, 0, none⟩) (.inl rfl) _⟩
    have hp : w.ownsRow base 77 1 (.slice (some ⟨g, 0, none⟩) l.length cap) l.length (l.map ptrV) := ownsRow_pop (last := [ptrV x]) (by simp) (by have := hr; unfold RowOf at this; rw [hlen] at this; simpa using this)
    exact ownsRow_setCell_other hp (by intro hk; exact hne hk.symm) _

def PushPost (base q : Nat) (v : Value) (l : List Nat) (w w' : World) : Prop := ∃ v', QAt w' q v' ∧ RowOf w' base v' l ∧ Chg (fun k => k = q ∨ some k = v.ownBlock) w w'
theorem info_ptr : (Try.prog.info? 77).map (fun i => (i.zero, i.size, i.bytes)) = some (some (.pointer none), 1, 8) := by kernel_rfl
theorem push_after {base q : Nat} {v : Value} {l : List Nat} {x : Nat} {w w1 : World} (hq : QAt w q v) (hr : RowOf w base v l) {g cap : Nat} {o : Obj}
    (hown : w1.ownsRow base 77 1 (.slice (some ⟨g, 0, none⟩) (l.length + 1) cap) (l.length + 1) (l.map ptrV ++ [ptrV x]))
    (hgr : (w.alloc o).drew.grownBy w1 v.ownBlock) (hgb : v.ownBlock = some g ∨ g = w.heap.size + 1) :
    w1.cell? ⟨q, 0, none⟩ = some v ∧ w1.frozen? ⟨q, 0, none⟩ = false ∧ Hid (PushPost base q v (l ++ [x]) w (w1.setCell ⟨q, 0, none⟩ (.slice (some ⟨g, 0, none⟩) (l.length + 1) cap))) := by
  have hne := hq.ne_row hr
  have hq1 : QAt w1 q v := hq.of_block ((hgr.block q (by simp; exact Nat.lt_succ_of_lt hq.lt) hne).trans (Below.heap_alloc _ _ _ hq.lt))
  have hqg : q ≠ g := by
    rcases hgb with h | h
    · rintro rfl; exact hne h.symm
    · have := hq.lt; omega
  refine ⟨hq1.cell, hq1.frozen, _, hq1.set _, ?_, ?_⟩
  · have h1 : RowOf w1 base (.slice (some ⟨g, 0, none⟩) (l.length + 1) cap) (l ++ [x]) := by unfold RowOf; simpa using hown
    exact ownsRow_setCell_other h1 (by simp [Value.ownBlock]; omega) _
  · have hc : Chg (fun k => some k = v.ownBlock) w w1 := ((Chg.refl _ w).alloc o).drew.trans (Chg.of_grown hgr) (fun i hi => .inl hi)
    exact (hc.mono (fun _ h => .inr h)).setCell (p := ⟨q, 0, none⟩) (.inl (.inl rfl)) _

set_option maxHeartbeats 400000 in
theorem push_any (base q : Nat) (v : Value) (l : List Nat) (x : Nat) (w : World) (hq : QAt w q v) (hr : RowOf w base v l) (hl : l.length < 1000000000) (hbase : base ≤ w.heap.size) :
    Calls Try.prog 77 #[.pointer (some ⟨q, 0, none⟩), .iface 77 (ptrV x)] w fun e w' => e = .returned (.tuple #[]) ∧ PushPost base q v (l ++ [x]) w w' := by
  show Calls Try.prog 77 #[.pointer (some ⟨q, 0, none⟩), .iface 77 (.pointer (some ⟨x, 0, none⟩))] w _
  have hc := hq.cell
  have hf := hq.frozen
  have hql := hq.lt
  have HR := Lib.hid hr
  have HQ := Lib.hid hq
  clear hr hq
  obtain ⟨i0, hi, hzz⟩ := Option.map_eq_some_iff.1 info_ptr
  simp only [Prod.mk.injEq] at hzz
  obtain ⟨hz0, hz1, hz2⟩ := hzz
  have hta : ∀ (v : Value) (w : World), (Instr.typeAssert (.iface 77 v) 20 77 false).run Try.prog w = .ok v w := fun _ _ => by kernel_rfl
  go_enter Try.func77, Try.ntmps77
  go_wp2
  go_region_law (refine step_append_lies _ rfl (.tmp 7) (.tmp 10) 99 rfl base 77 i0 (.pointer none) 1 8 Try.underlying99 hi hz0 hz1 hz2 rfl (by decide) v l.length (l.map ptrV) (by simp [Act.eval]) (World.ownsRow.alloc HR.out _) ⟨w.heap.size, 0, none⟩ 1 1 [ptrV x] (by simp [Act.eval]) rfl (World.news_of_block (cs := #[ptrV x]) (t := 77) (fr := (0, 0)) (heap_alloc_new w.drew _)) (by simp [ptrV, Value.oneCell']) (by decide) (by unfold maxLen; omega) (by omega) (by simp; omega) (w.heap.size + 1) (by simp) ?_; intro g cap w1 hown hgr hgb hlt; obtain ⟨hc1, hf1, H1⟩ := push_after HQ.out HR.out hown hgr hgb)
  all_goals (go_end0; exact ⟨rfl, H1.out⟩)

end Go.Proofs.Ytipdejalohmkpaa.I
