/- The queue of a search and its entries in memory: what the queue's methods do. -/
import Derived.Test.YtipdejalohmkpaaHp
import Derived.Test.YtipdejalohmkpaaRows
import Derived.Test.YtipdejalohmkpaaWMore
import Derived.WalkKit
import Derived.WalkSpells
import Derived.WalkLawsBesides
import Derived.Deep.QuietTactic
import Derived.BigQuiet
import Derived.BigRegion
import Derived.Lib.Hide
namespace Go.Proofs.Ytipdejalohmkpaa.I
open Go.RowKit Hp

/-- The address of an entry. -/
def ptrV (e : Nat) : Value := .pointer (some ⟨e, 0, none⟩)
/-- An entry: its state, the address of the entry before it, its cost and its number. -/
structure EntD where
  st : Value
  bf : Option Addr
  cost : Int
  num : Int
def EntD.key (d : EntD) : Int × Int := (d.cost, d.num)
def EntAt (w : World) (e : Nat) (d : EntD) : Prop := w.heap[e]? = some (.cells #[d.st, .pointer d.bf, .int .i64 d.cost, .int .i64 d.num] 82 (0, 0))
theorem EntAt.c0 {w : World} {e : Nat} {d : EntD} (h : EntAt w e d) : w.cell? ⟨e, 0, none⟩ = some d.st := by unfold EntAt at h; simp [World.cell?, h]
theorem EntAt.c1 {w : World} {e : Nat} {d : EntD} (h : EntAt w e d) : w.cell? ⟨e, 1, none⟩ = some (.pointer d.bf) := by unfold EntAt at h; simp [World.cell?, h]
theorem EntAt.c2 {w : World} {e : Nat} {d : EntD} (h : EntAt w e d) : w.cell? ⟨e, 2, none⟩ = some (.int .i64 d.cost) := by unfold EntAt at h; simp [World.cell?, h]
theorem EntAt.c3 {w : World} {e : Nat} {d : EntD} (h : EntAt w e d) : w.cell? ⟨e, 3, none⟩ = some (.int .i64 d.num) := by unfold EntAt at h; simp [World.cell?, h]
theorem EntAt.lt {w : World} {e : Nat} {d : EntD} (h : EntAt w e d) : e < w.heap.size := (Array.getElem?_eq_some_iff.1 h).1
theorem EntAt.of_block {w w' : World} {e : Nat} {d : EntD} (h : EntAt w e d) (hb : w'.heap[e]? = w.heap[e]?) : EntAt w' e d := hb.trans h
theorem EntAt.below {w w' : World} {e : Nat} {d : EntD} (h : EntAt w e d) (hb : Below w.heap.size w w') : EntAt w' e d := h.of_block (hb.block e h.lt)

/-- The row of a queue: the addresses of its entries. -/
def RowOf (w : World) (base : Nat) (v : Value) (l : List Nat) : Prop := w.ownsRow base 77 1 v l.length (l.map ptrV)
theorem RowOf.ne_ent {w : World} {base : Nat} {v : Value} {l : List Nat} (h : RowOf w base v l) {e : Nat} {d : EntD} (he : EntAt w e d) : some e ≠ v.ownBlock := by
  intro hk
  rcases h.2 with ⟨rfl, _⟩ | ⟨g, cap, cur, rfl, _, hh, _⟩
  · simp [Value.ownBlock] at hk
  · have : e = g := by simpa [Value.ownBlock] using hk
    subst this
    unfold EntAt at he
    rw [hh] at he
    injection he with he
    injection he with _ ht
    exact absurd ht (by decide)
theorem EntAt.grown {w w' : World} {base : Nat} {v : Value} {l : List Nat} {e : Nat} {d : EntD} (h : EntAt w e d) (hr : RowOf w base v l) (hg : w.grownBy w' v.ownBlock) : EntAt w' e d :=
  h.of_block (hg.block e h.lt (hr.ne_ent h))
theorem RowOf.form {w : World} {base : Nat} {v : Value} {l : List Nat} (h : RowOf w base v l) (hn : 0 < l.length) : ∃ g cap, v = .slice (some ⟨g, 0, none⟩) l.length cap ∧ base ≤ g ∧ g < w.heap.size := by
  obtain ⟨g, cap, rfl, hb, hh⟩ := World.ownsRow.form h hn
  exact ⟨g, cap, rfl, hb, (World.ownsRow.lt h g rfl).2⟩
theorem RowOf.cell {w : World} {base g n cap : Nat} {l : List Nat} (h : RowOf w base (.slice (some ⟨g, 0, none⟩) n cap) l) (i : Nat) (hi : i < l.length) : w.cell? ⟨g, i, none⟩ = some (ptrV (at_ l i)) := by
  have hn : n = l.length := by
    rcases h.2 with ⟨h1, _⟩ | ⟨g', cap', cur', h1, _⟩
    · cases h1
    · injection h1
  subst hn
  have := World.ownsRow.cellAt h i (by omega)
  rw [this]
  simp [at_, List.getElem?_map, List.getElem?_eq_getElem hi]
theorem RowOf.frozen {w : World} {base g n cap : Nat} {l : List Nat} (h : RowOf w base (.slice (some ⟨g, 0, none⟩) n cap) l) (i : Nat) : w.frozen? ⟨g, i, none⟩ = false := by
  have hn : n = l.length := by
    rcases h.2 with ⟨h1, _⟩ | ⟨g', cap', cur', h1, _⟩
    · cases h1
    · injection h1
  subst hn
  exact World.ownsRow.frozenAt h i
theorem RowOf.drewN {w : World} {base : Nat} {v : Value} {l : List Nat} (h : RowOf w base v l) (n : Nat) : RowOf (w.drewN n) base v l := h
theorem RowOf.kept {w w' : World} {base : Nat} {v : Value} {l : List Nat} (h : RowOf w base v l) {row : Option Nat} (hg : w.grownBy w' row) (hne : v.ownBlock = none ∨ v.ownBlock ≠ row) : RowOf w' base v l := World.ownsRow.kept h hg hne
theorem RowOf.below {w w' : World} {base : Nat} {v : Value} {l : List Nat} (h : RowOf w base v l) (hb : Below w.heap.size w w') : RowOf w' base v l := YtipdejalohmkpaaW.PrintWords.pw_own_below h hb
theorem RowOf.stored {w : World} {base g cap : Nat} {l : List Nat} (h : RowOf w base (.slice (some ⟨g, 0, none⟩) l.length cap) l) (i : Nat) (x : Nat) (n : Nat) (hn : n = l.length) : RowOf (w.setCell ⟨g, i, none⟩ (ptrV x)) base (.slice (some ⟨g, 0, none⟩) n cap) (l.set i x) := by
  subst hn
  have := World.ownsRow.stored h i (ptrV x)
  unfold RowOf
  rw [List.length_set, List.map_set]
  exact this.1

theorem grown_set {w : World} (g i : Nat) (u : Value) : w.grownBy (w.setCell ⟨g, i, none⟩ u) (some g) := ⟨rfl, rfl, rfl, by simp [World.setCell], fun k _ hne => Below.heap_setCell _ _ _ _ (by intro e; exact hne (by rw [e]))⟩
theorem grown_drewN {w w' : World} {row : Option Nat} (h : w.grownBy w' row) (n : Nat) : w.grownBy (w'.drewN n) row := ⟨h.os, h.tape, h.output, h.size, h.block⟩
theorem grown_refl (w : World) (row : Option Nat) : w.grownBy w row := ⟨rfl, rfl, rfl, Nat.le_refl _, fun _ _ _ => rfl⟩

set_option maxHeartbeats 400000 in
theorem len_any (A : Option Addr) (n c : Nat) (w : World) :
    Calls Try.prog 43 #[.slice A n c] w fun e w' => e = .returned (.int .i64 n) ∧ w = w' := by
  go_enter Try.func43, Try.ntmps43
  go_wp2
  go_ret
  exact ⟨rfl, rfl⟩

set_option maxHeartbeats 800000 in
theorem less_cells (b n c : Nat) (i j : Int) (ei ej : Nat) (xi xj yi yj : Int) (w : World)
    (hi0 : 0 ≤ i) (hi : i < n) (hj0 : 0 ≤ j) (hj : j < n)
    (hci : w.cell? ⟨b, i.toNat, none⟩ = some (.pointer (some ⟨ei, 0, none⟩))) (hcj : w.cell? ⟨b, j.toNat, none⟩ = some (.pointer (some ⟨ej, 0, none⟩)))
    (hei : w.cell? ⟨ei, 2, none⟩ = some (.int .i64 xi)) (hej : w.cell? ⟨ej, 2, none⟩ = some (.int .i64 xj))
    (hei3 : w.cell? ⟨ei, 3, none⟩ = some (.int .i64 yi)) (hej3 : w.cell? ⟨ej, 3, none⟩ = some (.int .i64 yj)) :
    Calls Try.prog 75 #[.slice (some ⟨b, 0, none⟩) n c, .int .i64 i, .int .i64 j] w fun e w' => (∃ n, w' = w.drewN n) ∧ e = .returned (.bool (ltK (xi, yi) (xj, yj))) := by
  by_cases hx : xi = xj
  · have hne : (xi != xj) = false := by simp [hx]
    have hr : ltK (xi, yi) (xj, yj) = decide (yi < yj) := by unfold ltK; simp [hx]
    have HR := Lib.hid hr
    clear hr hx
    go_enter Try.func75, Try.ntmps75
    go_wp2
    go_quiet (fail)
    go_wp2
    go_quiet (fail)
    go_wp2
    go_ret
    exact ⟨⟨_, World.drewN_drewN ..⟩, by rw [HR.out]; rfl⟩
  · have hne : (xi != xj) = true := by simp [hx]
    have hr : ltK (xi, yi) (xj, yj) = decide (xi < xj) := by unfold ltK; simp [hx]
    have HR := Lib.hid hr
    clear hr hx
    go_enter Try.func75, Try.ntmps75
    go_wp2
    go_quiet (fail)
    go_wp2
    go_quiet (fail)
    go_wp2
    go_ret
    exact ⟨⟨_, World.drewN_drewN ..⟩, by rw [HR.out]; rfl⟩

/-- Less tells which of two entries of a row comes first. -/
theorem less_any (base : Nat) (v : Value) (l : List Nat) (D : Nat → EntD) (i j : Int) (w : World) (hr : RowOf w base v l) (hD : ∀ e ∈ l, EntAt w e (D e)) (hi0 : 0 ≤ i) (hi : i < l.length) (hj0 : 0 ≤ j) (hj : j < l.length) :
    Calls Try.prog 75 #[v, .int .i64 i, .int .i64 j] w fun e w' => (∃ n, w' = w.drewN n) ∧ e = .returned (.bool (ltK (D (at_ l i.toNat)).key (D (at_ l j.toNat)).key)) := by
  obtain ⟨g, cap, rfl, _, _⟩ := hr.form (by omega)
  have mem : ∀ k, k < l.length → at_ l k ∈ l := fun k hk => by simp [at_, List.getElem?_eq_getElem hk]
  have hdi := hD _ (mem i.toNat (by omega))
  have hdj := hD _ (mem j.toNat (by omega))
  exact less_cells g l.length cap i j _ _ _ _ _ _ w hi0 hi hj0 hj (hr.cell _ (by omega)) (hr.cell _ (by omega)) hdi.c2 hdj.c2 hdi.c3 hdj.c3

set_option maxHeartbeats 400000 in
theorem swap_ne (b n c : Nat) (i j : Int) (pi pj : Option Addr) (w : World)
    (hi0 : 0 ≤ i) (hi : i < n) (hj0 : 0 ≤ j) (hj : j < n) (hne : i.toNat ≠ j.toNat)
    (hci : w.cell? ⟨b, i.toNat, none⟩ = some (.pointer pi)) (hcj : w.cell? ⟨b, j.toNat, none⟩ = some (.pointer pj))
    (hfi : w.frozen? ⟨b, i.toNat, none⟩ = false) (hfj : w.frozen? ⟨b, j.toNat, none⟩ = false) :
    Calls Try.prog 78 #[.slice (some ⟨b, 0, none⟩) n c, .int .i64 i, .int .i64 j] w fun e w' => 
      e = .returned (.tuple #[]) ∧ ∃ n, w' = ((w.setCell ⟨b, i.toNat, none⟩ (.pointer pj)).setCell ⟨b, j.toNat, none⟩ (.pointer pi)).drewN n := by
  go_enter Try.func78, Try.ntmps78
  go_wp2
  go_region
  all_goals (go_end0; exact ⟨rfl, 1, rfl⟩)
set_option maxHeartbeats 400000 in
theorem swap_eq (b n c : Nat) (i : Int) (pi : Option Addr) (w : World)
    (hi0 : 0 ≤ i) (hi : i < n)
    (hci : w.cell? ⟨b, i.toNat, none⟩ = some (.pointer pi))
    (hfi : w.frozen? ⟨b, i.toNat, none⟩ = false) (hc2 : (w.setCell ⟨b, i.toNat, none⟩ (.pointer pi)).cell? ⟨b, i.toNat, none⟩ = some (.pointer pi)) :
    Calls Try.prog 78 #[.slice (some ⟨b, 0, none⟩) n c, .int .i64 i, .int .i64 i] w fun e w' => 
      e = .returned (.tuple #[]) ∧ ∃ n, w' = ((w.setCell ⟨b, i.toNat, none⟩ (.pointer pi)).setCell ⟨b, i.toNat, none⟩ (.pointer pi)).drewN n := by
  go_enter Try.func78, Try.ntmps78
  go_wp2
  go_region
  all_goals (go_end0; exact ⟨rfl, 1, rfl⟩)

def SwapPost (base : Nat) (v : Value) (l : List Nat) (w : World) (i j : Nat) (w' : World) : Prop := RowOf w' base v (swp l i j) ∧ w.grownBy w' v.ownBlock
/-- Swap exchanges two entries of a row. -/
theorem swap_any (base : Nat) (v : Value) (l : List Nat) (i j : Int) (w : World) (hr : RowOf w base v l) (hi0 : 0 ≤ i) (hi : i < l.length) (hj0 : 0 ≤ j) (hj : j < l.length) :
    Calls Try.prog 78 #[v, .int .i64 i, .int .i64 j] w fun e w' => e = .returned (.tuple #[]) ∧ SwapPost base v l w i.toNat j.toNat w' := by
  obtain ⟨g, cap, rfl, _, _⟩ := hr.form (by omega)
  have hci := hr.cell i.toNat (by omega)
  have hcj := hr.cell j.toNat (by omega)
  have post : ∀ n, SwapPost base (.slice (some ⟨g, 0, none⟩) l.length cap) l w i.toNat j.toNat (((w.setCell ⟨g, i.toNat, none⟩ (ptrV (at_ l j.toNat))).setCell ⟨g, j.toNat, none⟩ (ptrV (at_ l i.toNat))).drewN n) := fun n => by
    have h1 := hr.stored i.toNat (at_ l j.toNat) l.length rfl
    have h2 : RowOf ((w.setCell ⟨g, i.toNat, none⟩ (ptrV (at_ l j.toNat))).setCell ⟨g, j.toNat, none⟩ (ptrV (at_ l i.toNat))) base (.slice (some ⟨g, 0, none⟩) l.length cap) (swp l i.toNat j.toNat) := by
      have h1' : RowOf (w.setCell ⟨g, i.toNat, none⟩ (ptrV (at_ l j.toNat))) base (.slice (some ⟨g, 0, none⟩) (l.set i.toNat (at_ l j.toNat)).length cap) (l.set i.toNat (at_ l j.toNat)) := by rw [List.length_set]; exact h1
      exact h1'.stored j.toNat (at_ l i.toNat) l.length (by simp)
    exact ⟨h2.drewN n, grown_drewN ((grown_set g i.toNat _).trans (grown_set g j.toNat _)) n⟩
  by_cases e : i.toNat = j.toNat
  · obtain rfl : i = j := by omega
    refine (swap_eq g l.length cap i _ w hi0 hi hci (hr.frozen _) ?_).mono ?_
    · have hlt : i.toNat < l.length := by omega
      have hs : at_ (l.set i.toNat (at_ l i.toNat)) i.toNat = at_ l i.toNat := by simp [at_, hlt]
      have h3 := (hr.stored i.toNat (at_ l i.toNat) l.length rfl).cell i.toNat (by simpa using hlt)
      rw [hs] at h3
      exact h3
    · rintro e w' ⟨rfl, n, rfl⟩
      exact ⟨rfl, post n⟩
  · refine (swap_ne g l.length cap i j _ _ w hi0 hi hj0 hj e hci hcj (hr.frozen _) (hr.frozen _)).mono ?_
    rintro e w' ⟨rfl, n, rfl⟩
    exact ⟨rfl, post n⟩

end Go.Proofs.Ytipdejalohmkpaa.I
