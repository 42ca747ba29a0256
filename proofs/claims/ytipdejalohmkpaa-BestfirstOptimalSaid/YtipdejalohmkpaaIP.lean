/- heap.Push and heap.Pop over a queue of entries. -/
import Derived.Test.YtipdejalohmkpaaID
namespace Go.Proofs.Ytipdejalohmkpaa.I
open Go.RowKit Hp

/-- The blocks that the heap's functions may write. -/
def QS (base q : Nat) (w : World) : Nat → Prop := fun k => k = q ∨ (base ≤ k ∧ ∃ c f, w.heap[k]? = some (.cells c 77 f))
theorem QS.of_row {base q : Nat} {w : World} {v : Value} {l : List Nat} (h : RowOf w base v l) (k : Nat) (hk : some k = v.ownBlock) : QS base q w k := by
  rcases h.2 with ⟨rfl, _⟩ | ⟨g, cap, cur, rfl, hb, hh, _⟩
  · simp [Value.ownBlock] at hk
  · have : k = g := by simpa [Value.ownBlock] using hk
    subst this
    exact .inr ⟨hb, _, _, hh⟩
theorem QS.back {base q : Nat} {w w1 : World} (h : Chg (QS base q w) w w1) (i : Nat) (hi : QS base q w1 i) : QS base q w i ∨ w.heap.size ≤ i := by
  rcases hi with rfl | ⟨hb, c, f, hh⟩
  · exact .inl (.inl rfl)
  · by_cases hlt : i < w.heap.size
    · by_cases hq : QS base q w i
      · exact .inl hq
      · exact .inl (.inr ⟨hb, c, f, (h.block i hlt hq).symm.trans hh⟩)
    · exact .inr (by omega)
theorem QS.trans {base q : Nat} {w w1 w2 : World} (h : Chg (QS base q w) w w1) (k : Chg (QS base q w1) w1 w2) : Chg (QS base q w) w w2 := h.trans k (QS.back h)
theorem QS.not_ent {base q : Nat} {w : World} {u : Value} {e : Nat} {d : EntD} (hq : QAt w q u) (he : EntAt w e d) : ¬ QS base q w e := by
  rintro (rfl | ⟨_, c, f, hh⟩)
  · exact hq.ne_ent he rfl
  · unfold EntAt at he
    rw [he] at hh
    injection hh with hh
    injection hh with _ ht
    exact absurd ht (by decide)

/-- A queue in memory that is a heap: its entries' blocks are l. -/
structure HeapAt (D : Nat → EntD) (base q : Nat) (l : List Nat) (w : World) : Prop where
  ex : ∃ v, QAt w q v ∧ RowOf w base v l
  ents : ∀ e ∈ l, EntAt w e (D e)
  heap : HeapN (kf D) l l.length

def HPushPost (D : Nat → EntD) (base q : Nat) (l : List Nat) (x : Nat) (w w' : World) : Prop := ∃ l', l'.Perm (l ++ [x]) ∧ HeapAt D base q l' w' ∧ Chg (QS base q w) w w'
set_option maxHeartbeats 400000 in
theorem hpush_any (D : Nat → EntD) (base q : Nat) (l : List Nat) (x : Nat) (w : World) (hh : HeapAt D base q l w) (hx : EntAt w x (D x)) (hl : l.length < 1000000000) (hbase : base ≤ w.heap.size) :
    Calls Try.prog 41 #[.iface 97 (.pointer (some ⟨q, 0, none⟩)), .iface 77 (ptrV x)] w fun e w' => e = .returned (.tuple #[]) ∧ HPushPost D base q l x w w' := by
  obtain ⟨⟨v, hq, hr⟩, hents, hheap⟩ := hh
  have hmp := meth_push ⟨q, 0, none⟩
  have HU := Lib.hid (up_start (x := x) hheap)
  have HE := Lib.hid hents
  have HR := Lib.hid hr
  have HQ := Lib.hid hq
  have HX := Lib.hid hx
  clear hheap hents hr hq hx
  go_enter Try.func41, Try.ntmps41
  go_wp2_with fail
  refine (push_any base q v l x w HQ.out HR.out hl hbase).mono ?_
  rintro e w1 ⟨rfl, v1, hq1, hr1, hc1⟩
  have hml : (method 230 97 (.pointer (some ⟨q, 0, none⟩)) "Len").run Try.prog w1 = .ok (43, v1) w1 := meth_len _ _ _ hq1.cell
  have hE1 : ∀ e ∈ l ++ [x], EntAt w1 e (D e) := fun e he => by
    have h0 : EntAt w e (D e) := by
      rcases List.mem_append.1 he with h | h
      · exact HE.out e h
      · obtain rfl : e = x := by simpa using h
        exact HX.out
    refine h0.chg hc1 ?_
    rintro (rfl | h)
    · exact HQ.out.ne_ent h0 rfl
    · exact HR.out.ne_ent h0 h
  obtain ⟨g, cap, rfl, _, _⟩ := hr1.form (by simp)
  have hlen1 : (l ++ [x]).length = l.length + 1 := by simp
  have HF : ∀ w2, UpPost D base q (.slice (some ⟨g, 0, none⟩) (l ++ [x]).length cap) (l ++ [x]) w1 w2 → HPushPost D base q l x w w2 := by
    rintro w2 ⟨l', hs, hh'⟩
    refine ⟨l', hs.perm, ⟨⟨_, hs.qat, hs.row⟩, hs.ents, hh'⟩, QS.trans (hc1.mono ?_) (hs.chg.mono ?_)⟩
    · rintro k (rfl | hk)
      · exact .inl rfl
      · exact QS.of_row HR.out k hk
    · exact fun k hk => QS.of_row hr1 k hk
  have HC := up_any D base q (.slice (some ⟨g, 0, none⟩) (l ++ [x]).length cap) (l ++ [x]) l.length w1 (Same.refl hq1 hr1 hE1) (by simp) (by rw [hlen1]; omega) HU.out
  have HF' := Lib.hid HF
  have HC' := Lib.hid HC
  have e9 : ((l.length + 1 : Nat) : Int) - 1 = (l.length : Int) := by omega
  clear HF HC hE1 hr1 hc1 hq1
  rw [hlen1] at hml
  have b9 : (l.length : Int) < 1000000000 := by omega
  clear hlen1
  go_wp2_with (first | (go_at_call 43; refine (len_any _ _ _ _).mono ?_; rintro e w' ⟨rfl, rfl⟩))
  refine HC'.out.mono ?_
  rintro e w2 ⟨rfl, hp⟩
  have hp' := HF'.out w2 hp
  clear hp
  go_wp2
  go_end0
  exact ⟨rfl, hp'⟩

def HPopPost (D : Nat → EntD) (base q : Nat) (l : List Nat) (w w' : World) : Prop := ∃ l', (at_ l 0 :: l').Perm l ∧ HeapAt D base q l' w' ∧ Chg (QS base q w) w w'
set_option maxHeartbeats 400000 in
theorem hpop_any (D : Nat → EntD) (base q : Nat) (l : List Nat) (n : Nat) (w : World) (hh : HeapAt D base q l w) (hn : l.length = n + 1) (hl : l.length < 1000000000) :
    Calls Try.prog 40 #[.iface 97 (.pointer (some ⟨q, 0, none⟩))] w fun e w' => e = .returned (.iface 77 (ptrV (at_ l 0))) ∧ HPopPost D base q l w w' := by
  obtain ⟨⟨v, hq, hr⟩, hents, hheap⟩ := hh
  obtain ⟨g, cap, rfl, _, _⟩ := hr.form (by omega)
  have hml := meth_len ⟨q, 0, none⟩ w _ hq.cell
  have hms := meth_swap ⟨q, 0, none⟩ w _ hq.cell
  have hmp := meth_pop ⟨q, 0, none⟩
  have HSW := swap_is base _ l 0 n 0 n w hr rfl rfl (by omega) (by omega)
  have HDN := Lib.hid (dn_start (m := n) (by omega) hheap)
  have HS0 := Lib.hid (Same.refl hq hr hents)
  have HN := Lib.hid hn
  have HRow := Lib.hid hr
  have e9 : ((n + 1 : Nat) : Int) - 1 = (n : Int) := by omega
  have b9 : (n : Int) < 1000000000 := by omega
  rw [hn] at hml hms
  have HSW' : Hid (Calls Try.prog 78 #[.slice (some ⟨g, 0, none⟩) (n + 1) cap, .int .i64 0, .int .i64 n] w fun e w' => e = .returned (.tuple #[]) ∧ SwapPost base (.slice (some ⟨g, 0, none⟩) l.length cap) l w 0 n w') := by rw [hn] at HSW ⊢; exact HSW
  clear HSW hr hq hents hheap hn
  go_enter Try.func40, Try.ntmps40
  go_wp2_with (first | (go_at_call 43; refine (len_any _ _ _ _).mono ?_; rintro e w' ⟨rfl, rfl⟩))
  refine HSW'.out.mono ?_
  rintro e w1 ⟨rfl, hp⟩
  have HS1 := Lib.hid (HS0.out.swap (by have := HN.out; omega) (by have := HN.out; omega) hp)
  have HC := Lib.hid (down_any D base q _ (swp l 0 n) n w1 (Same.refl HS1.out.qat HS1.out.row HS1.out.ents) (by rw [swp_length]; have := HN.out; omega) (by rw [swp_length]; omega) HDN.out)
  clear hp
  go_wp2_with fail
  refine HC.out.mono ?_
  rintro e w2 ⟨⟨r, rfl⟩, l', hs2, hheap2, hlast⟩
  have hlen2 : l'.length = n + 1 := by rw [hs2.length, swp_length]; exact HN.out
  have hlast' : at_ l' n = at_ l 0 := by rw [hlast, at_swp (by have := HN.out; omega) (by have := HN.out; omega), if_pos rfl]
  have hsplit : l' = l'.take n ++ [at_ l 0] := by
    have h1 : l'.take n ++ l'.drop n = l' := List.take_append_drop n l'
    have h2 : l'.drop n = [at_ l 0] := by
      rw [List.drop_eq_getElem_cons (by omega), List.drop_eq_nil_of_le (by omega)]
      rw [← hlast']; simp [at_, List.getElem?_eq_getElem (show n < l'.length by omega)]
    rw [← h2]; exact h1.symm
  have hlt : (l'.take n).length = n := by simp; omega
  have HPP := pop_any base q _ (l'.take n) (at_ l 0) w2 hs2.qat (by rw [← hsplit]; exact hs2.row) (by rw [hlt]; have := HN.out; omega)
  have HF : ∀ w3, PopPost base q (l'.take n) w2 w3 → HPopPost D base q l w w3 := by
    rintro w3 ⟨v3, hq3, hr3, hc3⟩
    refine ⟨l'.take n, ?_, ⟨⟨v3, hq3, hr3⟩, fun e he => ?_, ?_⟩, ?_⟩
    · have p1 : (at_ l 0 :: l'.take n).Perm l' := by
        conv => rhs; rw [hsplit]
        exact (List.perm_append_singleton (at_ l 0) (l'.take n)).symm
      exact p1.trans (hs2.perm.trans HS1.out.perm)
    · have h2 := hs2.ents e (List.mem_of_mem_take he)
      exact h2.chg hc3 (by rintro rfl; exact hs2.qat.ne_ent h2 rfl)
    · exact heap_take (by omega) hheap2
    · refine QS.trans (HS1.out.chg.mono (fun k hk => QS.of_row HRow.out k hk)) (QS.trans (hs2.chg.mono (fun k hk => QS.of_row HS1.out.row k hk)) (hc3.mono (fun k hk => .inl hk)))
  have HF' := Lib.hid HF
  have HPP' := Lib.hid HPP
  clear HF HPP hs2 hheap2 hlast hlen2 hlast' hsplit hlt
  go_wp2_with fail
  refine HPP'.out.mono ?_
  rintro e w3 ⟨rfl, hp⟩
  have hp' := HF'.out w3 hp
  clear hp
  go_wp2
  go_ret
  exact ⟨rfl, hp'⟩

end Go.Proofs.Ytipdejalohmkpaa.I
