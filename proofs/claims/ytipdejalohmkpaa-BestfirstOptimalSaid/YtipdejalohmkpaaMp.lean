/- A set of strings kept as a map from strings to true: looking up, and adding a new string. -/
import Derived.Test.YtipdejalohmkpaaRows
import Derived.WalkKit
import Derived.Lib.Hide
namespace Go.Proofs.Ytipdejalohmkpaa
open Go.RowKit

instance lawful_bytes : LawfulBEq ByteArray where
  eq_of_beq {a b} h := by
    cases a; cases b
    have h' : (_ == _) = true := h
    congr 1
    exact eq_of_beq h'
  rfl {a} := by
    cases a
    rename_i d
    exact beq_self_eq_true d

/-- Block b is a map whose keys are the strings ks, all with the value true. -/
def SetAt (w : World) (b : Nat) (ks : List ByteArray) : Prop :=
  ∃ es clock, w.heap[b]? = some (.map es clock) ∧ es.toList.map (·.key) = ks.map Value.string ∧ ∀ e ∈ es.toList, e.val = .bool true
theorem SetAt.made (w : World) : SetAt (w.alloc (.map #[] 0)) w.heap.size [] := ⟨#[], 0, by show (w.heap.push _)[w.heap.size]? = _; simp, rfl, by simp⟩
theorem SetAt.of_block {w w' : World} {b : Nat} {ks : List ByteArray} (h : SetAt w b ks) (hb : w'.heap[b]? = w.heap[b]?) : SetAt w' b ks := by
  obtain ⟨es, cl, h1, h2⟩ := h
  exact ⟨es, cl, hb.trans h1, h2⟩
theorem SetAt.lt {w : World} {b : Nat} {ks : List ByteArray} (h : SetAt w b ks) : b < w.heap.size := by
  obtain ⟨es, cl, h1, _⟩ := h
  exact (Array.getElem?_eq_some_iff.1 h1).1

theorem find_set (k : ByteArray) : ∀ (l : List MapEntry) (ks : List ByteArray) (i : Nat), l.map (·.key) = ks.map Value.string → (∀ e ∈ l, e.val = .bool true) →
    ((ks.any fun x => x == k) = true → ∃ j, Instr.findNow .string (.string k) l i = some (some (j, .bool true))) ∧ ((ks.any fun x => x == k) = false → Instr.findNow .string (.string k) l i = some none)
  | [], ks, i, h, _ => by
    have : ks = [] := by cases ks with | nil => rfl | cons _ _ => simp at h
    subst this
    exact ⟨fun h => by simp at h, fun _ => rfl⟩
  | e :: l, [], i, h, _ => by simp at h
  | e :: l, x :: ks, i, h, hv => by
    simp only [List.map_cons, List.cons.injEq] at h
    have ih := find_set k l ks (i + 1) h.2 (fun e' he' => hv e' (List.mem_cons_of_mem _ he'))
    have hve := hv e List.mem_cons_self
    rw [Instr.findNow, h.1]
    by_cases hk : k = x
    · subst hk
      have h1 : (k == k) = true := beq_self_eq_true k
      simp only [Instr.sameNow, h1, hve, List.any_cons, Bool.true_or]
      exact ⟨fun _ => ⟨i, rfl⟩, fun h => by simp at h⟩
    · have h1 : (k == x) = false := by rw [beq_eq_false_iff_ne]; exact hk
      have h2 : (x == k) = false := by rw [beq_eq_false_iff_ne]; exact fun (h : x = k) => hk h.symm
      simp only [Instr.sameNow, h1, List.any_cons, h2, Bool.false_or]
      exact ih

theorem und87 (w : World) : (underlying 87).run Try.prog w = .ok (.map 9 4) w := by kernel_rfl
theorem und9 (w : World) : (underlying 9).run Try.prog w = .ok .string w := by kernel_rfl
theorem zero4 (w : World) : (zeroValue 4).run Try.prog w = .ok (.bool false) w := by kernel_rfl
theorem check_str (k : ByteArray) (e : Bool) (w : World) : (Instr.checkKey e 10000 9 (.string k)).run Try.prog w = .ok () w := by
  have h : ∀ n, (Instr.checkKey e (n + 1) 9 (.string k)).run Try.prog w = .ok () w := fun n => by
    rw [Instr.checkKey, Sem.run_bind, und9]
    rfl
  exact h 9999
theorem SetAt.lookup {w : World} {b : Nat} {ks : List ByteArray} (h : SetAt w b ks) (k : ByteArray) :
    (Instr.lookup 87 (.map (some b)) (.string k) false).run Try.prog w = .ok (.bool (ks.any fun x => x == k)) w := by
  obtain ⟨es, cl, h1, h2, h3⟩ := h
  have hf := find_set k es.toList ks 0 h2 h3
  have hg : (getObj b).run Try.prog w = .ok (.map es cl) w := by simp [getObj, Sem.run, h1]
  have hk : ∀ r, Instr.findNow .string (.string k) es.toList 0 = some r → (Instr.findKey 9 (.string k) es.toList).run Try.prog w = .ok r w := fun r hr => by
    unfold Instr.findKey
    rw [Sem.run_bind, und9, Result.andThen_ok, hr]
    rfl
  unfold Instr.lookup
  rw [Sem.run_bind, und87, Result.andThen_ok]
  dsimp only
  rw [Sem.run_bind, hg, Result.andThen_ok]
  dsimp only
  rw [Sem.run_bind, Sem.run_pure, Result.andThen_ok, Sem.run_bind, check_str, Result.andThen_ok, Sem.run_bind]
  cases hc : (ks.any fun x => x == k) with
  | true =>
    obtain ⟨j, hj⟩ := hf.1 hc
    rw [hk _ hj]
    rfl
  | false =>
    rw [hk _ (hf.2 hc), Result.andThen_ok]
    dsimp only
    rw [Sem.run_bind, zero4]
    rfl
theorem SetAt.add {w : World} {b : Nat} {ks : List ByteArray} (h : SetAt w b ks) (k : ByteArray) (hn : (ks.any fun x => x == k) = false) :
    ∃ w', (Instr.mapUpdate 87 (.map (some b)) (.string k) (.bool true)).run Try.prog w = .ok () w' ∧ SetAt w' b (ks ++ [k]) ∧ w.grownBy w' (some b) := by
  obtain ⟨es, cl, h1, h2, h3⟩ := h
  have hf := (find_set k es.toList ks 0 h2 h3).2 hn
  have hg : (getObj b).run Try.prog w = .ok (.map es cl) w := by simp [getObj, Sem.run, h1]
  have hk : (Instr.findKey 9 (.string k) es.toList).run Try.prog w = .ok none w := by
    unfold Instr.findKey
    rw [Sem.run_bind, und9, Result.andThen_ok, hf]
    rfl
  refine ⟨{ w with heap := w.heap.setIfInBounds b (.map (es.push { key := .string k, val := .bool true, born := cl }) (cl + 1)) }, ?_, ?_, ?_⟩
  · unfold Instr.mapUpdate
    rw [Sem.run_bind, und87, Result.andThen_ok]
    dsimp only
    rw [Sem.run_bind, hg, Result.andThen_ok]
    dsimp only
    rw [Sem.run_bind, check_str, Result.andThen_ok, Sem.run_bind, hk, Result.andThen_ok]
    simp [setObj, Sem.run, h1]
  · have hlt : b < w.heap.size := (Array.getElem?_eq_some_iff.1 h1).1
    refine ⟨es.push { key := .string k, val := .bool true, born := cl }, cl + 1, by simp [hlt], by simp [h2], ?_⟩
    intro e he
    simp at he
    rcases he with he | rfl
    · exact h3 e (by simpa using he)
    · rfl
  · exact ⟨rfl, rfl, rfl, by simp, fun i _ hi => by simp only [Array.getElem?_setIfInBounds]; rw [if_neg (fun e => hi (by rw [e]))]⟩

end Go.Proofs.Ytipdejalohmkpaa
