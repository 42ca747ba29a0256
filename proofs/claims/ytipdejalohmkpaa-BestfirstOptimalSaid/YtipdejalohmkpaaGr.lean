/- The graphs of the statements, as lists and numbers; what the printed functions on them answer. -/
import Derived.Test.YtipdejalohmkpaaPBestfirstDistancesx1
import Derived.Test.YtipdejalohmkpaaPBestfirstDistancesx2
import Derived.Test.YtipdejalohmkpaaPBestfirstDistancesx4
namespace Go.Proofs.Ytipdejalohmkpaa.Gr
open Go.RowKit Go.Proofs.YtipdejalohmkpaaW.PrintWords Go.Proofs.YtipdejalohmkpaaW.PrintLast Go.Proofs.YtipdejalohmkpaaW.PrintMore PBestfirstDistances

/-- Edges, keys, goals. -/
structure Gph where
  E : List (List S51)
  K : List ByteArray
  Gs : List Int
def Gph.has (g : Gph) (s : Int) : Bool := decide (0 ≤ s) && decide (s < (g.E.length : Int))
def Gph.next (g : Gph) (s : Int) : List S51 := if g.has s then (g.E.getD s.toNat []).filter (fun x => g.has x.f0) else []
def digits (n : Nat) : ByteArray := if h : n < 10 then ⟨#[UInt8.ofNat (48 + n)]⟩ else digits (n / 10) ++ digits (n % 10)
termination_by n
decreasing_by all_goals omega
def Gph.key (g : Gph) (s : Int) : ByteArray := if 0 ≤ s ∧ s < (g.K.length : Int) then g.K.getD s.toNat ByteArray.empty else digits s.toNat
def Gph.goal (g : Gph) (s : Int) : Bool := g.Gs.contains s
def Gph.plain (g : Gph) : Bool := g.K.length == 0
/-- Larger than the statements consider. -/
def Gph.large (g : Gph) : Bool := decide (g.E.length > 12) || decide (g.K.length > 20) || decide (g.Gs.length > 20) || g.E.any (fun l => decide (l.length > 8)) || g.K.any (fun s => decide (s.size > 20))

theorem w64 {n : Int} (h0 : -9223372036854775808 ≤ n) (h1 : n ≤ 9223372036854775807) : wrap64 n = n := by unfold wrap64; omega
theorem has_f (g : Gph) (s : Int) : pentaglotref40_Graph_Has.f g.E g.K g.Gs s = some (g.has s) := by
  unfold pentaglotref40_Graph_Has.f Gph.has
  by_cases h : s ≥ 0
  · rw [if_pos h]; simp; omega
  · rw [if_neg h]; simp; omega

theorem next_l0 (g : Gph) (xs : List S51) (hx : xs.length < 1000000) : ∀ (d k : Nat) (i : Nat) (acc : List S51), xs.length - i = d → i ≤ xs.length → d < k → acc.length + d < 1000000 →
    pentaglotref40_Graph_Next.l0 k acc xs (xs.length : Int) (i : Int) g.E g.K g.Gs = some (acc ++ (xs.drop i).filter (fun x => g.has x.f0)) := by
  intro d
  induction d with
  | zero =>
    intro k i acc hd hi hk ha
    obtain ⟨k, rfl⟩ : ∃ m, k = m + 1 := ⟨k - 1, by omega⟩
    have : i = xs.length := by omega
    subst this
    simp only [pentaglotref40_Graph_Next.l0]; rw [if_neg (by omega)]; simp
  | succ d ih =>
    intro k i acc hd hi hk ha
    obtain ⟨k, rfl⟩ : ∃ m, k = m + 1 := ⟨k - 1, by omega⟩
    have hlt : i < xs.length := by omega
    have hr : rd_T51 xs (i : Int) = xs[i] := by simp [rd_T51, hlt]
    have hw : wrap64 ((i : Int) + 1) = ((i + 1 : Nat) : Int) := by rw [w64 (by omega) (by omega)]; omega
    simp only [pentaglotref40_Graph_Next.l0]
    rw [if_pos (by omega), if_pos (by omega), if_pos (by omega), has_f, hr, hw]
    simp only [Option.bind_some]
    rw [List.drop_eq_getElem_cons hlt]
    by_cases hh : g.has xs[i].f0 = true
    · rw [if_pos hh, if_pos (by omega), ih k (i + 1) _ (by omega) (by omega) (by omega) (by simp; omega)]
      rw [List.filter_cons_of_pos (by simpa using hh)]
      simp
    · rw [if_neg hh, ih k (i + 1) _ (by omega) (by omega) (by omega) (by omega)]
      rw [List.filter_cons_of_neg (by simpa using hh)]
theorem next_f (g : Gph) (hl : g.large = false) (s : Int) : ∃ k, pentaglotref40_Graph_Next.f k g.E g.K g.Gs s = some (g.next s) := by
  by_cases hh : g.has s = true
  · have h0 : 0 ≤ s ∧ s < (g.E.length : Int) := by simpa [Gph.has] using hh
    have hlt : s.toNat < g.E.length := by omega
    have h8 : (rd_L2 g.E s).length < 1000000 := by
      have h1 : rd_L2 g.E s = g.E[s.toNat] := by simp [rd_L2, hlt]
      rw [h1]
      simp only [Gph.large, Bool.or_eq_false_iff, List.any_eq_false, decide_eq_true_eq] at hl
      have := hl.1.2 g.E[s.toNat] (List.getElem_mem hlt)
      omega
    refine ⟨(rd_L2 g.E s).length + 1, ?_⟩
    unfold pentaglotref40_Graph_Next.f
    rw [has_f]
    simp only [Option.bind_some]
    rw [if_pos hh, if_pos h0.1, if_pos h0.2]
    have := next_l0 g (rd_L2 g.E s) h8 (rd_L2 g.E s).length ((rd_L2 g.E s).length + 1) 0 [] (by omega) (by omega) (by omega) (by simpa using h8)
    rw [show ((0 : Nat) : Int) = 0 from rfl] at this
    rw [this]
    simp [Gph.next, hh, rd_L2]
  · refine ⟨0, ?_⟩
    unfold pentaglotref40_Graph_Next.f
    rw [has_f]
    simp only [Option.bind_some]
    rw [if_neg hh]
    simp [Gph.next, hh]

theorem digits_size (n : Nat) : (digits n).size ≤ n + 1 := by
  induction n using Nat.strongRecOn with
  | ind n ih =>
    unfold digits
    split
    · simp [ByteArray.size]
    · have h1 := ih (n / 10) (by omega)
      have h2 : (digits (n % 10)).size = 1 := by unfold digits; rw [dif_pos (by omega)]; rfl
      rw [ByteArray.size_append, h2]
      omega
theorem str_one (n : Nat) : (some (strOfNums [((48 + n : Nat) : Int)]) : Option ByteArray) = some ⟨#[UInt8.ofNat (48 + n)]⟩ := by
  simp only [strOfNums, List.map_cons, List.map_nil, Int.toNat_natCast]
theorem digits_zero : digits 0 = ⟨#[UInt8.ofNat 48]⟩ := by
  unfold digits
  rw [dif_pos (by omega)]
theorem digits_f (n : Nat) (hn : n ≤ 9223372036854775807) : ∃ k, ∀ m, k ≤ m → pentaglotref40_Digits.f m (n : Int) = some (digits n) := by
  induction n using Nat.strongRecOn with
  | ind n ih =>
    by_cases h : n < 10
    · refine ⟨1, fun m hm => ?_⟩
      obtain ⟨m, rfl⟩ : ∃ q, m = q + 1 := ⟨m - 1, by omega⟩
      rw [pentaglotref40_Digits.f, if_pos (by omega)]
      unfold digits
      rw [dif_pos h]
      have hmx : mx (n : Int) 0 = n := by unfold mx; omega
      rw [hmx, w64 (by omega) (by omega)]
      have : (48 + (n : Int)) % 256 = ((48 + n : Nat) : Int) := by omega
      rw [this]
      exact str_one n
    · obtain ⟨k1, h1⟩ := ih (n / 10) (by omega) (by omega)
      obtain ⟨k2, h2⟩ := ih (n % 10) (by omega) (by omega)
      refine ⟨max k1 k2 + 1, fun m hm => ?_⟩
      obtain ⟨m, rfl⟩ : ∃ q, m = q + 1 := ⟨m - 1, by omega⟩
      have e1 : wrap64 (Int.tdiv (n : Int) 10) = ((n / 10 : Nat) : Int) := by
        rw [Int.tdiv_eq_ediv_of_nonneg (by omega)]
        rw [w64 (by omega) (by omega)]
        omega
      have e2 : Int.tmod (n : Int) 10 = ((n % 10 : Nat) : Int) := by rw [Int.tmod_eq_emod_of_nonneg (by omega)]; omega
      rw [pentaglotref40_Digits.f, if_neg (by omega), e1, e2, h1 m (by omega), h2 m (by omega)]
      simp only [Option.bind_some]
      have h3 := digits_size (n / 10)
      have h4 := digits_size (n % 10)
      rw [if_pos (by omega)]
      conv => rhs; unfold digits
      rw [dif_neg h]
theorem key_f (g : Gph) (s : Int) (h : s ≤ 9223372036854775807) : ∃ k, pentaglotref40_Graph_Key.f k g.E g.K g.Gs s = some (g.key s) := by
  have hneg : ∀ s : Int, s < 0 → pentaglotref40_Digits.f 1 s = some (digits s.toNat) := fun s hs => by
    rw [pentaglotref40_Digits.f, if_pos (by omega)]
    have hmx : mx s 0 = 0 := by unfold mx; omega
    rw [hmx, show s.toNat = 0 from by omega, digits_zero, w64 (by omega) (by omega)]
    exact str_one 0
  by_cases h0 : s ≥ 0
  · by_cases h1 : s < (g.K.length : Int)
    · refine ⟨0, ?_⟩
      unfold pentaglotref40_Graph_Key.f Gph.key
      rw [if_pos h0, if_pos h1, if_pos (by omega), if_pos ⟨by omega, h1⟩]
      rfl
    · obtain ⟨k, hk⟩ := digits_f s.toNat (by omega)
      refine ⟨k, ?_⟩
      have := hk k (Nat.le_refl _)
      rw [show ((s.toNat : Nat) : Int) = s from by omega] at this
      unfold pentaglotref40_Graph_Key.f Gph.key
      rw [if_pos h0, if_neg h1, if_neg (by omega), this]
      rfl
  · refine ⟨1, ?_⟩
    unfold pentaglotref40_Graph_Key.f Gph.key
    rw [if_neg h0, if_neg (by omega), hneg s (by omega)]
    rfl

/-- Whether two lists of numbers are equal. -/
theorem same_l0 (a b : List Int) (hab : a.length = b.length) (ha : a.length < 1000000000) : ∀ (d k : Nat) (i : Nat), a.length - i = d → i ≤ a.length → d < k → pentaglotref40_Same.l0 k a b (a.length : Int) (i : Int) = some (decide (a.drop i = b.drop i)) := by
  intro d
  induction d with
  | zero =>
    intro k i hd hi hk
    obtain ⟨k, rfl⟩ : ∃ m, k = m + 1 := ⟨k - 1, by omega⟩
    rw [pentaglotref40_Same.l0, if_neg (by omega)]
    rw [List.drop_eq_nil_of_le (by omega), List.drop_eq_nil_of_le (by omega)]
    rfl
  | succ d ih =>
    intro k i hd hi hk
    obtain ⟨k, rfl⟩ : ∃ m, k = m + 1 := ⟨k - 1, by omega⟩
    have hla : i < a.length := by omega
    have hlb : i < b.length := by omega
    have c0 : 0 ≤ (i : Int) := by omega
    have c1 : (i : Int) < (a.length : Int) := by omega
    have c2 : (i : Int) < (b.length : Int) := by omega
    have e1 := ih k (i + 1) (by omega) (by omega) (by omega)
    have hra : rd a (i : Int) = a[i] := by simp [rd, hla]
    have hrb : rd b (i : Int) = b[i] := by simp [rd, hlb]
    have hw : wrap64 ((i : Int) + 1) = ((i + 1 : Nat) : Int) := by rw [w64 (by omega) (by omega)]; omega
    rw [pentaglotref40_Same.l0]
    rw [if_pos c1, if_pos c0, if_pos c1, if_pos c2, hra, hrb, hw, List.drop_eq_getElem_cons hla, List.drop_eq_getElem_cons hlb]
    by_cases he : a[i] = b[i]
    · rw [if_pos he, e1, he]
      congr 1
      simp only [List.cons.injEq, true_and]
    · rw [if_neg he]
      congr 1
      simp only [List.cons.injEq, he, false_and, decide_false]
theorem same_f (a b : List Int) (ha : a.length < 1000000000) : ∃ k, pentaglotlaw40_same.f k a b = some (decide (a = b)) := by
  refine ⟨a.length + 1, ?_⟩
  unfold pentaglotlaw40_same.f pentaglotref40_Same.f
  by_cases hab : a.length = b.length
  · rw [if_pos (by omega)]
    have := same_l0 a b hab ha a.length (a.length + 1) 0 (by omega) (by omega) (by omega)
    rw [show ((0 : Nat) : Int) = 0 from rfl] at this
    rw [this]; simp
  · rw [if_neg (by omega)]
    have : a ≠ b := by rintro rfl; exact hab rfl
    simp [this]

end Go.Proofs.Ytipdejalohmkpaa.Gr
