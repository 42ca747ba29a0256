/- Part 1 of the proof of BestfirstDistance: Gr, Pb, Sr, Mp, St, Hp, IQ, IR, IU. -/
import Derived.Test.YtipdejalohmkpaaPBestfirstDistancesx1
import Derived.Test.YtipdejalohmkpaaPBestfirstDistancesx2
import Derived.Test.YtipdejalohmkpaaPBestfirstDistancesx4
import Derived.Test.YtipdejalohmkpaaRows
import Derived.WalkSpells
import Derived.WalkLawsBesides
import Derived.Lib.Hide
import Derived.WalkKit
import Derived.Test.YtipdejalohmkpaaWMore
import Derived.Deep.QuietTactic
import Derived.BigQuiet
import Derived.BigRegion
import Derived.Deep.AppendLies
import Derived.Deep.RegionLaw
/- The graphs of the statements, as lists and numbers; what the printed functions on them answer. -/
namespace Go.Proofs.Ytipdejalohmkpaa.Gr
open Go.RowKit Go.Proofs.YtipdejalohmkpaaW.PrintWords Go.Proofs.YtipdejalohmkpaaW.PrintLast Go.Proofs.YtipdejalohmkpaaW.PrintMore PBestfirstDistances

/-- Edges, keys, goals. -/
structure Gph where
  E : List (List S51)
  K : List ByteArray
  Gs : List Int
def Gph.has (g : Gph) (s : Int) : Bool := decide (0 ≤ s) && decide (s < (g.E.length : Int))
def Gph.next (g : Gph) (s : Int) : List S51 := if g.has s then (g.E.getD s.toNat []).filter (fun x => g.has x.f0) else []
def digits (n : Nat) : ByteArray := if h : n < 10 then ⟨#[UInt8.ofNat (48 + n)]⟩ else digits (n / 10) ++ digits (n % 10)
termination_by n
decreasing_by all_goals omega
def Gph.key (g : Gph) (s : Int) : ByteArray := if 0 ≤ s ∧ s < (g.K.length : Int) then g.K.getD s.toNat ByteArray.empty else digits s.toNat
def Gph.goal (g : Gph) (s : Int) : Bool := g.Gs.contains s
def Gph.plain (g : Gph) : Bool := g.K.length == 0
/-- Larger than the statements consider. -/
def Gph.large (g : Gph) : Bool := decide (g.E.length > 12) || decide (g.K.length > 20) || decide (g.Gs.length > 20) || g.E.any (fun l => decide (l.length > 8)) || g.K.any (fun s => decide (s.size > 20))

theorem w64 {n : Int} (h0 : -9223372036854775808 ≤ n) (h1 : n ≤ 9223372036854775807) : wrap64 n = n := by unfold wrap64; omega
theorem has_f (g : Gph) (s : Int) : pentaglotref40_Graph_Has.f g.E g.K g.Gs s = some (g.has s) := by
  unfold pentaglotref40_Graph_Has.f Gph.has
  by_cases h : s ≥ 0
  · rw [if_pos h]; simp; omega
  · rw [if_neg h]; simp; omega

theorem next_l0 (g : Gph) (xs : List S51) (hx : xs.length < 1000000) : ∀ (d k : Nat) (i : Nat) (acc : List S51), xs.length - i = d → i ≤ xs.length → d < k → acc.length + d < 1000000 →
    pentaglotref40_Graph_Next.l0 k acc xs (xs.length : Int) (i : Int) g.E g.K g.Gs = some (acc ++ (xs.drop i).filter (fun x => g.has x.f0)) := by
  intro d
  induction d with
  | zero =>
    intro k i acc hd hi hk ha
    obtain ⟨k, rfl⟩ : ∃ m, k = m + 1 := ⟨k - 1, by omega⟩
    have : i = xs.length := by omega
    subst this
    simp only [pentaglotref40_Graph_Next.l0]; rw [if_neg (by omega)]; simp
  | succ d ih =>
    intro k i acc hd hi hk ha
    obtain ⟨k, rfl⟩ : ∃ m, k = m + 1 := ⟨k - 1, by omega⟩
    have hlt : i < xs.length := by omega
    have hr : rd_T51 xs (i : Int) = xs[i] := by simp [rd_T51, hlt]
    have hw : wrap64 ((i : Int) + 1) = ((i + 1 : Nat) : Int) := by rw [w64 (by omega) (by omega)]; omega
    simp only [pentaglotref40_Graph_Next.l0]
    rw [if_pos (by omega), if_pos (by omega), if_pos (by omega), has_f, hr, hw]
    simp only [Option.bind_some]
    rw [List.drop_eq_getElem_cons hlt]
    by_cases hh : g.has xs[i].f0 = true
    · rw [if_pos hh, if_pos (by omega), ih k (i + 1) _ (by omega) (by omega) (by omega) (by simp; omega)]
      rw [List.filter_cons_of_pos (by simpa using hh)]
      simp
    · rw [if_neg hh, ih k (i + 1) _ (by omega) (by omega) (by omega) (by omega)]
      rw [List.filter_cons_of_neg (by simpa using hh)]
theorem next_f (g : Gph) (hl : g.large = false) (s : Int) : ∃ k, pentaglotref40_Graph_Next.f k g.E g.K g.Gs s = some (g.next s) := by
  by_cases hh : g.has s = true
  · have h0 : 0 ≤ s ∧ s < (g.E.length : Int) := by simpa [Gph.has] using hh
    have hlt : s.toNat < g.E.length := by omega
    have h8 : (rd_L2 g.E s).length < 1000000 := by
      have h1 : rd_L2 g.E s = g.E[s.toNat] := by simp [rd_L2, hlt]
      rw [h1]
      simp only [Gph.large, Bool.or_eq_false_iff, List.any_eq_false, decide_eq_true_eq] at hl
      have := hl.1.2 g.E[s.toNat] (List.getElem_mem hlt)
      omega
    refine ⟨(rd_L2 g.E s).length + 1, ?_⟩
    unfold pentaglotref40_Graph_Next.f
    rw [has_f]
    simp only [Option.bind_some]
    rw [if_pos hh, if_pos h0.1, if_pos h0.2]
    have := next_l0 g (rd_L2 g.E s) h8 (rd_L2 g.E s).length ((rd_L2 g.E s).length + 1) 0 [] (by omega) (by omega) (by omega) (by simpa using h8)
    rw [show ((0 : Nat) : Int) = 0 from rfl] at this
    rw [this]
    simp [Gph.next, hh, rd_L2]
  · refine ⟨0, ?_⟩
    unfold pentaglotref40_Graph_Next.f
    rw [has_f]
    simp only [Option.bind_some]
    rw [if_neg hh]
    simp [Gph.next, hh]

theorem digits_size (n : Nat) : (digits n).size ≤ n + 1 := by
  induction n using Nat.strongRecOn with
  | ind n ih =>
    unfold digits
    split
    · simp [ByteArray.size]
    · have h1 := ih (n / 10) (by omega)
      have h2 : (digits (n % 10)).size = 1 := by unfold digits; rw [dif_pos (by omega)]; rfl
      rw [ByteArray.size_append, h2]
      omega
theorem str_one (n : Nat) : (some (strOfNums [((48 + n : Nat) : Int)]) : Option ByteArray) = some ⟨#[UInt8.ofNat (48 + n)]⟩ := by
  simp only [strOfNums, List.map_cons, List.map_nil, Int.toNat_natCast]
theorem digits_zero : digits 0 = ⟨#[UInt8.ofNat 48]⟩ := by
  unfold digits
  rw [dif_pos (by omega)]
theorem digits_f (n : Nat) (hn : n ≤ 9223372036854775807) : ∃ k, ∀ m, k ≤ m → pentaglotref40_Digits.f m (n : Int) = some (digits n) := by
  induction n using Nat.strongRecOn with
  | ind n ih =>
    by_cases h : n < 10
    · refine ⟨1, fun m hm => ?_⟩
      obtain ⟨m, rfl⟩ : ∃ q, m = q + 1 := ⟨m - 1, by omega⟩
      rw [pentaglotref40_Digits.f, if_pos (by omega)]
      unfold digits
      rw [dif_pos h]
      have hmx : mx (n : Int) 0 = n := by unfold mx; omega
      rw [hmx, w64 (by omega) (by omega)]
      have : (48 + (n : Int)) % 256 = ((48 + n : Nat) : Int) := by omega
      rw [this]
      exact str_one n
    · obtain ⟨k1, h1⟩ := ih (n / 10) (by omega) (by omega)
      obtain ⟨k2, h2⟩ := ih (n % 10) (by omega) (by omega)
      refine ⟨max k1 k2 + 1, fun m hm => ?_⟩
      obtain ⟨m, rfl⟩ : ∃ q, m = q + 1 := ⟨m - 1, by omega⟩
      have e1 : wrap64 (Int.tdiv (n : Int) 10) = ((n / 10 : Nat) : Int) := by
        rw [Int.tdiv_eq_ediv_of_nonneg (by omega)]
        rw [w64 (by omega) (by omega)]
        omega
      have e2 : Int.tmod (n : Int) 10 = ((n % 10 : Nat) : Int) := by rw [Int.tmod_eq_emod_of_nonneg (by omega)]; omega
      rw [pentaglotref40_Digits.f, if_neg (by omega), e1, e2, h1 m (by omega), h2 m (by omega)]
      simp only [Option.bind_some]
      have h3 := digits_size (n / 10)
      have h4 := digits_size (n % 10)
      rw [if_pos (by omega)]
      conv => rhs; unfold digits
      rw [dif_neg h]
theorem key_f (g : Gph) (s : Int) (h : s ≤ 9223372036854775807) : ∃ k, pentaglotref40_Graph_Key.f k g.E g.K g.Gs s = some (g.key s) := by
  have hneg : ∀ s : Int, s < 0 → pentaglotref40_Digits.f 1 s = some (digits s.toNat) := fun s hs => by
    rw [pentaglotref40_Digits.f, if_pos (by omega)]
    have hmx : mx s 0 = 0 := by unfold mx; omega
    rw [hmx, show s.toNat = 0 from by omega, digits_zero, w64 (by omega) (by omega)]
    exact str_one 0
  by_cases h0 : s ≥ 0
  · by_cases h1 : s < (g.K.length : Int)
    · refine ⟨0, ?_⟩
      unfold pentaglotref40_Graph_Key.f Gph.key
      rw [if_pos h0, if_pos h1, if_pos (by omega), if_pos ⟨by omega, h1⟩]
      rfl
    · obtain ⟨k, hk⟩ := digits_f s.toNat (by omega)
      refine ⟨k, ?_⟩
      have := hk k (Nat.le_refl _)
      rw [show ((s.toNat : Nat) : Int) = s from by omega] at this
      unfold pentaglotref40_Graph_Key.f Gph.key
      rw [if_pos h0, if_neg h1, if_neg (by omega), this]
      rfl
  · refine ⟨1, ?_⟩
    unfold pentaglotref40_Graph_Key.f Gph.key
    rw [if_neg h0, if_neg (by omega), hneg s (by omega)]
    rfl

/-- Whether two lists of numbers are equal. -/
theorem same_l0 (a b : List Int) (hab : a.length = b.length) (ha : a.length < 1000000000) : ∀ (d k : Nat) (i : Nat), a.length - i = d → i ≤ a.length → d < k → pentaglotref40_Same.l0 k a b (a.length : Int) (i : Int) = some (decide (a.drop i = b.drop i)) := by
  intro d
  induction d with
  | zero =>
    intro k i hd hi hk
    obtain ⟨k, rfl⟩ : ∃ m, k = m + 1 := ⟨k - 1, by omega⟩
    rw [pentaglotref40_Same.l0, if_neg (by omega)]
    rw [List.drop_eq_nil_of_le (by omega), List.drop_eq_nil_of_le (by omega)]
    rfl
  | succ d ih =>
    intro k i hd hi hk
    obtain ⟨k, rfl⟩ : ∃ m, k = m + 1 := ⟨k - 1, by omega⟩
    have hla : i < a.length := by omega
    have hlb : i < b.length := by omega
    have c0 : 0 ≤ (i : Int) := by omega
    have c1 : (i : Int) < (a.length : Int) := by omega
    have c2 : (i : Int) < (b.length : Int) := by omega
    have e1 := ih k (i + 1) (by omega) (by omega) (by omega)
    have hra : rd a (i : Int) = a[i] := by simp [rd, hla]
    have hrb : rd b (i : Int) = b[i] := by simp [rd, hlb]
    have hw : wrap64 ((i : Int) + 1) = ((i + 1 : Nat) : Int) := by rw [w64 (by omega) (by omega)]; omega
    rw [pentaglotref40_Same.l0]
    rw [if_pos c1, if_pos c0, if_pos c1, if_pos c2, hra, hrb, hw, List.drop_eq_getElem_cons hla, List.drop_eq_getElem_cons hlb]
    by_cases he : a[i] = b[i]
    · rw [if_pos he, e1, he]
      congr 1
      simp only [List.cons.injEq, true_and]
    · rw [if_neg he]
      congr 1
      simp only [List.cons.injEq, he, false_and, decide_false]
theorem same_f (a b : List Int) (ha : a.length < 1000000000) : ∃ k, pentaglotlaw40_same.f k a b = some (decide (a = b)) := by
  refine ⟨a.length + 1, ?_⟩
  unfold pentaglotlaw40_same.f pentaglotref40_Same.f
  by_cases hab : a.length = b.length
  · rw [if_pos (by omega)]
    have := same_l0 a b hab ha a.length (a.length + 1) 0 (by omega) (by omega) (by omega)
    rw [show ((0 : Nat) : Int) = 0 from rfl] at this
    rw [this]; simp
  · rw [if_neg (by omega)]
    have : a ≠ b := by rintro rfl; exact hab rfl
    simp [this]

end Go.Proofs.Ytipdejalohmkpaa.Gr

/- A graph in memory, and the methods of the problem that it is. -/
namespace Go.Proofs.Ytipdejalohmkpaa.Gr
open Go.RowKit Go.Proofs.YtipdejalohmkpaaW.PrintWords Go.Proofs.YtipdejalohmkpaaW.PrintLast Go.Proofs.YtipdejalohmkpaaW.PrintMore PBestfirstDistances

/-- A graph's three slices in memory. -/
structure GAt (g : Gph) (w : World) (A0 : Option Addr) (c0 : Nat) (A1 : Option Addr) (c1 : Nat) (A2 : Option Addr) (c2 : Nat) : Prop where
  h0 : Kd.C (Kd.slice 51 k51) w A0 g.E.length g.E
  l0 : g.E.length ≤ c0
  h1 : Kd.C Kd.string w A1 g.K.length g.K
  l1 : g.K.length ≤ c1
  h2 : Kd.C (Kd.int .i64) w A2 g.Gs.length g.Gs
  l2 : g.Gs.length ≤ c2
theorem GAt.below {g : Gph} {w w' : World} {A0 A1 A2 : Option Addr} {c0 c1 c2 : Nat} (h : GAt g w A0 c0 A1 c1 A2 c2) (hb : Below w.heap.size w w') : GAt g w' A0 c0 A1 c1 A2 c2 :=
  ⟨Kd.C_below h.h0 hb, h.l0, Kd.C_below h.h1 hb, h.l1, Kd.C_below h.h2 hb, h.l2⟩
theorem GAt.alloc {g : Gph} {w : World} {A0 A1 A2 : Option Addr} {c0 c1 c2 : Nat} (h : GAt g w A0 c0 A1 c1 A2 c2) (o : Obj) : GAt g (w.alloc o) A0 c0 A1 c1 A2 c2 := h.below (below_alloc (Below.refl _ _) o)
def gval (g : Gph) (A0 : Option Addr) (c0 : Nat) (A1 : Option Addr) (c1 : Nat) (A2 : Option Addr) (c2 : Nat) : Array Value := #[.slice A0 g.E.length c0, .slice A1 g.K.length c1, .slice A2 g.Gs.length c2]

section
variable {g : Gph} {w : World} {A0 A1 A2 : Option Addr} {c0 c1 c2 : Nat}
theorem gkey_any (h : GAt g w A0 c0 A1 c1 A2 c2) (s : Int) (hs : s ≤ 9223372036854775807) :
    Calls Try.prog 23 #[.agg #[.slice A0 g.E.length c0, .slice A1 g.K.length c1, .slice A2 g.Gs.length c2], .int .i64 s] w fun e w' => e = .returned (.string (g.key s)) ∧ Below w.heap.size w w' := by
  obtain ⟨k, hk⟩ := key_f g s hs
  exact pentaglotref40_Graph_Key.calls k A0 c0 g.E A1 c1 g.K A2 c2 g.Gs s (g.key s) w h.h0 h.l0 h.h1 h.l1 h.h2 h.l2 hk
theorem gnext_any (h : GAt g w A0 c0 A1 c1 A2 c2) (hl : g.large = false) (s : Int) :
    Calls Try.prog 22 #[.agg #[.slice A0 g.E.length c0, .slice A1 g.K.length c1, .slice A2 g.Gs.length c2], .int .i64 s] w fun e w' => ∃ v : Value, e = .returned v ∧ Kd.R k51 51 w' w.heap.size (fun _ => True) v (g.next s) ∧ Below w.heap.size w w' := by
  obtain ⟨k, hk⟩ := next_f g hl s
  exact pentaglotref40_Graph_Next.calls k A0 c0 g.E A1 c1 g.K A2 c2 g.Gs s (g.next s) w h.h0 h.l0 h.h1 h.l1 h.h2 h.l2 hk
theorem next_len (g : Gph) (hl : g.large = false) (s : Int) : (g.next s).length ≤ 8 := by
  unfold Gph.next
  split
  · rename_i hh
    have h0 : 0 ≤ s ∧ s < (g.E.length : Int) := by simpa [Gph.has] using hh
    have hlt : s.toNat < g.E.length := by omega
    simp only [Gph.large, Bool.or_eq_false_iff, List.any_eq_false, decide_eq_true_eq] at hl
    have h1 := hl.1.2 g.E[s.toNat] (List.getElem_mem hlt)
    have h2 := List.length_filter_le (fun x : S51 => g.has x.f0) (g.E.getD s.toNat [])
    rw [show g.E.getD s.toNat [] = g.E[s.toNat] from by simp [hlt]] at h2 ⊢
    omega
  · simp
theorem ghas_any (h : GAt g w A0 c0 A1 c1 A2 c2) (s : Int) :
    Calls Try.prog 13 #[.agg #[.slice A0 g.E.length c0, .slice A1 g.K.length c1, .slice A2 g.Gs.length c2], .int .i64 s] w fun e w' => e = .returned (.bool (g.has s)) ∧ Below w.heap.size w w' :=
  pentaglotref40_Graph_Has.calls A0 c0 g.E A1 c1 g.K A2 c2 g.Gs s (g.has s) w h.h0 h.l0 h.h1 h.l1 h.h2 h.l2 (has_f g s)

theorem goals_find (xs : List Int) (s : Int) (k : Nat) (hk : k < xs.length) : (xs.drop k).contains s = ((xs[k] == s) || (xs.drop (k + 1)).contains s) := by
  rw [List.drop_eq_getElem_cons hk, List.contains_cons]
  rw [Bool.beq_comm]
set_option maxHeartbeats 400000 in
theorem ggoal_any (h : GAt g w A0 c0 A1 c1 A2 c2) (s : Int) :
    Calls Try.prog 21 #[.agg #[.slice A0 g.E.length c0, .slice A1 g.K.length c1, .slice A2 g.Gs.length c2], .int .i64 s] w fun e w' => e = .returned (.bool (g.goal s)) ∧ Below w.heap.size w w' := by
  have H := Lib.hid h
  clear h
  have HC := Lib.hid (H.out.alloc (.cells #[.slice A0 g.E.length c0, .slice A1 g.K.length c1, .slice A2 g.Gs.length c2] 26)).h2
  have hm : (g.Gs.length : Int) ≤ 9223372036854775807 := by have := HC.out.2.1; omega
  have HF := Lib.hid (show (g.Gs.drop 0).contains s = g.goal s from rfl)

  go_enter Try.func21, Try.ntmps21
  go_wp2
  go_loop [10] (fun x => ∃ k : Nat, k ≤ g.Gs.length ∧ x = .int .i64 k ∧ Hid ((g.Gs.drop k).contains s = g.goal s)) (fun x => g.Gs.length - (intOf x).toNat)
  case atStart => exact ⟨0, Nat.zero_le _, rfl, HF⟩
  case round =>
    clear HF
    obtain ⟨k, hk, rfl, HR⟩ := hrel
    by_cases hlt : k < g.Gs.length
    · obtain ⟨ad, rfl, hcell⟩ := Kd.at_int HC.out (k : Int) (by omega) (by omega)
      have hrd : rd g.Gs (k : Int) = g.Gs[k] := by simp [rd, hlt]
      rw [hrd, Int.toNat_natCast] at hcell
      clear hrd
      have HS := Lib.hid (goals_find g.Gs s k hlt)
      obtain ⟨x, hx⟩ : ∃ x, g.Gs[k] = x := ⟨_, rfl⟩
      rw [hx] at hcell HS
      clear hx
      have hi0 : 0 ≤ (k : Int) := by omega
      by_cases he : x = s
      · subst he
        have hT : g.goal x = true := by rw [← HR.out, HS.out]; simp
        have HT := Lib.hid hT
        clear hT
        go_wp2
        go_ret
        exact ⟨by rw [HT.out]; rfl, (Below.refl _ _).alloc (Nat.le_refl _) _⟩
      · have hb : (x == s) = false := by simpa using he
        have hT : (g.Gs.drop (k + 1)).contains s = g.goal s := by rw [← HR.out, HS.out, hb]; simp
        have HT := Lib.hid hT
        clear hT
        go_wp2
        go_round
        case rel => exact ⟨k + 1, by omega, by go_num, HT⟩
        case measure => simp [intOf]; omega
    · have hT : g.goal s = false := by rw [← HR.out, List.drop_eq_nil_of_le (by omega)]; rfl
      have HT := Lib.hid hT
      clear hT
      go_wp2
      go_ret
      exact ⟨by rw [HT.out]; rfl, (Below.refl _ _).alloc (Nat.le_refl _) _⟩

set_option maxHeartbeats 400000 in
theorem pkey_any (h : GAt g w A0 c0 A1 c1 A2 c2) (s : Int) (hs : s ≤ 9223372036854775807) :
    Calls Try.prog 69 #[.agg #[.slice A0 g.E.length c0, .slice A1 g.K.length c1, .slice A2 g.Gs.length c2], .int .i64 s] w fun e w' => e = .returned (.string (g.key s)) ∧ Below w.heap.size w w' := by
  have H := Lib.hid h
  clear h
  go_enter Try.func69, Try.ntmps69
  go_wp2_with (go_at_call 23; refine (gkey_any (H.out.alloc _) s hs).mono ?_; rintro e w' ⟨rfl, hb⟩; have HB := Lib.hid hb; clear hb)
  go_ret
  exact ⟨rfl, ((Below.refl _ _).alloc (Nat.le_refl _) _).trans (HB.out.mono (by simp))⟩
set_option maxHeartbeats 400000 in
theorem pgoal_any (h : GAt g w A0 c0 A1 c1 A2 c2) (s : Int) :
    Calls Try.prog 68 #[.agg #[.slice A0 g.E.length c0, .slice A1 g.K.length c1, .slice A2 g.Gs.length c2], .int .i64 s] w fun e w' => e = .returned (.bool (g.goal s)) ∧ Below w.heap.size w w' := by
  have H := Lib.hid h
  clear h
  go_enter Try.func68, Try.ntmps68
  go_wp2_with (go_at_call 21; refine (ggoal_any (H.out.alloc _) s).mono ?_; rintro e w' ⟨rfl, hb⟩; have HB := Lib.hid hb; clear hb)
  go_ret
  exact ⟨rfl, ((Below.refl _ _).alloc (Nat.le_refl _) _).trans (HB.out.mono (by simp))⟩

/-- The kind of a step's cells: where it leads, and its cost. -/
def kstep : Kd (Int × Int) := Kd.pair (Kd.int .i64) (Kd.int .i64)
def steps (l : List S51) : List (Int × Int) := l.map fun x => (x.f0, x.f1)
theorem info102 : (Try.prog.info? 102).map (fun i => (i.zero, i.size, i.bytes)) = some (some (.agg #[.int .i64 0, .int .i64 0]), 2, 16) := by kernel_rfl
def PnRel (l : List S51) (k : Nat) (w1 : World) (v : Value) (wr : World) : Prop := kstep.R 102 wr w1.heap.size (fun _ => True) v (steps (l.take k)) ∧ Below w1.heap.size w1 wr
set_option maxHeartbeats 400000 in
theorem pnext_any (h : GAt g w A0 c0 A1 c1 A2 c2) (hl : g.large = false) (s : Int) :
    Calls Try.prog 70 #[.agg #[.slice A0 g.E.length c0, .slice A1 g.K.length c1, .slice A2 g.Gs.length c2], .int .i64 s] w fun e w' => ∃ v : Value, e = .returned v ∧ kstep.R 102 w' w.heap.size (fun _ => True) v (steps (g.next s)) ∧ Below w.heap.size w w' := by
  have H := Lib.hid h
  clear h
  go_enter Try.func70, Try.ntmps70
  go_wp2_with (go_at_call 22; refine (gnext_any (H.out.alloc _) hl s).mono ?_; rintro e w' ⟨v, rfl, hv, hb⟩; obtain ⟨A, c, rfl, hlc, hC⟩ := Kd.R_reads hv; have HB := Lib.hid hb; have HV := Lib.hid hv; have HC := Lib.hid hC; clear hb hv hC)
  go_loopw [5, 13] (fun v5 v13 wr => ∃ k : Nat, k ≤ (g.next s).length ∧ v13 = .int .i64 k ∧ PnRel (g.next s) k w' v5 wr) (fun _ v13 _ => (g.next s).length - (intOf v13).toNat)
  case atStart => exact ⟨0, Nat.zero_le _, rfl, Kd.R_nil _ _ _ _ _, Below.refl _ _⟩
  case round =>
    have HW : Hid (Below w.heap.size w w') := ((Below.refl _ _).alloc (Nat.le_refl _) _).trans (HB.out.mono (by simp))
    obtain ⟨k, hk, rfl, hR, hB⟩ := hrel
    have HR := Lib.hid hR
    have HBr := Lib.hid hB
    clear hR hB HB HV H
    have hm := HC.out.2.1
    by_cases hlt : k < (g.next s).length
    · obtain ⟨ad, rfl, hx0, hx1⟩ := at_T51 HC.out (k : Int) (by omega) (by omega)
      have hrd : rd_T51 (g.next s) (k : Int) = (g.next s)[k] := by simp [rd_T51, hlt]
      rw [hrd, Int.toNat_natCast] at hx0 hx1
      replace hx0 := (HBr.out.cell (World.block_lt_of_cell? w' _ hx0)).trans hx0
      replace hx1 := (HBr.out.cell (World.block_lt_of_cell? w' _ hx1)).trans hx1
      clear hrd
      have hi0 : 0 ≤ (k : Int) := by omega
      have hi1 : (k : Int) < ((g.next s).length : Int) := by omega
      have htk : steps ((g.next s).take k) ++ [((g.next s)[k].f0, (g.next s)[k].f1)] = steps ((g.next s).take (k + 1)) := by
        unfold steps; rw [List.take_succ_eq_append_getElem hlt, List.map_append]; rfl
      have hln : (steps ((g.next s).take k)).length < 1000000 := by
        have h1 := next_len g hl s
        simp [steps]; omega
      have HTK := Lib.hid htk
      have HLN := Lib.hid hln
      clear htk hln
      obtain ⟨x0, ex0⟩ : ∃ x, (g.next s)[k].f0 = x := ⟨_, rfl⟩
      obtain ⟨x1, ex1⟩ : ∃ x, (g.next s)[k].f1 = x := ⟨_, rfl⟩
      rw [ex0, ex1] at HTK
      rw [ex0] at hx0
      rw [ex1] at hx1
      clear ex0 ex1
      go_wp2_with (first | (at_builtin; go_loud (refine Kd.R_append kstep (w0 := w') w'.heap.size rfl (.tmp 17) (.tmp 23) 100 102 _ 16 rfl Try.underlying100 info102 rfl (by decide) (by decide) _ (steps ((g.next s).take k)) (x0, x1) [.int .i64 x0, .int .i64 x1] (fun _ => True) (fun _ => False) rfl (by simp [Act.eval]) ⟨_, _, rfl, rfl, rfl⟩ (fun _ h => h.elim) (fun _ _ => trivial) (Kd.R_alloc HR.out _) (HBr.out.alloc HBr.out.size _) (Nat.le_trans HBr.out.size (by simp)) (by have := HLN.out; omega) ?_); intro v1 w1 hR1 hB1 _ _; have HP : PnRel (g.next s) (k + 1) w' v1 w1 := ⟨by rw [← HTK.out]; exact hR1, hB1⟩; clear hR1 hB1))
      go_roundw
      case rel => exact ⟨k + 1, by omega, by go_num, HP⟩
      case measure => simp [intOf]; omega
    · obtain rfl : k = (g.next s).length := by omega
      rw [List.take_length] at HR
      go_wp2
      go_ret
      exact ⟨_, rfl, Kd.R_lower HR.out HW.size, HW.trans (HBr.out.mono HW.size)⟩
end
end Go.Proofs.Ytipdejalohmkpaa.Gr

/- The search, without program and memory: a list of entries in the order in which they were added; each step takes the first of the cheapest. -/
namespace Go.Proofs.Ytipdejalohmkpaa.Sr

def maxCount : Int := 1099511627776
def maxBudget : Int := 1048576
/-- A state, the states before it (the last one first), the cost of the path and a number. -/
structure Ent (σ : Type) where
  st : σ
  bk : List σ
  cost : Int
  num : Nat
def Ent.rp {σ : Type} (e : Ent σ) : List σ := e.st :: e.bk
inductive Out (σ : Type) where
  | notFound (order : List σ)
  | budget (order : List σ)
  | found (e : Ent σ) (order : List σ)
structure Prob (σ : Type) where
  key : σ → ByteArray
  next : σ → List (σ × Int)

variable {σ : Type}
/-- The entries that an expansion adds. -/
def pushes (e : Ent σ) : List (σ × Int) → Nat → List (Ent σ)
  | [], _ => []
  | x :: r, n => if x.2 < 0 ∨ x.2 > maxCount - e.cost then pushes e r n else ⟨x.1, e.st :: e.bk, e.cost + x.2, n⟩ :: pushes e r (n + 1)
/-- The index of the first of the cheapest entries: the scan from place i on, k being the best so far. -/
def scan (L : List (Ent σ)) : List (Ent σ) → Nat → Nat → Nat
  | [], _, k => k
  | x :: r, i, k => scan L r (i + 1) (if x.cost < (L[k]?.map (·.cost)).getD 0 then i else k)
def minIdx (L : List (Ent σ)) : Nat := scan L L 0 0
def was (p : Prob σ) (order : List σ) (s : σ) : Bool := order.any fun x => p.key x == p.key s
/-- The search: at most k rounds. -/
def run (p : Prob σ) (goal : σ → Bool) (budget : Nat) : Nat → List (Ent σ) → List σ → Nat → Option (Out σ)
  | 0, _, _, _ => none
  | k + 1, L, order, added =>
    match L[minIdx L]? with
    | none => some (.notFound order)
    | some e =>
      if was p order e.st then run p goal budget k (L.eraseIdx (minIdx L)) order added
      else if goal e.st then some (.found e order)
      else if order.length = budget then some (.budget order)
      else run p goal budget k (L.eraseIdx (minIdx L) ++ pushes e (p.next e.st) added) (order ++ [e.st]) (added + (pushes e (p.next e.st) added).length)

theorem run_mono (p : Prob σ) (goal : σ → Bool) (budget : Nat) : ∀ (k : Nat) (L : List (Ent σ)) (order : List σ) (added : Nat) (o : Out σ), run p goal budget k L order added = some o → run p goal budget (k + 1) L order added = some o := by
  intro k
  induction k with
  | zero => intro L order added o h; simp [run] at h
  | succ k ih =>
    intro L order added o h
    rw [run] at h ⊢
    split at h
    · exact h
    · rename_i e he
      split
      · rename_i hw; rw [if_pos hw] at h; exact ih _ _ _ _ h
      · rename_i hw
        rw [if_neg hw] at h
        split
        · rename_i hg; rw [if_pos hg] at h; exact h
        · rename_i hg
          rw [if_neg hg] at h
          split
          · rename_i hb; rw [if_pos hb] at h; exact h
          · rename_i hb; rw [if_neg hb] at h; exact ih _ _ _ _ h

section
variable {p : Prob σ} {goal : σ → Bool} {budget k : Nat} {L : List (Ent σ)} {order : List σ} {added : Nat} {o : Out σ} {x : Ent σ}
theorem run_was (hx : L[minIdx L]? = some x) (hw : was p order x.st = true) (h : run p goal budget (k + 1) L order added = some o) : run p goal budget k (L.eraseIdx (minIdx L)) order added = some o := by
  rw [run, hx] at h; simpa [hw] using h
theorem run_goal (hx : L[minIdx L]? = some x) (hw : was p order x.st = false) (hg : goal x.st = true) (h : run p goal budget (k + 1) L order added = some o) : o = .found x order := by
  rw [run, hx] at h; simpa [hw, hg, eq_comm] using h
theorem run_budget (hx : L[minIdx L]? = some x) (hw : was p order x.st = false) (hg : goal x.st = false) (hb : order.length = budget) (h : run p goal budget (k + 1) L order added = some o) : o = .budget order := by
  rw [run, hx] at h; simpa [hw, hg, hb, eq_comm] using h
theorem run_expand (hx : L[minIdx L]? = some x) (hw : was p order x.st = false) (hg : goal x.st = false) (hb : order.length ≠ budget) (h : run p goal budget (k + 1) L order added = some o) :
    run p goal budget k (L.eraseIdx (minIdx L) ++ pushes x (p.next x.st) added) (order ++ [x.st]) (added + (pushes x (p.next x.st) added).length) = some o := by
  rw [run, hx] at h; simpa [hw, hg, hb] using h
theorem was_any (s : σ) : ((order.map p.key).any fun y => y == p.key s) = was p order s := by simp [was, List.any_map, Function.comp_def]
end

/-- Numbers rise along the list. -/
def Rising (L : List (Ent σ)) (added : Nat) : Prop := L.Pairwise (fun a b => a.num < b.num) ∧ ∀ e ∈ L, e.num < added
def costs (L : List (Ent σ)) (i : Nat) : Int := (L[i]?.map (·.cost)).getD 0
theorem scan_spec (L : List (Ent σ)) : ∀ (r : List (Ent σ)) (i k : Nat), L.drop i = r → k ≤ i → k < L.length → (∀ j, j < i → j < k → costs L k < costs L j) → (∀ j, j < i → costs L k ≤ costs L j) →
    scan L r i k < L.length ∧ (∀ j, j < scan L r i k → costs L (scan L r i k) < costs L j) ∧ (∀ j, j < L.length → costs L (scan L r i k) ≤ costs L j) := by
  intro r
  induction r with
  | nil =>
    intro i k hr hki hk h1 h2
    have hi : L.length ≤ i := by
      have : (L.drop i).length = 0 := by rw [hr]; rfl
      simp at this; omega
    exact ⟨hk, fun j hj => h1 j (by have : scan L [] i k = k := rfl; omega) hj, fun j hj => h2 j (by omega)⟩
  | cons x r ih =>
    intro i k hr hki hk h1 h2
    have hi : i < L.length := by
      have : (L.drop i).length = r.length + 1 := by rw [hr]; rfl
      simp at this; omega
    have hx : L[i]? = some x := by
      have : (L.drop i)[0]? = some x := by rw [hr]; rfl
      simpa using this
    have hr' : L.drop (i + 1) = r := by
      have : (L.drop i).drop 1 = r := by rw [hr]; rfl
      rwa [List.drop_drop] at this
    have hxc : costs L i = x.cost := by simp [costs, hx]
    rw [scan]
    by_cases hc : x.cost < (L[k]?.map (·.cost)).getD 0
    · rw [if_pos hc]
      have hc' : costs L i < costs L k := by rw [hxc]; exact hc
      refine ih (i + 1) i hr' (by omega) hi (fun j hj hji => ?_) (fun j hj => ?_)
      · have := h2 j hji; omega
      · by_cases e : j = i
        · subst e; omega
        · have := h2 j (by omega); omega
    · rw [if_neg hc]
      have hc' : costs L k ≤ costs L i := by rw [hxc]; unfold costs; omega
      refine ih (i + 1) k hr' (by omega) hk (fun j hj hjk => h1 j (by omega) hjk) (fun j hj => ?_)
      by_cases e : j = i
      · subst e; exact hc'
      · exact h2 j (by omega)
theorem minIdx_spec (L : List (Ent σ)) (h : L ≠ []) : minIdx L < L.length ∧ (∀ j, j < minIdx L → costs L (minIdx L) < costs L j) ∧ (∀ j, j < L.length → costs L (minIdx L) ≤ costs L j) := by
  have hl : 0 < L.length := List.length_pos_iff.2 h
  exact scan_spec L L 0 0 (by simp) (by omega) hl (fun j hj => by omega) (fun j hj => by omega)
theorem minIdx_nil : (([] : List (Ent σ))[minIdx ([] : List (Ent σ))]?) = none := by simp

/-- The first of the cheapest is the least by cost and number. -/
theorem min_least {L : List (Ent σ)} {added : Nat} (hr : Rising L added) {e : Ent σ} (he : L[minIdx L]? = some e) : ∀ x ∈ L, e.cost < x.cost ∨ (e.cost = x.cost ∧ e.num ≤ x.num) := by
  have hne : L ≠ [] := by rintro rfl; simp at he
  obtain ⟨hlt, h1, h2⟩ := minIdx_spec L hne
  intro x hx
  obtain ⟨j, hj, hjx⟩ := List.getElem_of_mem hx
  have hej : L[minIdx L] = e := by simpa [List.getElem?_eq_getElem hlt] using he
  have cj : costs L j = x.cost := by simp [costs, List.getElem?_eq_getElem hj, hjx]
  have ce : costs L (minIdx L) = e.cost := by simp [costs, he]
  by_cases hlt2 : j < minIdx L
  · have := h1 j hlt2; left; omega
  · by_cases heq : j = minIdx L
    · subst heq; right; rw [hej] at hjx; subst hjx; exact ⟨rfl, Nat.le_refl _⟩
    · have h3 := h2 j hj
      rw [ce, cj] at h3
      by_cases h4 : e.cost = x.cost
      · right
        refine ⟨h4, ?_⟩
        have := List.pairwise_iff_getElem.1 hr.1 (minIdx L) j hlt hj (by omega)
        rw [hej, hjx] at this
        omega
      · left; omega
/-- Of a rearrangement whose head is least by cost and number, the head is the one that the search takes. -/
theorem min_head {L : List (Ent σ)} {added : Nat} (hr : Rising L added) {x : Ent σ} {r : List (Ent σ)} (hp : (x :: r).Perm L) (hx : ∀ y ∈ L, x.cost < y.cost ∨ (x.cost = y.cost ∧ x.num ≤ y.num)) :
    L[minIdx L]? = some x ∧ r.Perm (L.eraseIdx (minIdx L)) := by
  have hne : L ≠ [] := by rintro rfl; exact absurd hp.length_eq (by simp)
  obtain ⟨hlt, _, _⟩ := minIdx_spec L hne
  have he : L[minIdx L]? = some L[minIdx L] := List.getElem?_eq_getElem hlt
  have hxm : x ∈ L := hp.mem_iff.1 (by simp)
  have h1 := min_least hr he x hxm
  have h2 := hx L[minIdx L] (List.getElem_mem hlt)
  have hnum : L[minIdx L].num = x.num := by omega
  have hxe : L[minIdx L] = x := by
    obtain ⟨j, hj, hjx⟩ := List.getElem_of_mem hxm
    by_cases e : j = minIdx L
    · subst e; exact hjx
    · exfalso
      rcases Nat.lt_or_gt_of_ne e with h | h
      · have := List.pairwise_iff_getElem.1 hr.1 j (minIdx L) hj hlt h
        rw [hjx] at this; omega
      · have := List.pairwise_iff_getElem.1 hr.1 (minIdx L) j hlt hj h
        rw [hjx] at this; omega
  refine ⟨by rw [he, hxe], ?_⟩
  have hp2 : (x :: L.eraseIdx (minIdx L)).Perm L := by
    rw [List.eraseIdx_eq_take_drop_succ]
    have h3 : L = L.take (minIdx L) ++ x :: L.drop (minIdx L + 1) := by
      have h4 := (List.take_append_drop (minIdx L) L).symm
      rw [List.drop_eq_getElem_cons hlt, hxe] at h4
      exact h4
    conv => rhs; rw [h3]
    exact List.perm_middle.symm
  exact (hp.trans hp2.symm).cons_inv
theorem rising_len (L : List (Ent σ)) : ∀ (n : Nat), L.Pairwise (fun a b => a.num < b.num) → (∀ e ∈ L, n ≤ e.num) → ∀ added, (∀ e ∈ L, e.num < added) → n ≤ added → n + L.length ≤ added := by
  induction L with
  | nil => intro n _ _ added _ h; simpa using h
  | cons x r ih =>
    intro n hp hn added ha _
    have h1 := List.pairwise_cons.1 hp
    have hx := hn x (by simp)
    have hx2 := ha x (by simp)
    have := ih (n + 1) h1.2 (fun e he => by have := h1.1 e he; omega) added (fun e he => ha e (by simp [he])) (by omega)
    simp; omega
theorem Rising.length {L : List (Ent σ)} {added : Nat} (h : Rising L added) : L.length ≤ added := by
  have := rising_len L 0 h.1 (fun _ _ => Nat.zero_le _) added h.2 (Nat.zero_le _)
  omega
theorem Rising.erase {L : List (Ent σ)} {added : Nat} (hr : Rising L added) (i : Nat) : Rising (L.eraseIdx i) added :=
  ⟨hr.1.sublist (List.eraseIdx_sublist ..), fun e he => hr.2 e ((List.eraseIdx_sublist ..).subset he)⟩
theorem pushes_mem (e : Ent σ) : ∀ (r : List (σ × Int)) (n : Nat) (x : Ent σ), x ∈ pushes e r n → n ≤ x.num ∧ x.num < n + (pushes e r n).length := by
  intro r
  induction r with
  | nil => intro n x hx; simp [pushes] at hx
  | cons y r ih =>
    intro n x hx
    unfold pushes at hx ⊢
    split at hx
    · rename_i h; rw [if_pos h]; exact ih n x hx
    · rename_i h
      rw [if_neg h]
      rcases List.mem_cons.1 hx with rfl | hx
      · simp
      · have := ih (n + 1) x hx; simp; omega
theorem pushes_rising (e : Ent σ) : ∀ (r : List (σ × Int)) (n : Nat), (pushes e r n).Pairwise (fun a b => a.num < b.num) := by
  intro r
  induction r with
  | nil => intro n; simp [pushes]
  | cons y r ih =>
    intro n
    unfold pushes
    split
    · exact ih n
    · exact List.pairwise_cons.2 ⟨fun b hb => by have := pushes_mem e r (n + 1) b hb; simp; omega, ih (n + 1)⟩
theorem Rising.push {L : List (Ent σ)} {added : Nat} (hr : Rising L added) (e : Ent σ) (r : List (σ × Int)) : Rising (L ++ pushes e r added) (added + (pushes e r added).length) := by
  refine ⟨List.pairwise_append.2 ⟨hr.1, pushes_rising e r added, fun a ha b hb => ?_⟩, fun x hx => ?_⟩
  · have := hr.2 a ha; have := pushes_mem e r added b hb; omega
  · rcases List.mem_append.1 hx with h | h
    · have := hr.2 x h; omega
    · exact (pushes_mem e r added x h).2

end Go.Proofs.Ytipdejalohmkpaa.Sr

/- A set of strings kept as a map from strings to true: looking up, and adding a new string. -/
namespace Go.Proofs.Ytipdejalohmkpaa
open Go.RowKit

instance lawful_bytes : LawfulBEq ByteArray where
  eq_of_beq {a b} h := by
    cases a; cases b
    have h' : (_ == _) = true := h
    congr 1
    exact eq_of_beq h'
  rfl {a} := by
    cases a
    rename_i d
    exact beq_self_eq_true d

/-- Block b is a map whose keys are the strings ks, all with the value true. -/
def SetAt (w : World) (b : Nat) (ks : List ByteArray) : Prop :=
  ∃ es clock, w.heap[b]? = some (.map es clock) ∧ es.toList.map (·.key) = ks.map Value.string ∧ ∀ e ∈ es.toList, e.val = .bool true
theorem SetAt.made (w : World) : SetAt (w.alloc (.map #[] 0)) w.heap.size [] := ⟨#[], 0, by show (w.heap.push _)[w.heap.size]? = _; simp, rfl, by simp⟩
theorem SetAt.of_block {w w' : World} {b : Nat} {ks : List ByteArray} (h : SetAt w b ks) (hb : w'.heap[b]? = w.heap[b]?) : SetAt w' b ks := by
  obtain ⟨es, cl, h1, h2⟩ := h
  exact ⟨es, cl, hb.trans h1, h2⟩
theorem SetAt.lt {w : World} {b : Nat} {ks : List ByteArray} (h : SetAt w b ks) : b < w.heap.size := by
  obtain ⟨es, cl, h1, _⟩ := h
  exact (Array.getElem?_eq_some_iff.1 h1).1

theorem find_set (k : ByteArray) : ∀ (l : List MapEntry) (ks : List ByteArray) (i : Nat), l.map (·.key) = ks.map Value.string → (∀ e ∈ l, e.val = .bool true) →
    ((ks.any fun x => x == k) = true → ∃ j, Instr.findNow .string (.string k) l i = some (some (j, .bool true))) ∧ ((ks.any fun x => x == k) = false → Instr.findNow .string (.string k) l i = some none)
  | [], ks, i, h, _ => by
    have : ks = [] := by cases ks with | nil => rfl | cons _ _ => simp at h
    subst this
    exact ⟨fun h => by simp at h, fun _ => rfl⟩
  | e :: l, [], i, h, _ => by simp at h
  | e :: l, x :: ks, i, h, hv => by
    simp only [List.map_cons, List.cons.injEq] at h
    have ih := find_set k l ks (i + 1) h.2 (fun e' he' => hv e' (List.mem_cons_of_mem _ he'))
    have hve := hv e List.mem_cons_self
    rw [Instr.findNow, h.1]
    by_cases hk : k = x
    · subst hk
      have h1 : (k == k) = true := beq_self_eq_true k
      simp only [Instr.sameNow, h1, hve, List.any_cons, Bool.true_or]
      exact ⟨fun _ => ⟨i, rfl⟩, fun h => by simp at h⟩
    · have h1 : (k == x) = false := by rw [beq_eq_false_iff_ne]; exact hk
      have h2 : (x == k) = false := by rw [beq_eq_false_iff_ne]; exact fun (h : x = k) => hk h.symm
      simp only [Instr.sameNow, h1, List.any_cons, h2, Bool.false_or]
      exact ih

theorem und87 (w : World) : (underlying 87).run Try.prog w = .ok (.map 9 4) w := by kernel_rfl
theorem und9 (w : World) : (underlying 9).run Try.prog w = .ok .string w := by kernel_rfl
theorem zero4 (w : World) : (zeroValue 4).run Try.prog w = .ok (.bool false) w := by kernel_rfl
theorem check_str (k : ByteArray) (e : Bool) (w : World) : (Instr.checkKey e 10000 9 (.string k)).run Try.prog w = .ok () w := by
  have h : ∀ n, (Instr.checkKey e (n + 1) 9 (.string k)).run Try.prog w = .ok () w := fun n => by
    rw [Instr.checkKey, Sem.run_bind, und9]
    rfl
  exact h 9999
theorem SetAt.lookup {w : World} {b : Nat} {ks : List ByteArray} (h : SetAt w b ks) (k : ByteArray) :
    (Instr.lookup 87 (.map (some b)) (.string k) false).run Try.prog w = .ok (.bool (ks.any fun x => x == k)) w := by
  obtain ⟨es, cl, h1, h2, h3⟩ := h
  have hf := find_set k es.toList ks 0 h2 h3
  have hg : (getObj b).run Try.prog w = .ok (.map es cl) w := by simp [getObj, Sem.run, h1]
  have hk : ∀ r, Instr.findNow .string (.string k) es.toList 0 = some r → (Instr.findKey 9 (.string k) es.toList).run Try.prog w = .ok r w := fun r hr => by
    unfold Instr.findKey
    rw [Sem.run_bind, und9, Result.andThen_ok, hr]
    rfl
  unfold Instr.lookup
  rw [Sem.run_bind, und87, Result.andThen_ok]
  dsimp only
  rw [Sem.run_bind, hg, Result.andThen_ok]
  dsimp only
  rw [Sem.run_bind, Sem.run_pure, Result.andThen_ok, Sem.run_bind, check_str, Result.andThen_ok, Sem.run_bind]
  cases hc : (ks.any fun x => x == k) with
  | true =>
    obtain ⟨j, hj⟩ := hf.1 hc
    rw [hk _ hj]
    rfl
  | false =>
    rw [hk _ (hf.2 hc), Result.andThen_ok]
    dsimp only
    rw [Sem.run_bind, zero4]
    rfl
theorem SetAt.add {w : World} {b : Nat} {ks : List ByteArray} (h : SetAt w b ks) (k : ByteArray) (hn : (ks.any fun x => x == k) = false) :
    ∃ w', (Instr.mapUpdate 87 (.map (some b)) (.string k) (.bool true)).run Try.prog w = .ok () w' ∧ SetAt w' b (ks ++ [k]) ∧ w.grownBy w' (some b) := by
  obtain ⟨es, cl, h1, h2, h3⟩ := h
  have hf := (find_set k es.toList ks 0 h2 h3).2 hn
  have hg : (getObj b).run Try.prog w = .ok (.map es cl) w := by simp [getObj, Sem.run, h1]
  have hk : (Instr.findKey 9 (.string k) es.toList).run Try.prog w = .ok none w := by
    unfold Instr.findKey
    rw [Sem.run_bind, und9, Result.andThen_ok, hf]
    rfl
  refine ⟨{ w with heap := w.heap.setIfInBounds b (.map (es.push { key := .string k, val := .bool true, born := cl }) (cl + 1)) }, ?_, ?_, ?_⟩
  · unfold Instr.mapUpdate
    rw [Sem.run_bind, und87, Result.andThen_ok]
    dsimp only
    rw [Sem.run_bind, hg, Result.andThen_ok]
    dsimp only
    rw [Sem.run_bind, check_str, Result.andThen_ok, Sem.run_bind, hk, Result.andThen_ok]
    simp [setObj, Sem.run, h1]
  · have hlt : b < w.heap.size := (Array.getElem?_eq_some_iff.1 h1).1
    refine ⟨es.push { key := .string k, val := .bool true, born := cl }, cl + 1, by simp [hlt], by simp [h2], ?_⟩
    intro e he
    simp at he
    rcases he with he | rfl
    · exact h3 e (by simpa using he)
    · rfl
  · exact ⟨rfl, rfl, rfl, by simp, fun i _ hi => by simp only [Array.getElem?_setIfInBounds]; rw [if_neg (fun e => hi (by rw [e]))]⟩

end Go.Proofs.Ytipdejalohmkpaa

/- The search ends; its paths are short; the same search over other names of the states. -/
namespace Go.Proofs.Ytipdejalohmkpaa.Sr
variable {σ : Type}

theorem pushes_le (x : Ent σ) : ∀ (r : List (σ × Int)) (n : Nat), (pushes x r n).length ≤ r.length := by
  intro r
  induction r with
  | nil => intro n; simp [pushes]
  | cons y r ih =>
    intro n
    unfold pushes
    split
    · have := ih n; simp; omega
    · have := ih (n + 1); simp; omega
theorem pushes_st (x : Ent σ) : ∀ (r : List (σ × Int)) (n : Nat) (e : Ent σ), e ∈ pushes x r n → e.bk = x.st :: x.bk ∧ ∃ y ∈ r, y.1 = e.st := by
  intro r
  induction r with
  | nil => intro n e he; simp [pushes] at he
  | cons y r ih =>
    intro n e he
    unfold pushes at he
    split at he
    · obtain ⟨h1, z, hz, h2⟩ := ih n e he; exact ⟨h1, z, by simp [hz], h2⟩
    · rcases List.mem_cons.1 he with rfl | he
      · exact ⟨rfl, y, by simp, rfl⟩
      · obtain ⟨h1, z, hz, h2⟩ := ih (n + 1) e he; exact ⟨h1, z, by simp [hz], h2⟩
theorem was_false {p : Prob σ} {order : List σ} {s : σ} (h : was p order s = false) : ∀ x ∈ order, p.key x ≠ p.key s := by
  intro x hx e
  unfold was at h
  rw [List.any_eq_false] at h
  exact h x hx (by rw [e]; exact beq_self_eq_true _)
theorem was_true {p : Prob σ} {order : List σ} {s : σ} (h : was p order s = true) : ∃ x ∈ order, p.key x = p.key s := by
  unfold was at h
  obtain ⟨x, hx, h1⟩ := List.any_eq_true.1 h
  exact ⟨x, hx, eq_of_beq h1⟩

/-- The states that were expanded have different keys. -/
def KeysNe (p : Prob σ) (order : List σ) : Prop := order.Pairwise fun a b => p.key a ≠ p.key b
theorem KeysNe.snoc {p : Prob σ} {order : List σ} {s : σ} (h : KeysNe p order) (hw : was p order s = false) : KeysNe p (order ++ [s]) :=
  List.pairwise_append.2 ⟨h, by simp, fun a ha b hb => by obtain rfl : b = s := by simpa using hb
                                                          exact was_false hw a ha⟩
theorem KeysNe.nodup {p : Prob σ} {order : List σ} (h : KeysNe p order) : order.Nodup := h.imp fun hab e => hab (by rw [e])

theorem run_ends (p : Prob σ) (goal : σ → Bool) (budget : Nat) (dom : List σ) (hclosed : ∀ s ∈ dom, ∀ y ∈ p.next s, y.1 ∈ dom) (hfew : ∀ s, (p.next s).length ≤ 8) :
    ∀ (k : Nat) (L : List (Ent σ)) (order : List σ) (added : Nat), L.length + 9 * (dom.length - order.length) < k → (∀ e ∈ L, e.st ∈ dom) → (∀ s ∈ order, s ∈ dom) → KeysNe p order → ∃ out, run p goal budget k L order added = some out := by
  intro k
  induction k with
  | zero => intro L order added h; omega
  | succ k ih =>
    intro L order added hk hL ho hn
    rw [run]
    cases hx : L[minIdx L]? with
    | none => exact ⟨_, rfl⟩
    | some x =>
      obtain ⟨hlt, _⟩ := List.getElem?_eq_some_iff.1 hx
      have hxm : x ∈ L := List.mem_of_getElem? hx
      have hel : (L.eraseIdx (minIdx L)).length + 1 = L.length := by rw [List.length_eraseIdx_of_lt hlt]; omega
      have hes : ∀ e ∈ L.eraseIdx (minIdx L), e.st ∈ dom := fun e he => hL e ((List.eraseIdx_sublist ..).subset he)
      dsimp only
      cases hw : was p order x.st with
      | true =>
        simp only [if_true]
        exact ih _ _ _ (by omega) hes ho hn
      | false =>
        simp only [Bool.false_eq_true, if_false]
        by_cases hg : goal x.st = true
        · rw [if_pos hg]; exact ⟨_, rfl⟩
        · rw [if_neg hg]
          by_cases hb : order.length = budget
          · rw [if_pos hb]; exact ⟨_, rfl⟩
          · rw [if_neg hb]
            have hn2 := hn.snoc hw
            have ho2 : ∀ s ∈ order ++ [x.st], s ∈ dom := fun s hs => by
              rcases List.mem_append.1 hs with h | h
              · exact ho s h
              · obtain rfl : s = x.st := by simpa using h
                exact hL x hxm
            have hle := List.Nodup.length_le_of_subset hn2.nodup ho2
            have hp := pushes_le x (p.next x.st) added
            have hf := hfew x.st
            simp at hle
            refine ih _ _ _ (by simp; omega) (fun e he => ?_) ho2 hn2
            rcases List.mem_append.1 he with h | h
            · exact hes e h
            · obtain ⟨_, y, hy, h2⟩ := pushes_st x _ _ e h
              rw [← h2]
              exact hclosed x.st (hL x hxm) y hy

theorem run_len (p : Prob σ) (goal : σ → Bool) (budget : Nat) : ∀ (k : Nat) (L : List (Ent σ)) (order : List σ) (added : Nat) (x : Ent σ) (o : List σ), (∀ e ∈ L, e.bk.length ≤ order.length) → order.length ≤ budget → run p goal budget k L order added = some (.found x o) → x.rp.length ≤ budget + 1 := by
  intro k
  induction k with
  | zero => intro L order added x o _ _ h; simp [run] at h
  | succ k ih =>
    intro L order added x o hL ho h
    rw [run] at h
    cases hx : L[minIdx L]? with
    | none => rw [hx] at h; cases h
    | some y =>
      rw [hx] at h
      dsimp only at h
      have hym : y ∈ L := List.mem_of_getElem? hx
      have hes : ∀ e ∈ L.eraseIdx (minIdx L), e.bk.length ≤ order.length := fun e he => hL e ((List.eraseIdx_sublist ..).subset he)
      split at h
      · exact ih _ _ _ _ _ hes ho h
      · split at h
        · injection h with h
          injection h with h1 h2
          subst h1
          have := hL y hym
          simp [Ent.rp]; omega
        · split at h
          · cases h
          · refine ih _ _ _ _ _ (fun e he => ?_) (by simp; omega) h
            rcases List.mem_append.1 he with h3 | h3
            · have := hes e h3; simp; omega
            · obtain ⟨h4, _⟩ := pushes_st y _ _ e h3
              have := hL y hym
              rw [h4]; simp; omega

/-- The same search over other names of the states. -/
def Ent.map {τ : Type} (f : σ → τ) (e : Ent σ) : Ent τ := ⟨f e.st, e.bk.map f, e.cost, e.num⟩
def Out.map {τ : Type} (f : σ → τ) : Out σ → Out τ
  | .notFound o => .notFound (o.map f)
  | .budget o => .budget (o.map f)
  | .found e o => .found (e.map f) (o.map f)
theorem scan_map {τ : Type} (f : σ → τ) (L : List (Ent σ)) : ∀ (r : List (Ent σ)) (i k : Nat), scan (L.map (Ent.map f)) (r.map (Ent.map f)) i k = scan L r i k := by
  intro r
  induction r with
  | nil => intro i k; rfl
  | cons x r ih =>
    intro i k
    rw [List.map_cons, scan, scan, ih]
    congr 2
    simp only [List.getElem?_map, Option.map_map]
    rfl
theorem minIdx_map {τ : Type} (f : σ → τ) (L : List (Ent σ)) : minIdx (L.map (Ent.map f)) = minIdx L := scan_map f L L 0 0
theorem pushes_map {τ : Type} (f : σ → τ) (x : Ent σ) : ∀ (r : List (σ × Int)) (n : Nat), pushes (x.map f) (r.map fun y => (f y.1, y.2)) n = (pushes x r n).map (Ent.map f) := by
  intro r
  induction r with
  | nil => intro n; rfl
  | cons y r ih =>
    intro n
    rw [List.map_cons]
    unfold pushes
    by_cases h : y.2 < 0 ∨ y.2 > maxCount - x.cost
    · rw [if_pos h, if_pos (show (f y.1, y.2).2 < 0 ∨ (f y.1, y.2).2 > maxCount - (x.map f).cost from h)]; exact ih n
    · rw [if_neg h, if_neg (show ¬ ((f y.1, y.2).2 < 0 ∨ (f y.1, y.2).2 > maxCount - (x.map f).cost) from h), List.map_cons, ih]
      rfl
theorem run_map {τ : Type} (f : σ → τ) (p : Prob σ) (q : Prob τ) (goal : σ → Bool) (goal' : τ → Bool) (dom : List σ) (hclosed : ∀ s ∈ dom, ∀ y ∈ p.next s, y.1 ∈ dom)
    (hkey : ∀ s ∈ dom, q.key (f s) = p.key s) (hnext : ∀ s ∈ dom, q.next (f s) = (p.next s).map fun y => (f y.1, y.2)) (hgoal : ∀ s ∈ dom, goal' (f s) = goal s) (budget : Nat) :
    ∀ (k : Nat) (L : List (Ent σ)) (order : List σ) (added : Nat), (∀ e ∈ L, e.st ∈ dom) → (∀ s ∈ order, s ∈ dom) → run q goal' budget k (L.map (Ent.map f)) (order.map f) added = (run p goal budget k L order added).map (Out.map f) := by
  intro k
  induction k with
  | zero => intro L order added _ _; rfl
  | succ k ih =>
    intro L order added hL ho
    rw [run, run, minIdx_map, List.getElem?_map]
    cases hx : L[minIdx L]? with
    | none => rfl
    | some x =>
      have hxm : x ∈ L := List.mem_of_getElem? hx
      have hxd := hL x hxm
      have hes : ∀ e ∈ L.eraseIdx (minIdx L), e.st ∈ dom := fun e he => hL e ((List.eraseIdx_sublist ..).subset he)
      have hmap : (L.map (Ent.map f)).eraseIdx (minIdx L) = (L.eraseIdx (minIdx L)).map (Ent.map f) := by simp [List.eraseIdx_eq_take_drop_succ, List.map_take, List.map_drop]
      have hw : was q (order.map f) (x.map f).st = was p order x.st := by
        unfold was
        rw [List.any_map]
        show order.any _ = order.any _
        have : ∀ (l : List σ), (∀ s ∈ l, s ∈ dom) → l.any ((fun y => q.key y == q.key (x.map f).st) ∘ f) = l.any fun y => p.key y == p.key x.st := by
          intro l
          induction l with
          | nil => intro _; rfl
          | cons a l ihl =>
            intro hl
            rw [List.any_cons, List.any_cons, ihl (fun s hs => hl s (by simp [hs]))]
            congr 1
            show (q.key (f a) == q.key (f x.st)) = _
            rw [hkey a (hl a (by simp)), hkey x.st hxd]
        exact this order ho
      simp only [Option.map_some]
      rw [hw, hmap]
      by_cases c1 : was p order x.st = true
      · rw [if_pos c1, if_pos c1]; exact ih _ _ _ hes ho
      · rw [if_neg c1, if_neg c1]
        rw [show goal' (x.map f).st = goal x.st from hgoal x.st hxd]
        by_cases c2 : goal x.st = true
        · rw [if_pos c2, if_pos c2]; rfl
        · rw [if_neg c2, if_neg c2, List.length_map]
          by_cases c3 : order.length = budget
          · rw [if_pos c3, if_pos c3]; rfl
          · rw [if_neg c3, if_neg c3]
            rw [show q.next (x.map f).st = (p.next x.st).map fun y => (f y.1, y.2) from hnext x.st hxd, pushes_map, List.length_map, ← List.map_append]
            rw [show order.map f ++ [(x.map f).st] = (order ++ [x.st]).map f from by rw [List.map_append]; rfl]
            refine ih _ _ _ (fun e he => ?_) (fun s hs => ?_)
            · rcases List.mem_append.1 he with h | h
              · exact hes e h
              · obtain ⟨_, y, hy, h2⟩ := pushes_st x _ _ e h
                rw [← h2]; exact hclosed x.st hxd y hy
            · rcases List.mem_append.1 hs with h | h
              · exact ho s h
              · obtain rfl : s = x.st := by simpa using h
                exact hxd
end Go.Proofs.Ytipdejalohmkpaa.Sr

/- Plain facts on binary heaps kept in lists: sift up, sift down, and the least element at the root. No program here. -/
namespace Go.Proofs.Ytipdejalohmkpaa.Hp

/-- Keys: a cost and a number, compared in this order. -/
def ltK (a b : Int × Int) : Bool := if a.1 = b.1 then decide (a.2 < b.2) else decide (a.1 < b.1)
def leK (a b : Int × Int) : Prop := ltK b a = false
theorem leK_iff {a b : Int × Int} : leK a b ↔ (a.1 < b.1 ∨ (a.1 = b.1 ∧ a.2 ≤ b.2)) := by
  unfold leK ltK; split <;> simp <;> omega
theorem leK_refl (a : Int × Int) : leK a a := by rw [leK_iff]; omega
theorem leK_trans {a b c : Int × Int} (h : leK a b) (k : leK b c) : leK a c := by rw [leK_iff] at *; omega
theorem ltK_iff {a b : Int × Int} : ltK a b = true ↔ (a.1 < b.1 ∨ (a.1 = b.1 ∧ a.2 < b.2)) := by
  unfold ltK; split <;> simp <;> omega
theorem leK_of_lt {a b : Int × Int} (h : ltK a b = true) : leK a b := by rw [leK_iff]; rw [ltK_iff] at h; omega
theorem leK_of_not {a b : Int × Int} (h : ltK a b = false) : leK b a := h

def at_ (l : List Nat) (i : Nat) : Nat := l.getD i 0
def swp (l : List Nat) (i j : Nat) : List Nat := (l.set i (at_ l j)).set j (at_ l i)
theorem swp_length (l : List Nat) (i j : Nat) : (swp l i j).length = l.length := by simp [swp]
theorem at_swp {l : List Nat} {i j k : Nat} (hi : i < l.length) (hj : j < l.length) : at_ (swp l i j) k = if k = j then at_ l i else if k = i then at_ l j else at_ l k := by
  unfold swp at_
  simp only [List.getD_eq_getElem?_getD, List.getElem?_set, List.length_set]
  by_cases h1 : k = j
  · subst h1; simp [hj]
  · have h1' : j ≠ k := fun h => h1 h.symm
    simp only [if_neg h1, if_neg h1']
    by_cases h2 : k = i
    · subst h2; simp [hi]
    · have h2' : i ≠ k := fun h => h2 h.symm
      simp only [if_neg h2, if_neg h2']
theorem swp_perm {l : List Nat} {i j : Nat} (hi : i < l.length) (hj : j < l.length) : (swp l i j).Perm l := by
  have h := Array.swap_perm (xs := l.toArray) (i := i) (j := j) (by simpa using hi) (by simpa using hj)
  have h2 := h.toList
  simp only [Array.toList_swap] at h2
  unfold swp at_
  simpa [List.getD_eq_getElem?_getD, List.getElem?_eq_getElem hi, List.getElem?_eq_getElem hj] using h2

variable (kf : Nat → Int × Int)

/-- The first n places of l form a heap. -/
def HeapN (l : List Nat) (n : Nat) : Prop := ∀ k, 0 < k → k < n → leK (kf (at_ l ((k - 1) / 2))) (kf (at_ l k))
def UpInv (l : List Nat) (j : Nat) : Prop :=
  (∀ k, 0 < k → k < l.length → k ≠ j → leK (kf (at_ l ((k - 1) / 2))) (kf (at_ l k))) ∧
  (∀ k, 0 < k → k < l.length → (k - 1) / 2 = j → 0 < j → leK (kf (at_ l ((j - 1) / 2))) (kf (at_ l k)))
def DnInv (l : List Nat) (n i : Nat) : Prop :=
  (∀ k, 0 < k → k < n → (k - 1) / 2 ≠ i → leK (kf (at_ l ((k - 1) / 2))) (kf (at_ l k))) ∧
  (∀ k, 0 < k → k < n → (k - 1) / 2 = i → 0 < i → leK (kf (at_ l ((i - 1) / 2))) (kf (at_ l k)))

variable {kf}
theorem up_start {l : List Nat} {x : Nat} (h : HeapN kf l l.length) : UpInv kf (l ++ [x]) l.length := by
  refine ⟨fun k h0 hk hne => ?_, fun k h0 hk he _ => ?_⟩
  · simp at hk
    have hk' : k < l.length := by omega
    have e1 : at_ (l ++ [x]) k = at_ l k := by simp [at_, List.getElem?_append_left hk']
    have e2 : at_ (l ++ [x]) ((k - 1) / 2) = at_ l ((k - 1) / 2) := by
      have : (k - 1) / 2 < l.length := by omega
      simp [at_, List.getElem?_append_left this]
    rw [e1, e2]; exact h k h0 hk'
  · simp at hk; omega
theorem up_root {l : List Nat} (h : UpInv kf l 0) : HeapN kf l l.length := fun k h0 hk => h.1 k h0 hk (by omega)
theorem up_stop {l : List Nat} {j : Nat} (h : UpInv kf l j) (hl : ltK (kf (at_ l j)) (kf (at_ l ((j - 1) / 2))) = false) : HeapN kf l l.length := fun k h0 hk => by
  by_cases e : k = j
  · subst e; exact leK_of_not hl
  · exact h.1 k h0 hk e
theorem up_step {l : List Nat} {j : Nat} (hj0 : 0 < j) (hj : j < l.length) (h : UpInv kf l j) (hl : ltK (kf (at_ l j)) (kf (at_ l ((j - 1) / 2))) = true) : UpInv kf (swp l ((j - 1) / 2) j) ((j - 1) / 2) := by
  have hi : (j - 1) / 2 < l.length := by omega
  have hle := leK_of_lt hl
  obtain ⟨h1, h2⟩ := h
  refine ⟨fun k h0 hk hne => ?_, fun k h0 hk he hp => ?_⟩
  · rw [swp_length] at hk
    rw [at_swp hi hj, at_swp hi hj]
    by_cases e1 : k = j
    · subst e1
      rw [if_pos rfl, if_neg (by omega), if_pos rfl]
      exact hle
    · rw [if_neg (c := k = j) e1, if_neg (c := k = (j - 1) / 2) hne]
      by_cases e2 : (k - 1) / 2 = j
      · rw [if_pos e2]; exact h2 k h0 hk e2 hj0
      · rw [if_neg e2]
        by_cases e3 : (k - 1) / 2 = (j - 1) / 2
        · rw [if_pos e3]
          have := h1 k h0 hk e1
          rw [e3] at this
          exact leK_trans hle this
        · rw [if_neg e3]; exact h1 k h0 hk e1
  · rw [swp_length] at hk
    rw [at_swp hi hj, at_swp hi hj]
    rw [if_neg (by omega), if_neg (by omega)]
    have hpar := h1 ((j - 1) / 2) hp hi (by omega)
    by_cases e1 : k = j
    · subst e1; rw [if_pos rfl]; exact hpar
    · rw [if_neg e1, if_neg (by omega)]
      have := h1 k h0 hk e1
      rw [he] at this
      exact leK_trans hpar this

theorem dn_start {l : List Nat} {m : Nat} (hm : m < l.length) (h : HeapN kf l l.length) : DnInv kf (swp l 0 m) m 0 := by
  refine ⟨fun k h0 hk hne => ?_, fun k h0 hk he h => absurd h (by omega)⟩
  rw [at_swp (by omega) hm, at_swp (by omega) hm, if_neg (by omega), if_neg (by omega), if_neg (by omega), if_neg (by omega)]
  exact h k h0 (by omega)
theorem dn_leaf {l : List Nat} {n i : Nat} (h : DnInv kf l n i) (hl : n ≤ 2 * i + 1) : HeapN kf l n := fun k h0 hk => h.1 k h0 hk (by omega)
theorem dn_stop {l : List Nat} {n i j : Nat} (h : DnInv kf l n i) (hsm : ∀ k, 0 < k → k < n → (k - 1) / 2 = i → leK (kf (at_ l j)) (kf (at_ l k))) (hl : ltK (kf (at_ l j)) (kf (at_ l i)) = false) : HeapN kf l n := fun k h0 hk => by
  by_cases e : (k - 1) / 2 = i
  · rw [e]; exact leK_trans (leK_of_not hl) (hsm k h0 hk e)
  · exact h.1 k h0 hk e
theorem dn_step {l : List Nat} {n i j : Nat} (hn : n ≤ l.length) (hj0 : 0 < j) (hj : j < n) (hji : (j - 1) / 2 = i) (h : DnInv kf l n i) (hsm : ∀ k, 0 < k → k < n → (k - 1) / 2 = i → leK (kf (at_ l j)) (kf (at_ l k)))
    (hl : ltK (kf (at_ l j)) (kf (at_ l i)) = true) : DnInv kf (swp l i j) n j := by
  obtain ⟨h1, h2⟩ := h
  have hle := leK_of_lt hl
  have hi' : i < l.length := by omega
  have hj' : j < l.length := by omega
  refine ⟨fun k h0 hk hne => ?_, fun k h0 hk he hp => ?_⟩
  · rw [at_swp hi' hj', at_swp hi' hj']
    rw [if_neg (c := (k - 1) / 2 = j) hne]
    by_cases e1 : (k - 1) / 2 = i
    · rw [if_pos e1]
      by_cases e2 : k = j
      · rw [if_pos e2]; exact hle
      · rw [if_neg e2, if_neg (by omega)]; exact hsm k h0 hk e1
    · rw [if_neg e1]
      by_cases e2 : k = j
      · omega
      · rw [if_neg e2]
        by_cases e3 : k = i
        · rw [if_pos e3]
          have := h2 j hj0 hj hji (by omega)
          rw [e3]; exact this
        · rw [if_neg e3]; exact h1 k h0 hk e1
  · rw [at_swp hi' hj', at_swp hi' hj']
    rw [hji, if_neg (by omega), if_pos rfl, if_neg (by omega), if_neg (by omega)]
    have := h1 k h0 hk (by omega)
    rw [he] at this
    exact this
theorem heap_root {l : List Nat} {n : Nat} (h : HeapN kf l n) : ∀ k, k < n → leK (kf (at_ l 0)) (kf (at_ l k)) := by
  intro k
  induction k using Nat.strongRecOn with
  | ind k ih =>
    intro hk
    by_cases h0 : k = 0
    · subst h0; exact leK_refl _
    · exact leK_trans (ih ((k - 1) / 2) (by omega) (by omega)) (h k (by omega) hk)
theorem heap_take {l : List Nat} {n : Nat} (hn : n ≤ l.length) (h : HeapN kf l n) : HeapN kf (l.take n) (l.take n).length := fun k h0 hk => by
  have hk' : k < n := by simp at hk; omega
  have e1 : at_ (l.take n) k = at_ l k := by simp [at_, hk']
  have e2 : at_ (l.take n) ((k - 1) / 2) = at_ l ((k - 1) / 2) := by
    have : (k - 1) / 2 < n := by omega
    simp [at_, this]
  rw [e1, e2]; exact h k h0 hk'

end Go.Proofs.Ytipdejalohmkpaa.Hp

/- The queue of a search and its entries in memory: what the queue's methods do. -/
namespace Go.Proofs.Ytipdejalohmkpaa.I
open Go.RowKit Hp

/-- The address of an entry. -/
def ptrV (e : Nat) : Value := .pointer (some ⟨e, 0, none⟩)
/-- An entry: its state, the address of the entry before it, its cost and its number. -/
structure EntD where
  st : Value
  bf : Option Addr
  cost : Int
  num : Int
def EntD.key (d : EntD) : Int × Int := (d.cost, d.num)
def EntAt (w : World) (e : Nat) (d : EntD) : Prop := w.heap[e]? = some (.cells #[d.st, .pointer d.bf, .int .i64 d.cost, .int .i64 d.num] 82 (0, 0))
theorem EntAt.c0 {w : World} {e : Nat} {d : EntD} (h : EntAt w e d) : w.cell? ⟨e, 0, none⟩ = some d.st := by unfold EntAt at h; simp [World.cell?, h]
theorem EntAt.c1 {w : World} {e : Nat} {d : EntD} (h : EntAt w e d) : w.cell? ⟨e, 1, none⟩ = some (.pointer d.bf) := by unfold EntAt at h; simp [World.cell?, h]
theorem EntAt.c2 {w : World} {e : Nat} {d : EntD} (h : EntAt w e d) : w.cell? ⟨e, 2, none⟩ = some (.int .i64 d.cost) := by unfold EntAt at h; simp [World.cell?, h]
theorem EntAt.c3 {w : World} {e : Nat} {d : EntD} (h : EntAt w e d) : w.cell? ⟨e, 3, none⟩ = some (.int .i64 d.num) := by unfold EntAt at h; simp [World.cell?, h]
theorem EntAt.lt {w : World} {e : Nat} {d : EntD} (h : EntAt w e d) : e < w.heap.size := (Array.getElem?_eq_some_iff.1 h).1
theorem EntAt.of_block {w w' : World} {e : Nat} {d : EntD} (h : EntAt w e d) (hb : w'.heap[e]? = w.heap[e]?) : EntAt w' e d := hb.trans h
theorem EntAt.below {w w' : World} {e : Nat} {d : EntD} (h : EntAt w e d) (hb : Below w.heap.size w w') : EntAt w' e d := h.of_block (hb.block e h.lt)

/-- The row of a queue: the addresses of its entries. -/
def RowOf (w : World) (base : Nat) (v : Value) (l : List Nat) : Prop := w.ownsRow base 77 1 v l.length (l.map ptrV)
theorem RowOf.ne_ent {w : World} {base : Nat} {v : Value} {l : List Nat} (h : RowOf w base v l) {e : Nat} {d : EntD} (he : EntAt w e d) : some e ≠ v.ownBlock := by
  intro hk
  rcases h.2 with ⟨rfl, _⟩ | ⟨g, cap, cur, rfl, _, hh, _⟩
  · simp [Value.ownBlock] at hk
  · have : e = g := by simpa [Value.ownBlock] using hk
    subst this
    unfold EntAt at he
    rw [hh] at he
    injection he with he
    injection he with _ ht
    exact absurd ht (by decide)
theorem EntAt.grown {w w' : World} {base : Nat} {v : Value} {l : List Nat} {e : Nat} {d : EntD} (h : EntAt w e d) (hr : RowOf w base v l) (hg : w.grownBy w' v.ownBlock) : EntAt w' e d :=
  h.of_block (hg.block e h.lt (hr.ne_ent h))
theorem RowOf.form {w : World} {base : Nat} {v : Value} {l : List Nat} (h : RowOf w base v l) (hn : 0 < l.length) : ∃ g cap, v = .slice (some ⟨g, 0, none⟩) l.length cap ∧ base ≤ g ∧ g < w.heap.size := by
  obtain ⟨g, cap, rfl, hb, hh⟩ := World.ownsRow.form h hn
  exact ⟨g, cap, rfl, hb, (World.ownsRow.lt h g rfl).2⟩
theorem RowOf.cell {w : World} {base g n cap : Nat} {l : List Nat} (h : RowOf w base (.slice (some ⟨g, 0, none⟩) n cap) l) (i : Nat) (hi : i < l.length) : w.cell? ⟨g, i, none⟩ = some (ptrV (at_ l i)) := by
  have hn : n = l.length := by
    rcases h.2 with ⟨h1, _⟩ | ⟨g', cap', cur', h1, _⟩
    · cases h1
    · injection h1
  subst hn
  have := World.ownsRow.cellAt h i (by omega)
  rw [this]
  simp [at_, List.getElem?_map, List.getElem?_eq_getElem hi]
theorem RowOf.frozen {w : World} {base g n cap : Nat} {l : List Nat} (h : RowOf w base (.slice (some ⟨g, 0, none⟩) n cap) l) (i : Nat) : w.frozen? ⟨g, i, none⟩ = false := by
  have hn : n = l.length := by
    rcases h.2 with ⟨h1, _⟩ | ⟨g', cap', cur', h1, _⟩
    · cases h1
    · injection h1
  subst hn
  exact World.ownsRow.frozenAt h i
theorem RowOf.drewN {w : World} {base : Nat} {v : Value} {l : List Nat} (h : RowOf w base v l) (n : Nat) : RowOf (w.drewN n) base v l := h
theorem RowOf.kept {w w' : World} {base : Nat} {v : Value} {l : List Nat} (h : RowOf w base v l) {row : Option Nat} (hg : w.grownBy w' row) (hne : v.ownBlock = none ∨ v.ownBlock ≠ row) : RowOf w' base v l := World.ownsRow.kept h hg hne
theorem RowOf.below {w w' : World} {base : Nat} {v : Value} {l : List Nat} (h : RowOf w base v l) (hb : Below w.heap.size w w') : RowOf w' base v l := YtipdejalohmkpaaW.PrintWords.pw_own_below h hb
theorem RowOf.stored {w : World} {base g cap : Nat} {l : List Nat} (h : RowOf w base (.slice (some ⟨g, 0, none⟩) l.length cap) l) (i : Nat) (x : Nat) (n : Nat) (hn : n = l.length) : RowOf (w.setCell ⟨g, i, none⟩ (ptrV x)) base (.slice (some ⟨g, 0, none⟩) n cap) (l.set i x) := by
  subst hn
  have := World.ownsRow.stored h i (ptrV x)
  unfold RowOf
  rw [List.length_set, List.map_set]
  exact this.1

theorem grown_set {w : World} (g i : Nat) (u : Value) : w.grownBy (w.setCell ⟨g, i, none⟩ u) (some g) := ⟨rfl, rfl, rfl, by simp [World.setCell], fun k _ hne => Below.heap_setCell _ _ _ _ (by intro e; exact hne (by rw [e]))⟩
theorem grown_drewN {w w' : World} {row : Option Nat} (h : w.grownBy w' row) (n : Nat) : w.grownBy (w'.drewN n) row := ⟨h.os, h.tape, h.output, h.size, h.block⟩
theorem grown_refl (w : World) (row : Option Nat) : w.grownBy w row := ⟨rfl, rfl, rfl, Nat.le_refl _, fun _ _ _ => rfl⟩

set_option maxHeartbeats 400000 in
theorem len_any (A : Option Addr) (n c : Nat) (w : World) :
    Calls Try.prog 43 #[.slice A n c] w fun e w' => e = .returned (.int .i64 n) ∧ w = w' := by
  go_enter Try.func43, Try.ntmps43
  go_wp2
  go_ret
  exact ⟨rfl, rfl⟩

set_option maxHeartbeats 800000 in
theorem less_cells (b n c : Nat) (i j : Int) (ei ej : Nat) (xi xj yi yj : Int) (w : World)
    (hi0 : 0 ≤ i) (hi : i < n) (hj0 : 0 ≤ j) (hj : j < n)
    (hci : w.cell? ⟨b, i.toNat, none⟩ = some (.pointer (some ⟨ei, 0, none⟩))) (hcj : w.cell? ⟨b, j.toNat, none⟩ = some (.pointer (some ⟨ej, 0, none⟩)))
    (hei : w.cell? ⟨ei, 2, none⟩ = some (.int .i64 xi)) (hej : w.cell? ⟨ej, 2, none⟩ = some (.int .i64 xj))
    (hei3 : w.cell? ⟨ei, 3, none⟩ = some (.int .i64 yi)) (hej3 : w.cell? ⟨ej, 3, none⟩ = some (.int .i64 yj)) :
    Calls Try.prog 75 #[.slice (some ⟨b, 0, none⟩) n c, .int .i64 i, .int .i64 j] w fun e w' => (∃ n, w' = w.drewN n) ∧ e = .returned (.bool (ltK (xi, yi) (xj, yj))) := by
  by_cases hx : xi = xj
  · have hne : (xi != xj) = false := by simp [hx]
    have hr : ltK (xi, yi) (xj, yj) = decide (yi < yj) := by unfold ltK; simp [hx]
    have HR := Lib.hid hr
    clear hr hx
    go_enter Try.func75, Try.ntmps75
    go_wp2
    go_quiet (fail)
    go_wp2
    go_quiet (fail)
    go_wp2
    go_ret
    exact ⟨⟨_, World.drewN_drewN ..⟩, by rw [HR.out]; rfl⟩
  · have hne : (xi != xj) = true := by simp [hx]
    have hr : ltK (xi, yi) (xj, yj) = decide (xi < xj) := by unfold ltK; simp [hx]
    have HR := Lib.hid hr
    clear hr hx
    go_enter Try.func75, Try.ntmps75
    go_wp2
    go_quiet (fail)
    go_wp2
    go_quiet (fail)
    go_wp2
    go_ret
    exact ⟨⟨_, World.drewN_drewN ..⟩, by rw [HR.out]; rfl⟩

/-- Less tells which of two entries of a row comes first. -/
theorem less_any (base : Nat) (v : Value) (l : List Nat) (D : Nat → EntD) (i j : Int) (w : World) (hr : RowOf w base v l) (hD : ∀ e ∈ l, EntAt w e (D e)) (hi0 : 0 ≤ i) (hi : i < l.length) (hj0 : 0 ≤ j) (hj : j < l.length) :
    Calls Try.prog 75 #[v, .int .i64 i, .int .i64 j] w fun e w' => (∃ n, w' = w.drewN n) ∧ e = .returned (.bool (ltK (D (at_ l i.toNat)).key (D (at_ l j.toNat)).key)) := by
  obtain ⟨g, cap, rfl, _, _⟩ := hr.form (by omega)
  have mem : ∀ k, k < l.length → at_ l k ∈ l := fun k hk => by simp [at_, List.getElem?_eq_getElem hk]
  have hdi := hD _ (mem i.toNat (by omega))
  have hdj := hD _ (mem j.toNat (by omega))
  exact less_cells g l.length cap i j _ _ _ _ _ _ w hi0 hi hj0 hj (hr.cell _ (by omega)) (hr.cell _ (by omega)) hdi.c2 hdj.c2 hdi.c3 hdj.c3

set_option maxHeartbeats 400000 in
theorem swap_ne (b n c : Nat) (i j : Int) (pi pj : Option Addr) (w : World)
    (hi0 : 0 ≤ i) (hi : i < n) (hj0 : 0 ≤ j) (hj : j < n) (hne : i.toNat ≠ j.toNat)
    (hci : w.cell? ⟨b, i.toNat, none⟩ = some (.pointer pi)) (hcj : w.cell? ⟨b, j.toNat, none⟩ = some (.pointer pj))
    (hfi : w.frozen? ⟨b, i.toNat, none⟩ = false) (hfj : w.frozen? ⟨b, j.toNat, none⟩ = false) :
    Calls Try.prog 78 #[.slice (some ⟨b, 0, none⟩) n c, .int .i64 i, .int .i64 j] w fun e w' => 
      e = .returned (.tuple #[]) ∧ ∃ n, w' = ((w.setCell ⟨b, i.toNat, none⟩ (.pointer pj)).setCell ⟨b, j.toNat, none⟩ (.pointer pi)).drewN n := by
  go_enter Try.func78, Try.ntmps78
  go_wp2
  go_region
  all_goals (go_end0; exact ⟨rfl, 1, rfl⟩)
set_option maxHeartbeats 400000 in
theorem swap_eq (b n c : Nat) (i : Int) (pi : Option Addr) (w : World)
    (hi0 : 0 ≤ i) (hi : i < n)
    (hci : w.cell? ⟨b, i.toNat, none⟩ = some (.pointer pi))
    (hfi : w.frozen? ⟨b, i.toNat, none⟩ = false) (hc2 : (w.setCell ⟨b, i.toNat, none⟩ (.pointer pi)).cell? ⟨b, i.toNat, none⟩ = some (.pointer pi)) :
    Calls Try.prog 78 #[.slice (some ⟨b, 0, none⟩) n c, .int .i64 i, .int .i64 i] w fun e w' => 
      e = .returned (.tuple #[]) ∧ ∃ n, w' = ((w.setCell ⟨b, i.toNat, none⟩ (.pointer pi)).setCell ⟨b, i.toNat, none⟩ (.pointer pi)).drewN n := by
  go_enter Try.func78, Try.ntmps78
  go_wp2
  go_region
  all_goals (go_end0; exact ⟨rfl, 1, rfl⟩)

def SwapPost (base : Nat) (v : Value) (l : List Nat) (w : World) (i j : Nat) (w' : World) : Prop := RowOf w' base v (swp l i j) ∧ w.grownBy w' v.ownBlock
/-- Swap exchanges two entries of a row. -/
theorem swap_any (base : Nat) (v : Value) (l : List Nat) (i j : Int) (w : World) (hr : RowOf w base v l) (hi0 : 0 ≤ i) (hi : i < l.length) (hj0 : 0 ≤ j) (hj : j < l.length) :
    Calls Try.prog 78 #[v, .int .i64 i, .int .i64 j] w fun e w' => e = .returned (.tuple #[]) ∧ SwapPost base v l w i.toNat j.toNat w' := by
  obtain ⟨g, cap, rfl, _, _⟩ := hr.form (by omega)
  have hci := hr.cell i.toNat (by omega)
  have hcj := hr.cell j.toNat (by omega)
  have post : ∀ n, SwapPost base (.slice (some ⟨g, 0, none⟩) l.length cap) l w i.toNat j.toNat (((w.setCell ⟨g, i.toNat, none⟩ (ptrV (at_ l j.toNat))).setCell ⟨g, j.toNat, none⟩ (ptrV (at_ l i.toNat))).drewN n) := fun n => by
    have h1 := hr.stored i.toNat (at_ l j.toNat) l.length rfl
    have h2 : RowOf ((w.setCell ⟨g, i.toNat, none⟩ (ptrV (at_ l j.toNat))).setCell ⟨g, j.toNat, none⟩ (ptrV (at_ l i.toNat))) base (.slice (some ⟨g, 0, none⟩) l.length cap) (swp l i.toNat j.toNat) := by
      have h1' : RowOf (w.setCell ⟨g, i.toNat, none⟩ (ptrV (at_ l j.toNat))) base (.slice (some ⟨g, 0, none⟩) (l.set i.toNat (at_ l j.toNat)).length cap) (l.set i.toNat (at_ l j.toNat)) := by rw [List.length_set]; exact h1
      exact h1'.stored j.toNat (at_ l i.toNat) l.length (by simp)
    exact ⟨h2.drewN n, grown_drewN ((grown_set g i.toNat _).trans (grown_set g j.toNat _)) n⟩
  by_cases e : i.toNat = j.toNat
  · obtain rfl : i = j := by omega
    refine (swap_eq g l.length cap i _ w hi0 hi hci (hr.frozen _) ?_).mono ?_
    · have hlt : i.toNat < l.length := by omega
      have hs : at_ (l.set i.toNat (at_ l i.toNat)) i.toNat = at_ l i.toNat := by simp [at_, hlt]
      have h3 := (hr.stored i.toNat (at_ l i.toNat) l.length rfl).cell i.toNat (by simpa using hlt)
      rw [hs] at h3
      exact h3
    · rintro e w' ⟨rfl, n, rfl⟩
      exact ⟨rfl, post n⟩
  · refine (swap_ne g l.length cap i j _ _ w hi0 hi hj0 hj e hci hcj (hr.frozen _) (hr.frozen _)).mono ?_
    rintro e w' ⟨rfl, n, rfl⟩
    exact ⟨rfl, post n⟩

end Go.Proofs.Ytipdejalohmkpaa.I

/- The queue's Push and Pop, and what a queue's methods are through the heap's interface. -/
namespace Go.Proofs.Ytipdejalohmkpaa.I
open Go.RowKit Hp

/-- The world w' is w, but for blocks in S and new ones. -/
structure Chg (S : Nat → Prop) (w w' : World) : Prop where
  os : w'.os = w.os
  tape : w'.tape = w.tape
  output : w'.output = w.output
  size : w.heap.size ≤ w'.heap.size
  block : ∀ k, k < w.heap.size → ¬ S k → w'.heap[k]? = w.heap[k]?
theorem Chg.refl (S : Nat → Prop) (w : World) : Chg S w w := ⟨rfl, rfl, rfl, Nat.le_refl _, fun _ _ _ => rfl⟩
theorem Chg.trans {S T : Nat → Prop} {a b c : World} (h : Chg S a b) (k : Chg T b c) (hs : ∀ i, T i → S i ∨ a.heap.size ≤ i) : Chg S a c :=
  ⟨k.os.trans h.os, k.tape.trans h.tape, k.output.trans h.output, Nat.le_trans h.size k.size, fun i hi hn => (k.block i (Nat.lt_of_lt_of_le hi h.size) (fun ht => by rcases hs i ht with h1 | h1; exact hn h1; omega)).trans (h.block i hi hn)⟩
theorem Chg.mono {S T : Nat → Prop} {a b : World} (h : Chg S a b) (hs : ∀ i, S i → T i) : Chg T a b := ⟨h.os, h.tape, h.output, h.size, fun i hi hn => h.block i hi (fun hk => hn (hs i hk))⟩
theorem Chg.of_grown {w w' : World} {row : Option Nat} (h : w.grownBy w' row) : Chg (fun k => some k = row) w w' := ⟨h.os, h.tape, h.output, h.size, fun k hk hn => h.block k hk hn⟩
theorem Chg.of_below {w w' : World} (h : Below w.heap.size w w') (S : Nat → Prop) : Chg S w w' := ⟨h.os, h.tape, h.output, h.size, fun k hk _ => h.block k hk⟩
theorem Chg.drewN {S : Nat → Prop} {w w' : World} (h : Chg S w w') (n : Nat) : Chg S w (w'.drewN n) := ⟨h.os, h.tape, h.output, h.size, h.block⟩
theorem Chg.drew {S : Nat → Prop} {w w' : World} (h : Chg S w w') : Chg S w w'.drew := ⟨h.os, h.tape, h.output, h.size, h.block⟩
theorem Chg.setCell {S : Nat → Prop} {w w' : World} (h : Chg S w w') {p : Addr} (hp : S p.block ∨ w.heap.size ≤ p.block) (u : Value) : Chg S w (w'.setCell p u) :=
  ⟨h.os, h.tape, h.output, by simp [World.setCell]; exact h.size, fun k hk hn => (Below.heap_setCell _ _ _ _ (by rintro rfl; rcases hp with h1 | h1; exact hn h1; omega)).trans (h.block k hk hn)⟩
theorem Chg.alloc {S : Nat → Prop} {w w' : World} (h : Chg S w w') (o : Obj) : Chg S w (w'.alloc o) :=
  ⟨h.os, h.tape, h.output, by simp; exact Nat.le_succ_of_le h.size, fun k hk hn => (Below.heap_alloc _ _ _ (Nat.lt_of_lt_of_le hk h.size)).trans (h.block k hk hn)⟩
theorem Chg.below {S : Nat → Prop} {w w' : World} {B : Nat} (h : Chg S w w') (hB : B ≤ w.heap.size) (hs : ∀ k, S k → B ≤ k) : Below B w w' :=
  ⟨h.os, h.tape, h.output, h.size, fun k hk => h.block k (Nat.lt_of_lt_of_le hk hB) (fun hk' => by have := hs k hk'; omega)⟩
theorem EntAt.chg {S : Nat → Prop} {w w' : World} {e : Nat} {d : EntD} (h : EntAt w e d) (hc : Chg S w w') (hn : ¬ S e) : EntAt w' e d := h.of_block (hc.block e h.lt hn)

/-- The cell that holds a queue. -/
def QAt (w : World) (q : Nat) (v : Value) : Prop := w.heap[q]? = some (.cells #[v] 99 (0, 0))
theorem QAt.cell {w : World} {q : Nat} {v : Value} (h : QAt w q v) : w.cell? ⟨q, 0, none⟩ = some v := by unfold QAt at h; simp [World.cell?, h]
theorem QAt.frozen {w : World} {q : Nat} {v : Value} (h : QAt w q v) : w.frozen? ⟨q, 0, none⟩ = false := by unfold QAt at h; simp [World.frozen?, h]
theorem QAt.lt {w : World} {q : Nat} {v : Value} (h : QAt w q v) : q < w.heap.size := (Array.getElem?_eq_some_iff.1 h).1
theorem QAt.of_block {w w' : World} {q : Nat} {v : Value} (h : QAt w q v) (hb : w'.heap[q]? = w.heap[q]?) : QAt w' q v := hb.trans h
theorem QAt.ne_row {w : World} {q : Nat} {u v : Value} {base : Nat} {l : List Nat} (h : QAt w q u) (hr : RowOf w base v l) : some q ≠ v.ownBlock := by
  intro hk
  rcases hr.2 with ⟨rfl, _⟩ | ⟨g, cap, cur, rfl, _, hh, _⟩
  · simp [Value.ownBlock] at hk
  · have : q = g := by simpa [Value.ownBlock] using hk
    subst this
    unfold QAt at h
    rw [hh] at h
    injection h with h
    injection h with _ ht
    exact absurd ht (by decide)
theorem QAt.ne_ent {w : World} {q : Nat} {u : Value} {e : Nat} {d : EntD} (h : QAt w q u) (he : EntAt w e d) : e ≠ q := by
  rintro rfl
  unfold QAt at h
  unfold EntAt at he
  rw [h] at he
  injection he with he
  injection he with _ ht
  exact absurd ht (by decide)
theorem QAt.set {w : World} {q : Nat} {v : Value} (h : QAt w q v) (u : Value) : QAt (w.setCell ⟨q, 0, none⟩ u) q u := by
  unfold QAt at *
  simp [World.setCell, Array.getElem?_modify, h]

theorem meth_less (a : Addr) (w : World) (v : Value) (h : w.cell? a = some v) : (method 230 97 (.pointer (some a)) "Less").run Try.prog w = .ok (75, v) w := by
  have e : (method 230 97 (.pointer (some a)) "Less").run Try.prog w = (Sem.load .plain a fun v => .pure (75, v)).run Try.prog w := by kernel_rfl
  rw [e]; simp only [Sem.run, h]
theorem meth_len (a : Addr) (w : World) (v : Value) (h : w.cell? a = some v) : (method 230 97 (.pointer (some a)) "Len").run Try.prog w = .ok (43, v) w := by
  have e : (method 230 97 (.pointer (some a)) "Len").run Try.prog w = (Sem.load .plain a fun v => .pure (43, v)).run Try.prog w := by kernel_rfl
  rw [e]; simp only [Sem.run, h]
theorem meth_swap (a : Addr) (w : World) (v : Value) (h : w.cell? a = some v) : (method 230 97 (.pointer (some a)) "Swap").run Try.prog w = .ok (78, v) w := by
  have e : (method 230 97 (.pointer (some a)) "Swap").run Try.prog w = (Sem.load .plain a fun v => .pure (78, v)).run Try.prog w := by kernel_rfl
  rw [e]; simp only [Sem.run, h]
theorem meth_push (a : Addr) (w : World) : (method 230 97 (.pointer (some a)) "Push").run Try.prog w = .ok (77, .pointer (some a)) w := by kernel_rfl
theorem meth_pop (a : Addr) (w : World) : (method 230 97 (.pointer (some a)) "Pop").run Try.prog w = .ok (76, .pointer (some a)) w := by kernel_rfl

def PopPost (base q : Nat) (l : List Nat) (w w' : World) : Prop := ∃ v', QAt w' q v' ∧ RowOf w' base v' l ∧ Chg (fun k => k = q) w w'
set_option maxHeartbeats 400000 in
theorem pop_cells (q g n cap e : Nat) (w : World) (hn : n < 140737488355328) (hcap : n + 1 ≤ cap)
    (hq : w.cell? ⟨q, 0, none⟩ = some (.slice (some ⟨g, 0, none⟩) (n + 1) cap)) (hf : w.frozen? ⟨q, 0, none⟩ = false) (hg : w.cell? ⟨g, n, none⟩ = some (.pointer (some ⟨e, 0, none⟩))) :
    Calls Try.prog 76 #[.pointer (some ⟨q, 0, none⟩)] w fun x w' => x = .returned (.iface 77 (.pointer (some ⟨e, 0, none⟩))) ∧ w' = w.setCell ⟨q, 0, none⟩ (.slice (some ⟨g, 0, none⟩) n cap) := by
  go_enter Try.func76, Try.ntmps76
  go_wp2
  go_ret
  exact ⟨rfl, rfl⟩
/-- Pop takes the last entry off a row. -/
theorem pop_any (base q : Nat) (v : Value) (l : List Nat) (x : Nat) (w : World) (hq : QAt w q v) (hr : RowOf w base v (l ++ [x])) (hl : l.length < 140737488355328) :
    Calls Try.prog 76 #[.pointer (some ⟨q, 0, none⟩)] w fun e w' => e = .returned (.iface 77 (ptrV x)) ∧ PopPost base q l w w' := by
  have hne := hq.ne_row hr
  obtain ⟨h1, h2⟩ := id hr
  rcases h2 with ⟨_, h0⟩ | ⟨g, cap, cur, hv, hg, hh, hn, hcap, hsz, htake⟩
  · simp at h0
  · have hlen : (l ++ [x]).length = l.length + 1 := by simp
    rw [hlen] at hv hn htake
    subst hv
    have hc := hr.cell l.length (by simp)
    rw [show at_ (l ++ [x]) l.length = x from by simp [at_]] at hc
    refine (pop_cells q g l.length cap x w hl hn hq.cell hq.frozen hc).mono ?_
    rintro e w' ⟨rfl, rfl⟩
    refine ⟨rfl, _, hq.set _, ?_, (Chg.refl (fun k => k = q) w).setCell (p := ⟨q, 0, none⟩) (.inl rfl) _⟩
    have hp : w.ownsRow base 77 1 (.slice (some ⟨g, 0, none⟩) l.length cap) l.length (l.map ptrV) := ownsRow_pop (last := [ptrV x]) (by simp) (by have := hr; unfold RowOf at this; rw [hlen] at this; simpa using this)
    exact ownsRow_setCell_other hp (by intro hk; exact hne hk.symm) _

def PushPost (base q : Nat) (v : Value) (l : List Nat) (w w' : World) : Prop := ∃ v', QAt w' q v' ∧ RowOf w' base v' l ∧ Chg (fun k => k = q ∨ some k = v.ownBlock) w w'
theorem info_ptr : (Try.prog.info? 77).map (fun i => (i.zero, i.size, i.bytes)) = some (some (.pointer none), 1, 8) := by kernel_rfl
theorem push_after {base q : Nat} {v : Value} {l : List Nat} {x : Nat} {w w1 : World} (hq : QAt w q v) (hr : RowOf w base v l) {g cap : Nat} {o : Obj}
    (hown : w1.ownsRow base 77 1 (.slice (some ⟨g, 0, none⟩) (l.length + 1) cap) (l.length + 1) (l.map ptrV ++ [ptrV x]))
    (hgr : (w.alloc o).drew.grownBy w1 v.ownBlock) (hgb : v.ownBlock = some g ∨ g = w.heap.size + 1) :
    w1.cell? ⟨q, 0, none⟩ = some v ∧ w1.frozen? ⟨q, 0, none⟩ = false ∧ Hid (PushPost base q v (l ++ [x]) w (w1.setCell ⟨q, 0, none⟩ (.slice (some ⟨g, 0, none⟩) (l.length + 1) cap))) := by
  have hne := hq.ne_row hr
  have hq1 : QAt w1 q v := hq.of_block ((hgr.block q (by simp; exact Nat.lt_succ_of_lt hq.lt) hne).trans (Below.heap_alloc _ _ _ hq.lt))
  have hqg : q ≠ g := by
    rcases hgb with h | h
    · rintro rfl; exact hne h.symm
    · have := hq.lt; omega
  refine ⟨hq1.cell, hq1.frozen, _, hq1.set _, ?_, ?_⟩
  · have h1 : RowOf w1 base (.slice (some ⟨g, 0, none⟩) (l.length + 1) cap) (l ++ [x]) := by unfold RowOf; simpa using hown
    exact ownsRow_setCell_other h1 (by simp [Value.ownBlock]; omega) _
  · have hc : Chg (fun k => some k = v.ownBlock) w w1 := ((Chg.refl _ w).alloc o).drew.trans (Chg.of_grown hgr) (fun i hi => .inl hi)
    exact (hc.mono (fun _ h => .inr h)).setCell (p := ⟨q, 0, none⟩) (.inl (.inl rfl)) _

set_option maxHeartbeats 400000 in
theorem push_any (base q : Nat) (v : Value) (l : List Nat) (x : Nat) (w : World) (hq : QAt w q v) (hr : RowOf w base v l) (hl : l.length < 1000000000) (hbase : base ≤ w.heap.size) :
    Calls Try.prog 77 #[.pointer (some ⟨q, 0, none⟩), .iface 77 (ptrV x)] w fun e w' => e = .returned (.tuple #[]) ∧ PushPost base q v (l ++ [x]) w w' := by
  show Calls Try.prog 77 #[.pointer (some ⟨q, 0, none⟩), .iface 77 (.pointer (some ⟨x, 0, none⟩))] w _
  have hc := hq.cell
  have hf := hq.frozen
  have hql := hq.lt
  have HR := Lib.hid hr
  have HQ := Lib.hid hq
  clear hr hq
  obtain ⟨i0, hi, hzz⟩ := Option.map_eq_some_iff.1 info_ptr
  simp only [Prod.mk.injEq] at hzz
  obtain ⟨hz0, hz1, hz2⟩ := hzz
  have hta : ∀ (v : Value) (w : World), (Instr.typeAssert (.iface 77 v) 20 77 false).run Try.prog w = .ok v w := fun _ _ => by kernel_rfl
  go_enter Try.func77, Try.ntmps77
  go_wp2
  go_region_law (refine step_append_lies _ rfl (.tmp 7) (.tmp 10) 99 rfl base 77 i0 (.pointer none) 1 8 Try.underlying99 hi hz0 hz1 hz2 rfl (by decide) v l.length (l.map ptrV) (by simp [Act.eval]) (World.ownsRow.alloc HR.out _) ⟨w.heap.size, 0, none⟩ 1 1 [ptrV x] (by simp [Act.eval]) rfl (World.news_of_block (cs := #[ptrV x]) (t := 77) (fr := (0, 0)) (heap_alloc_new w.drew _)) (by simp [ptrV, Value.oneCell']) (by decide) (by unfold maxLen; omega) (by omega) (by simp; omega) (w.heap.size + 1) (by simp) ?_; intro g cap w1 hown hgr hgb hlt; obtain ⟨hc1, hf1, H1⟩ := push_after HQ.out HR.out hown hgr hgb)
  all_goals (go_end0; exact ⟨rfl, H1.out⟩)

end Go.Proofs.Ytipdejalohmkpaa.I

/- The heap's sift up and sift down over a queue of entries. -/
namespace Go.Proofs.Ytipdejalohmkpaa.I
open Go.RowKit Hp

/-- Less, its answer known. -/
theorem less_is (base : Nat) (v : Value) (l : List Nat) (D : Nat → EntD) (i j : Int) (i' j' : Nat) (r : Bool) (w : World) (hr : RowOf w base v l) (hD : ∀ e ∈ l, EntAt w e (D e)) (hi : i = i') (hj : j = j') (hi' : i' < l.length) (hj' : j' < l.length)
    (hb : ltK (D (at_ l i')).key (D (at_ l j')).key = r) :
    Calls Try.prog 75 #[v, .int .i64 i, .int .i64 j] w fun e w' => (∃ n, w' = w.drewN n) ∧ e = .returned (.bool r) := by
  subst hi hj
  refine (less_any base v l D i' j' w hr hD (by omega) (by omega) (by omega) (by omega)).mono ?_
  rintro e w' ⟨h1, rfl⟩
  refine ⟨h1, ?_⟩
  simp only [Int.toNat_natCast]
  rw [hb]
/-- Swap, its places known. -/
theorem swap_is (base : Nat) (v : Value) (l : List Nat) (i j : Int) (i' j' : Nat) (w : World) (hr : RowOf w base v l) (hi : i = i') (hj : j = j') (hi' : i' < l.length) (hj' : j' < l.length) :
    Calls Try.prog 78 #[v, .int .i64 i, .int .i64 j] w fun e w' => e = .returned (.tuple #[]) ∧ SwapPost base v l w i' j' w' := by
  subst hi hj
  exact swap_any base v l i' j' w hr (by omega) (by omega) (by omega) (by omega)

def kf (D : Nat → EntD) : Nat → Int × Int := fun e => (D e).key
/-- What stays of a queue while its row is rearranged. -/
structure Same (D : Nat → EntD) (base q : Nat) (v : Value) (l : List Nat) (w : World) (l' : List Nat) (w' : World) : Prop where
  perm : l'.Perm l
  qat : QAt w' q v
  row : RowOf w' base v l'
  ents : ∀ e ∈ l', EntAt w' e (D e)
  chg : Chg (fun k => some k = v.ownBlock) w w'
theorem Same.refl {D : Nat → EntD} {base q : Nat} {v : Value} {l : List Nat} {w : World} (hq : QAt w q v) (hr : RowOf w base v l) (hD : ∀ e ∈ l, EntAt w e (D e)) : Same D base q v l w l w := ⟨List.Perm.refl _, hq, hr, hD, Chg.refl _ _⟩
theorem Same.drewN {D : Nat → EntD} {base q : Nat} {v : Value} {l l' : List Nat} {w w' : World} (h : Same D base q v l w l' w') (n : Nat) : Same D base q v l w l' (w'.drewN n) := ⟨h.perm, h.qat, h.row, h.ents, h.chg.drewN n⟩
theorem Same.swap {D : Nat → EntD} {base q : Nat} {v : Value} {l l' : List Nat} {w w' w2 : World} {i j : Nat} (h : Same D base q v l w l' w') (hi : i < l'.length) (hj : j < l'.length) (hp : SwapPost base v l' w' i j w2) : Same D base q v l w (swp l' i j) w2 := by
  obtain ⟨hr, hg⟩ := hp
  refine ⟨(swp_perm hi hj).trans h.perm, h.qat.of_block (hg.block q h.qat.lt (h.qat.ne_row h.row)), hr, fun e he => ?_, h.chg.trans (Chg.of_grown hg) (fun i hi => .inl hi)⟩
  have he' : e ∈ l' := ((swp_perm hi hj).mem_iff).1 he
  exact (h.ents e he').grown h.row hg
theorem Same.length {D : Nat → EntD} {base q : Nat} {v : Value} {l l' : List Nat} {w w' : World} (h : Same D base q v l w l' w') : l'.length = l.length := h.perm.length_eq

def UpRel (D : Nat → EntD) (base q : Nat) (v : Value) (l : List Nat) (w : World) (l' : List Nat) (k : Nat) (w' : World) : Prop := Same D base q v l w l' w' ∧ UpInv (kf D) l' k
def UpPost (D : Nat → EntD) (base q : Nat) (v : Value) (l : List Nat) (w w' : World) : Prop := ∃ l', Same D base q v l w l' w' ∧ HeapN (kf D) l' l'.length

set_option maxRecDepth 100000 in
set_option maxHeartbeats 1000000 in
theorem up_any (D : Nat → EntD) (base q : Nat) (v : Value) (l : List Nat) (j : Nat) (w : World) (hs : Same D base q v l w l w) (hj : j < l.length) (hlen : l.length ≤ 1000000000) (hu : UpInv (kf D) l j) :
    Calls Try.prog 46 #[.iface 97 (.pointer (some ⟨q, 0, none⟩)), .int .i64 (j : Int)] w fun e w' => e = .returned (.tuple #[]) ∧ UpPost D base q v l w w' := by
  have HU : UpRel D base q v l w l j w := ⟨hs, hu⟩
  clear hs hu
  go_enter Try.func46, Try.ntmps46
  go_wp2
  go_loopw [1] (fun x wr => ∃ (k : Nat) (l' : List Nat), k < l.length ∧ x = .int .i64 k ∧ UpRel D base q v l w l' k wr) (fun x _ => (intOf x).toNat)
  case atStart => exact ⟨j, l, hj, rfl, HU⟩
  case round =>
    clear HU hj
    obtain ⟨k, l', hk, rfl, hrel⟩ := hrel
    have hlen' := hrel.1.length
    have HL := Lib.hid hlen'
    clear hlen'
    by_cases h0 : k = 0
    · subst h0
      have hpost : UpPost D base q v l w wr := ⟨l', hrel.1, up_root hrel.2⟩
      clear hrel
      go_wp2
      go_end0
      exact ⟨rfl, hpost⟩
    · have b1 : 1 ≤ (k : Int) := by omega
      have b2 : (k : Int) ≤ 1000000000 := by omega
      have b3 : ((((k : Int) - 1) / 2) == (k : Int)) = false := by rw [beq_eq_false_iff_ne]; omega
      have hml : (method 230 97 (.pointer (some ⟨q, 0, none⟩)) "Less").run Try.prog wr = .ok (75, v) wr := meth_less _ _ _ hrel.1.qat.cell
      have hms : ∀ n, (method 230 97 (.pointer (some ⟨q, 0, none⟩)) "Swap").run Try.prog (wr.drewN n) = .ok (78, v) (wr.drewN n) := fun n => meth_swap _ _ _ hrel.1.qat.cell
      have hk' : k < l'.length := by rw [HL.out]; exact hk
      have hi' : (k - 1) / 2 < l'.length := by omega
      have ei : ((k : Int) - 1) / 2 = (((k - 1) / 2 : Nat) : Int) := by omega
      have HEI := Lib.hid ei
      clear ei
      rcases hb : ltK (D (at_ l' k)).key (D (at_ l' ((k - 1) / 2))).key with _ | _
      · have HPOST : UpPost D base q v l w wr := ⟨l', hrel.1, up_stop hrel.2 hb⟩
        have HB := Lib.hid hb
        clear hb
        go_wp2_with (go_at_call 75; refine (less_is base v l' D _ _ k ((k - 1) / 2) false wr hrel.1.row hrel.1.ents rfl HEI.out hk' hi' HB.out).mono ?_; rintro e w' ⟨⟨n, rfl⟩, rfl⟩)
        go_end0
        exact ⟨rfl, by obtain ⟨l2, h1, h2⟩ := HPOST; exact ⟨l2, h1.drewN _, h2⟩⟩
      · have HSTEP := up_step (by omega) hk' hrel.2 hb
        have HB := Lib.hid hb
        clear hb
        have HSTEP' := Lib.hid HSTEP
        clear HSTEP
        go_wp2_with (first | (go_at_call 75; refine (less_is base v l' D _ _ k ((k - 1) / 2) true wr hrel.1.row hrel.1.ents rfl HEI.out hk' hi' HB.out).mono ?_; rintro e w' ⟨⟨n, rfl⟩, rfl⟩) | (go_at_call 78; refine (swap_is base v l' _ _ ((k - 1) / 2) k _ (hrel.1.drewN _).row HEI.out rfl hi' hk').mono ?_; rintro e w2 ⟨rfl, HS⟩))
        go_roundw
        case rel => exact ⟨(k - 1) / 2, swp l' ((k - 1) / 2) k, by omega, by rw [HEI.out], (hrel.1.drewN _).swap hi' hk' HS, HSTEP'.out⟩
        case measure => simp [intOf]; omega

end Go.Proofs.Ytipdejalohmkpaa.I
