/- Part 1 of the proof of JournalDoes: Ja, Jb, Jc, Jd, Je. -/
import Derived.Test.YtiacjbandhedhaaPJournalScanx1
import Derived.Test.YtiacjbandhedhaaPJournalFramex2
import Derived.Lib.Hide
import Derived.Laws.CopyOwn
import Derived.WalkSpells
import Derived.Outline
import Derived.Deep.LoopGhost
import Derived.WalkMore
/- Bytes, checksums, frames and scans, without program and memory; what the printed functions on them answer. -/
namespace Go.Proofs.Ytiacjbandhedhaa.Jn
open Go.RowKit Go.Proofs.YtiacjbandhedhaaW.PrintWords Go.Proofs.YtiacjbandhedhaaW.PrintLast Go.Proofs.YtiacjbandhedhaaW.PrintMore
set_option linter.unusedSimpArgs false
set_option linter.unusedVariables false

/-- Bytes as numbers. -/
def ib (b : List UInt8) : List Int := b.map fun x => (x.toNat : Int)
theorem ib_length (b : List UInt8) : (ib b).length = b.length := by simp [ib]
theorem ib_append (a b : List UInt8) : ib (a ++ b) = ib a ++ ib b := by simp [ib]
theorem ib_take (b : List UInt8) (n : Nat) : ib (b.take n) = (ib b).take n := by simp [ib, List.map_take]
theorem ib_drop (b : List UInt8) (n : Nat) : ib (b.drop n) = (ib b).drop n := by simp [ib, List.map_drop]
theorem ib_nil : ib [] = [] := rfl
theorem rd_ib (b : List UInt8) (i : Nat) (h : i < b.length) : rd (ib b) (i : Int) = (b[i].toNat : Int) := by simp [rd, ib, h]
theorem ib_inj {a b : List UInt8} (h : ib a = ib b) : a = b := by
  unfold ib at h
  exact (List.map_inj_right (fun x y e => UInt8.toNat_inj.1 (by exact_mod_cast e))).1 h
theorem str_ib (b : List UInt8) : strOfNums (ib b) = ⟨b.toArray⟩ := by
  unfold strOfNums ib
  rw [List.map_map]
  congr 1
  congr 1
  conv => rhs; rw [← List.map_id b]
  apply List.map_congr_left
  intro x _
  simp [Function.comp]
theorem w64 {n : Int} (h0 : -9223372036854775808 ≤ n) (h1 : n ≤ 9223372036854775807) : wrap64 n = n := by unfold wrap64; omega

/-- The two sums of a checksum. -/
def adl : List UInt8 → Nat → Nat → Nat × Nat
  | [], a, s => (a, s)
  | x :: r, a, s => adl r ((a + x.toNat) % 65521) ((s + (a + x.toNat) % 65521) % 65521)
def chk (b : List UInt8) : Nat := (adl b 1 0).2 * 65536 + (adl b 1 0).1
theorem adl_lt : ∀ (b : List UInt8) (a s : Nat), a < 65521 → s < 65521 → (adl b a s).1 < 65521 ∧ (adl b a s).2 < 65521
  | [], a, s, ha, hs => ⟨ha, hs⟩
  | x :: r, a, s, _, _ => adl_lt r _ _ (Nat.mod_lt _ (by omega)) (Nat.mod_lt _ (by omega))
theorem chk_lt (b : List UInt8) : chk b < 4294967296 := by
  have := adl_lt b 1 0 (by omega) (by omega)
  unfold chk; omega
/-- A number as four bytes, and back. -/
def be4 (n : Nat) : List UInt8 := [UInt8.ofNat (n / 16777216), UInt8.ofNat (n / 65536), UInt8.ofNat (n / 256), UInt8.ofNat n]
def num4 (b : List UInt8) : Nat := ((b.getD 0 0).toNat * 16777216 + (b.getD 1 0).toNat * 65536 + (b.getD 2 0).toNat * 256 + (b.getD 3 0).toNat)
theorem be4_length (n : Nat) : (be4 n).length = 4 := rfl
theorem num4_be4 (n : Nat) (r : List UInt8) (h : n < 4294967296) : num4 (be4 n ++ r) = n := by
  simp [num4, be4]
  omega
def frame (r : List UInt8) : List UInt8 := if 1 ≤ r.length ∧ r.length ≤ 8192 then be4 r.length ++ be4 (chk r) ++ r else []
/-- Records of the valid part, and its length. -/
def scan : Nat → List UInt8 → List (List UInt8) × Nat
  | 0, _ => ([], 0)
  | k + 1, b =>
    if b.length < 8 then ([], 0)
    else if num4 b < 1 ∨ 8192 < num4 b ∨ b.length - 8 < num4 b then ([], 0)
    else if chk ((b.drop 8).take (num4 b)) = num4 (b.drop 4) then
      (((b.drop 8).take (num4 b)) :: (scan k (b.drop (8 + num4 b))).1, 8 + num4 b + (scan k (b.drop (8 + num4 b))).2)
    else ([], 0)
theorem num4_lt (b : List UInt8) : num4 b < 4294967296 := by
  have h0 := (b.getD 0 0).toNat_lt
  have h1 := (b.getD 1 0).toNat_lt
  have h2 := (b.getD 2 0).toNat_lt
  have h3 := (b.getD 3 0).toNat_lt
  unfold num4; omega

section
open PJournalScan
theorem checksum_l0 (b : List UInt8) (hb : b.length < 1000000000) : ∀ (d k i a s : Nat), b.length - i = d → i ≤ b.length → d < k → a < 65521 → s < 65521 →
    journal_checksum.l0 k (ib b) a s ((ib b).length : Int) i = some (((adl (b.drop i) a s).2 * 65536 + (adl (b.drop i) a s).1 : Nat) : Int) := by
  intro d
  induction d with
  | zero =>
    intro k i a s hd hi hk ha hs
    obtain ⟨k, rfl⟩ : ∃ m, k = m + 1 := ⟨k - 1, by omega⟩
    rw [journal_checksum.l0, if_neg (by rw [ib_length]; omega), List.drop_eq_nil_of_le (by omega)]
    simp only [adl]
    congr 1
    omega
  | succ d ih =>
    intro k i a s hd hi hk ha hs
    obtain ⟨k, rfl⟩ : ∃ m, k = m + 1 := ⟨k - 1, by omega⟩
    have hlt : i < b.length := by omega
    have hw : wrap64 ((i : Int) + 1) = ((i + 1 : Nat) : Int) := by rw [w64 (by omega) (by omega)]; omega
    have hx := (b[i]).toNat_lt
    rw [journal_checksum.l0, if_pos (by rw [ib_length]; omega), if_pos (by omega), if_pos (by rw [ib_length]; omega), rd_ib b i hlt, hw]
    have e1 : (((a : Int) + ((b[i].toNat : Int) % 4294967296)) % 4294967296) % 65521 = (((a + b[i].toNat) % 65521 : Nat) : Int) := by omega
    rw [e1]
    have e2 : (((s : Int) + (((a + b[i].toNat) % 65521 : Nat) : Int)) % 4294967296) % 65521 = (((s + (a + b[i].toNat) % 65521) % 65521 : Nat) : Int) := by omega
    rw [e2, ih k (i + 1) _ _ (by omega) (by omega) (by omega) (Nat.mod_lt _ (by omega)) (Nat.mod_lt _ (by omega)), List.drop_eq_getElem_cons hlt]
    rfl
theorem checksum_f (b : List UInt8) (hb : b.length < 1000000000) : journal_checksum.f (b.length + 1) (ib b) = some (chk b : Int) := by
  have := checksum_l0 b hb b.length (b.length + 1) 0 1 0 (by omega) (by omega) (by omega) (by omega) (by omega)
  exact this
theorem rchecksum_l0 (b : List UInt8) (hb : b.length < 1000000000) : ∀ (d k i a s : Nat), b.length - i = d → i ≤ b.length → d < k → a < 65521 → s < 65521 →
    pentaglotref53_checksum.l0 k a s (ib b) ((ib b).length : Int) i = some (((adl (b.drop i) a s).2 * 65536 + (adl (b.drop i) a s).1 : Nat) : Int) := by
  intro d
  induction d with
  | zero =>
    intro k i a s hd hi hk ha hs
    obtain ⟨k, rfl⟩ : ∃ m, k = m + 1 := ⟨k - 1, by omega⟩
    rw [pentaglotref53_checksum.l0, if_neg (by rw [ib_length]; omega), List.drop_eq_nil_of_le (by omega)]
    simp only [adl]
    congr 1
    rw [w64 (n := (s : Int) * 65536) (by omega) (by omega), w64 (by omega) (by omega)]
    omega
  | succ d ih =>
    intro k i a s hd hi hk ha hs
    obtain ⟨k, rfl⟩ : ∃ m, k = m + 1 := ⟨k - 1, by omega⟩
    have hlt : i < b.length := by omega
    have hw : wrap64 ((i : Int) + 1) = ((i + 1 : Nat) : Int) := by rw [w64 (by omega) (by omega)]; omega
    have hx := (b[i]).toNat_lt
    rw [pentaglotref53_checksum.l0, if_pos (by rw [ib_length]; omega), if_pos (by omega), if_pos (by rw [ib_length]; omega), rd_ib b i hlt, hw]
    have e1 : Int.tmod (wrap64 ((a : Int) + wrap64 (b[i].toNat : Int))) 65521 = (((a + b[i].toNat) % 65521 : Nat) : Int) := by
      rw [w64 (n := (b[i].toNat : Int)) (by omega) (by omega), w64 (by omega) (by omega), Int.tmod_eq_emod_of_nonneg (by omega)]; omega
    rw [e1]
    have e2 : Int.tmod (wrap64 ((s : Int) + (((a + b[i].toNat) % 65521 : Nat) : Int))) 65521 = (((s + (a + b[i].toNat) % 65521) % 65521 : Nat) : Int) := by
      rw [w64 (by omega) (by omega), Int.tmod_eq_emod_of_nonneg (by omega)]; omega
    rw [e2, ih k (i + 1) _ _ (by omega) (by omega) (by omega) (Nat.mod_lt _ (by omega)) (Nat.mod_lt _ (by omega)), List.drop_eq_getElem_cons hlt]
    rfl
theorem rchecksum_f (b : List UInt8) (hb : b.length < 1000000000) : pentaglotref53_checksum.f (b.length + 1) (ib b) = some (chk b : Int) := by
  have := rchecksum_l0 b hb b.length (b.length + 1) 0 1 0 (by omega) (by omega) (by omega) (by omega) (by omega)
  exact this
theorem or8 (m x : Int) (h0 : 0 ≤ m) (h1 : m < 4294967296) (hm : m % 256 = 0) (h2 : 0 ≤ x) (h3 : x < 256) : Go.bits .or .u32 m x = m + x :=
  bits_join .u32 32 (by decide) (fun n h h' => by rw [IntKind.wrap_u32]; exact Int.emod_eq_of_lt h (by simpa using h')) 8 m x h0 (by simpa using hm) (by simpa using h1) h2 (by simpa using h3) (by have e : (2:Int)^32 = 4294967296 := rfl; rw [e]; omega)
theorem rd_nat (b : List UInt8) (i : Nat) (h : i < b.length) : rd (ib b) (i : Int) = ((b.getD i 0).toNat : Int) := by
  rw [rd_ib b i h, List.getD_eq_getElem?_getD, List.getElem?_eq_getElem h]; rfl
theorem get_f (b : List UInt8) (hb : 4 ≤ b.length) : journal_get.f 5 (ib b) = some (num4 b : Int) := by
  have h0 := (b.getD 0 0).toNat_lt
  have h1 := (b.getD 1 0).toNat_lt
  have h2 := (b.getD 2 0).toNat_lt
  have h3 := (b.getD 3 0).toNat_lt
  have r0 := rd_nat b 0 (by omega)
  have r1 := rd_nat b 1 (by omega)
  have r2 := rd_nat b 2 (by omega)
  have r3 := rd_nat b 3 (by omega)
  simp only [Int.natCast_zero, Int.natCast_one] at r0 r1
  rw [show ((2 : Nat) : Int) = 2 from rfl] at r2
  rw [show ((3 : Nat) : Int) = 3 from rfl] at r3
  have hl : ((ib b).length : Int) = (b.length : Int) := by rw [ib_length]
  unfold journal_get.f num4
  generalize (b.getD 0 0).toNat = x0 at *
  generalize (b.getD 1 0).toNat = x1 at *
  generalize (b.getD 2 0).toNat = x2 at *
  generalize (b.getD 3 0).toNat = x3 at *
  have w1 : wrap64 ((0 : Int) + 1) = 1 := by rw [w64 (by omega) (by omega)]; rfl
  have w2 : wrap64 ((1 : Int) + 1) = 2 := by rw [w64 (by omega) (by omega)]; rfl
  have w3 : wrap64 ((2 : Int) + 1) = 3 := by rw [w64 (by omega) (by omega)]; rfl
  have w4 : wrap64 ((3 : Int) + 1) = 4 := by rw [w64 (by omega) (by omega)]; rfl
  rw [journal_get.l0, if_pos (by omega), if_pos (by omega), if_pos (by omega), r0, w1, journal_get.l0, if_pos (by omega), if_pos (by omega), if_pos (by omega), r1, w2, journal_get.l0, if_pos (by omega), if_pos (by omega), if_pos (by omega), r2, w3,
    journal_get.l0, if_pos (by omega), if_pos (by omega), if_pos (by omega), r3, w4, journal_get.l0, if_neg (by omega)]
  rw [or8 (((0 : Int) * 256) % 4294967296) _ (by omega) (by omega) (by omega) (by omega) (by omega)]
  rw [or8 _ ((x1 : Int) % 4294967296) (by omega) (by omega) (by omega) (by omega) (by omega)]
  rw [or8 _ ((x2 : Int) % 4294967296) (by omega) (by omega) (by omega) (by omega) (by omega)]
  rw [or8 _ ((x3 : Int) % 4294967296) (by omega) (by omega) (by omega) (by omega) (by omega)]
  congr 1
  omega
theorem number_f (b : List UInt8) (hb : 4 ≤ b.length) : pentaglotref53_number.f (ib b) = some (num4 b : Int) := by
  have h0 := (b.getD 0 0).toNat_lt
  have h1 := (b.getD 1 0).toNat_lt
  have h2 := (b.getD 2 0).toNat_lt
  have h3 := (b.getD 3 0).toNat_lt
  have r0 := rd_nat b 0 (by omega)
  have r1 := rd_nat b 1 (by omega)
  have r2 := rd_nat b 2 (by omega)
  have r3 := rd_nat b 3 (by omega)
  simp only [Int.natCast_zero, Int.natCast_one] at r0 r1
  rw [show ((2 : Nat) : Int) = 2 from rfl] at r2
  rw [show ((3 : Nat) : Int) = 3 from rfl] at r3
  have hl : ((ib b).length : Int) = (b.length : Int) := by rw [ib_length]
  unfold pentaglotref53_number.f num4
  generalize (b.getD 0 0).toNat = x0 at *
  generalize (b.getD 1 0).toNat = x1 at *
  generalize (b.getD 2 0).toNat = x2 at *
  generalize (b.getD 3 0).toNat = x3 at *
  rw [if_pos (by omega), if_pos (by omega), if_pos (by omega), if_pos (by omega), r0, r1, r2, r3]
  congr 1
  rw [w64 (n := (x0 : Int)) (by omega) (by omega), w64 (n := (x1 : Int)) (by omega) (by omega), w64 (n := (x2 : Int)) (by omega) (by omega), w64 (n := (x3 : Int)) (by omega) (by omega)]
  rw [w64 (n := (x0 : Int) * 16777216) (by omega) (by omega), w64 (n := (x1 : Int) * 65536) (by omega) (by omega), w64 (n := (x2 : Int) * 256) (by omega) (by omega)]
  rw [w64 (n := (x0 : Int) * 16777216 + (x1 : Int) * 65536) (by omega) (by omega), w64 (n := (x0 : Int) * 16777216 + (x1 : Int) * 65536 + (x2 : Int) * 256) (by omega) (by omega), w64 (by omega) (by omega)]
  omega
theorem byte_mod (n : Nat) : ((n : Int) % 256) = ((UInt8.ofNat n).toNat : Int) := by
  rw [UInt8.toNat_ofNat']; omega
theorem put_f (o : List Int) (n : Nat) (hn : n < 4294967296) (ho : 4 ≤ o.length) : journal_put.f 5 o (n : Int) = some (ib (be4 n) ++ o.drop 4) := by
  unfold journal_put.f
  have w1 : wrap64 ((0 : Int) + 1) = 1 := by rw [w64 (by omega) (by omega)]; rfl
  have w2 : wrap64 ((1 : Int) + 1) = 2 := by rw [w64 (by omega) (by omega)]; rfl
  have w3 : wrap64 ((2 : Int) + 1) = 3 := by rw [w64 (by omega) (by omega)]; rfl
  have w4 : wrap64 ((3 : Int) + 1) = 4 := by rw [w64 (by omega) (by omega)]; rfl
  have v0 : wrap64 (8 * wrap64 (3 - 0)) = 24 := by rw [w64 (n := 3 - 0) (by omega) (by omega), w64 (by omega) (by omega)]; rfl
  have v1 : wrap64 (8 * wrap64 (3 - 1)) = 16 := by rw [w64 (n := 3 - 1) (by omega) (by omega), w64 (by omega) (by omega)]; rfl
  have v2 : wrap64 (8 * wrap64 (3 - 2)) = 8 := by rw [w64 (n := 3 - 2) (by omega) (by omega), w64 (by omega) (by omega)]; rfl
  have v3 : wrap64 (8 * wrap64 (3 - 3)) = 0 := by rw [w64 (n := 3 - 3) (by omega) (by omega), w64 (by omega) (by omega)]; rfl
  have s0 : shr .u32 (n : Int) 24 % 256 = ((UInt8.ofNat (n / 16777216)).toNat : Int) := by rw [← byte_mod]; rfl
  have s1 : shr .u32 (n : Int) 16 % 256 = ((UInt8.ofNat (n / 65536)).toNat : Int) := by rw [← byte_mod]; rfl
  have s2 : shr .u32 (n : Int) 8 % 256 = ((UInt8.ofNat (n / 256)).toNat : Int) := by rw [← byte_mod]; rfl
  have s3 : shr .u32 (n : Int) 0 % 256 = ((UInt8.ofNat n).toNat : Int) := by rw [← byte_mod]; show ((n : Int) / 1) % 256 = _; omega
  obtain ⟨a0, a1, a2, a3, r, rfl⟩ : ∃ a0 a1 a2 a3 r, o = a0 :: a1 :: a2 :: a3 :: r := by
    match o, ho with
    | a0 :: a1 :: a2 :: a3 :: r, _ => exact ⟨a0, a1, a2, a3, r, rfl⟩
  rw [journal_put.l0, if_pos (by omega), v0, if_pos (by omega), if_pos (by omega), if_pos (by simp; omega), w1, s0]
  rw [journal_put.l0, if_pos (by omega), v1, if_pos (by omega), if_pos (by omega), if_pos (by simp; omega), w2, s1]
  rw [journal_put.l0, if_pos (by omega), v2, if_pos (by omega), if_pos (by omega), if_pos (by simp; omega), w3, s2]
  rw [journal_put.l0, if_pos (by omega), v3, if_pos (by omega), if_pos (by omega), if_pos (by simp; omega), w4, s3]
  rw [journal_put.l0, if_neg (by omega)]
  rfl
end
end Go.Proofs.Ytiacjbandhedhaa.Jn

/- What the functions on bytes do in memory: checksums, numbers, put. -/
namespace Go.Proofs.Ytiacjbandhedhaa.Jn
open Go.RowKit Go.Proofs.YtiacjbandhedhaaW.PrintWords Go.Proofs.YtiacjbandhedhaaW.PrintLast Go.Proofs.YtiacjbandhedhaaW.PrintMore
set_option linter.unusedSimpArgs false
set_option linter.unusedVariables false

/-- Bytes that are read at an address. -/
def BC (w : World) (A : Option Addr) (b : List UInt8) : Prop := (Kd.int .u8).C w A b.length (ib b)
theorem BC.below {w w' : World} {A : Option Addr} {b : List UInt8} (h : BC w A b) (hb : Below w.heap.size w w') : BC w' A b := Kd.C_below h hb
theorem BC.len {w : World} {A : Option Addr} {b : List UInt8} (h : BC w A b) : b.length ≤ 9223372036854775807 := h.2.1
section
variable {w : World} {A : Option Addr} {b : List UInt8} {c : Nat}
theorem chk_any (h : BC w A b) (hc : b.length ≤ c) (hb : b.length < 1000000000) : Calls Try.prog 37 #[.slice A b.length c] w fun e w' => e = .returned (.int .u32 (chk b)) ∧ Drawn0 w w' := by
  have := PJournalScan.journal_checksum.calls (b.length + 1) A c (ib b) (chk b) w (by rw [ib_length]; exact h) (by rw [ib_length]; exact hc) (checksum_f b hb)
  rwa [ib_length] at this
theorem rchk_any (h : BC w A b) (hc : b.length ≤ c) (hb : b.length < 1000000000) : Calls Try.prog 39 #[.slice A b.length c] w fun e w' => e = .returned (.int .i64 (chk b)) ∧ Drawn0 w w' := by
  have := PJournalScan.pentaglotref53_checksum.calls (b.length + 1) A c (ib b) (chk b) w (by rw [ib_length]; exact h) (by rw [ib_length]; exact hc) (rchecksum_f b hb)
  rwa [ib_length] at this
theorem get_any (h : BC w A b) (hc : b.length ≤ c) (hb : 4 ≤ b.length) : Calls Try.prog 40 #[.slice A b.length c] w fun e w' => e = .returned (.int .u32 (num4 b)) ∧ Drawn0 w w' := by
  have := PJournalScan.journal_get.calls 5 A c (ib b) (num4 b) w (by rw [ib_length]; exact h) (by rw [ib_length]; exact hc) (get_f b hb)
  rwa [ib_length] at this
theorem num_any (h : BC w A b) (hc : b.length ≤ c) (hb : 4 ≤ b.length) : Calls Try.prog 41 #[.slice A b.length c] w fun e w' => e = .returned (.int .i64 (num4 b)) ∧ Drawn0 w w' := by
  have := PJournalScan.pentaglotref53_number.calls A c (ib b) (num4 b) w (by rw [ib_length]; exact h) (by rw [ib_length]; exact hc) (number_f b hb)
  rwa [ib_length] at this
def validB (b : List UInt8) : Bool := decide (1 ≤ b.length) && decide (b.length ≤ 8192)
theorem valid_any (h : BC w A b) (hc : b.length ≤ c) (r : Bool) (hr : validB b = r) : Calls Try.prog 35 #[.slice A b.length c] w fun e w' => e = .returned (.bool r) ∧ Drawn0 w w' := by
  have := PJournalScan.journal_valid.calls A c (ib b) r w (by rw [ib_length]; exact h) (by rw [ib_length]; exact hc) (by
    rw [← hr]
    unfold PJournalScan.journal_valid.f validB
    rw [ib_length]
    by_cases h1 : 1 ≤ b.length
    · rw [if_pos (by omega)]
      congr 1
      rw [Bool.eq_iff_iff]
      simp; omega
    · rw [if_neg (by omega)]; simp [h1])
  rwa [ib_length] at this
end

/-- The cells of bytes. -/
def u8s (b : List UInt8) : List Value := b.map fun x => .int .u8 (x.toNat : Int)
theorem u8s_length (b : List UInt8) : (u8s b).length = b.length := by simp [u8s]
theorem u8s_append (a b : List UInt8) : u8s (a ++ b) = u8s a ++ u8s b := by simp [u8s]
/-- A block whose cells are L. -/
def Blk (w : World) (g : Nat) (L : List Value) : Prop := w.heap[g]? = some (.cells L.toArray 5 (0, 0))
def PutRel (w : World) (go off n : Nat) (L : List Value) (v5 : Value) (wr : World) : Prop :=
  ∃ i : Nat, i ≤ 4 ∧ v5 = .int .i64 i ∧ Blk wr go (splice L off ((u8s (be4 n)).take i)) ∧ w.grownBy wr (some go)
theorem Blk.cell {w : World} {g : Nat} {L : List Value} (h : Blk w g L) (i : Nat) : w.cell? ⟨g, i, none⟩ = L[i]? := by
  have := blk_cell h i
  simpa using this
theorem Blk.set {w : World} {g : Nat} {L : List Value} (h : Blk w g L) (i : Nat) (u : Value) : Blk (w.setCell ⟨g, i, none⟩ u) g (L.set i u) := by
  have := blk_set h i u
  unfold Blk
  rw [this]
  simp
theorem splice_set {α : Type} (L : List α) (off : Nat) (X : List α) (i : Nat) (v : α) (hv : X[i]? = some v) (h : off + X.length ≤ L.length) : (splice L off (X.take i)).set (off + i) v = splice L off (X.take (i + 1)) := by
  obtain ⟨hi, rfl⟩ := List.getElem?_eq_some_iff.1 hv
  unfold splice
  have h1 : (X.take i).length = i := by rw [List.length_take]; omega
  have h2 : (X.take (i + 1)).length = i + 1 := by rw [List.length_take]; omega
  have h3 : (L.take off).length = off := by rw [List.length_take]; omega
  rw [h1, h2, List.set_append_right _ _ (by rw [h3]; omega), h3, Nat.add_sub_cancel_left, List.set_append_right _ _ (by rw [h1]; omega), h1, Nat.sub_self, List.take_succ_eq_append_getElem hi, List.append_assoc,
    List.drop_eq_getElem_cons (by omega : off + i < L.length), List.set_cons_zero]
  rfl
theorem put_cell {w : World} {go off n : Nat} {L : List Value} {i : Nat} (hi : i < 4) (hL : off + 4 ≤ L.length) (h : Blk w go (splice L off ((u8s (be4 n)).take i))) : ∃ old, w.cell? ⟨go, off + i, none⟩ = some old := by
  have h4 : (u8s (be4 n)).length = 4 := rfl
  have hlen : (splice L off ((u8s (be4 n)).take i)).length = L.length := length_splice _ _ _ (by rw [List.length_take, h4]; omega)
  exact ⟨_, by rw [h.cell, List.getElem?_eq_getElem (by rw [hlen]; omega)]⟩
theorem grown_set (w : World) (go j : Nat) (u : Value) : w.grownBy (w.setCell ⟨go, j, none⟩ u) (some go) :=
  ⟨rfl, rfl, rfl, by simp, fun k _ hne => Below.heap_setCell w ⟨go, j, none⟩ u k (fun e => hne (by rw [e]))⟩
theorem grown_trans {w w1 w2 : World} {r : Option Nat} (h1 : w.grownBy w1 r) (h2 : w1.grownBy w2 r) : w.grownBy w2 r :=
  ⟨h2.os.trans h1.os, h2.tape.trans h1.tape, h2.output.trans h1.output, Nat.le_trans h1.size h2.size, fun k hk hne => (h2.block k (Nat.lt_of_lt_of_le hk h1.size) hne).trans (h1.block k hk hne)⟩
theorem put_step {w wr : World} {go off n : Nat} {L : List Value} {i : Nat} (hi : i < 4) (v v' : Value) (hv : (u8s (be4 n))[i]? = some v) (hvv : v' = v) (hL : off + 4 ≤ L.length) (h : Blk wr go (splice L off ((u8s (be4 n)).take i))) (hg : w.grownBy wr (some go)) :
    PutRel w go off n L (.int .i64 ((i + 1 : Nat) : Int)) (wr.setCell ⟨go, off + i, none⟩ v') := by
  subst hvv
  exact ⟨i + 1, by omega, rfl, by rw [← splice_set L off (u8s (be4 n)) i v' hv hL]; exact h.set _ _, grown_trans hg (grown_set _ _ _ _)⟩
set_option maxRecDepth 100000 in
set_option maxHeartbeats 1000000 in
theorem put_any (w : World) (go off n m c : Nat) (L : List Value) (h : Blk w go L) (hL : off + 4 ≤ L.length) (hm : 4 ≤ m) (hn : n < 4294967296) (hoff : off < 1000000000) (hm2 : m < 1000000000) :
    Calls Try.prog 36 #[.slice (some ⟨go, off, none⟩) m c, .int .u32 (n : Int)] w fun e w' => e = .returned (.tuple #[]) ∧ Blk w' go (splice L off (u8s (be4 n))) ∧ w.grownBy w' (some go) := by
  have HI := Lib.hid (show PutRel w go off n L (.int .i64 0) w from ⟨0, by omega, rfl, by unfold splice; simpa using h, World.grownBy.refl _ _⟩)
  clear h
  go_enter Try.func36, Try.ntmps36
  go_wp2
  go_loopw [5] (fun v5 wr => PutRel w go off n L v5 wr) (fun v5 _ => 4 - (intOf v5).toNat)
  case atStart => exact HI.out
  case round =>
    clear HI
    obtain ⟨i, hi, rfl, hB, hg⟩ := hrel
    have HB := Lib.hid hB
    have HG := Lib.hid hg
    clear hB hg
    by_cases hlt : i < 4
    · obtain ⟨old, hc⟩ := put_cell hlt hL HB.out
      have hf : wr.frozen? ⟨go, off + i, none⟩ = false := blk_frozen HB.out _
      rcases (by omega : i = 0 ∨ i = 1 ∨ i = 2 ∨ i = 3) with rfl | rfl | rfl | rfl
      · rw [Nat.add_zero] at hc hf
        go_wp2
        exact ⟨put_step (i := 0) (by omega) _ _ rfl (by show Value.int .u8 _ = Value.int .u8 ((UInt8.ofNat _).toNat : Int); rw [← byte_mod]; congr 1; omega) hL HB.out HG.out, by simp [intOf]⟩
      · go_wp2
        exact ⟨put_step (i := 1) (by omega) _ _ rfl (by show Value.int .u8 _ = Value.int .u8 ((UInt8.ofNat _).toNat : Int); rw [← byte_mod]; congr 1) hL HB.out HG.out, by simp [intOf]⟩
      · go_wp2
        exact ⟨put_step (i := 2) (by omega) _ _ rfl (by show Value.int .u8 _ = Value.int .u8 ((UInt8.ofNat _).toNat : Int); rw [← byte_mod]; congr 1) hL HB.out HG.out, by simp [intOf]⟩
      · go_wp2
        exact ⟨put_step (i := 3) (by omega) _ _ rfl (by show Value.int .u8 _ = Value.int .u8 ((UInt8.ofNat _).toNat : Int); rw [← byte_mod]) hL HB.out HG.out, by simp [intOf]⟩
    · obtain rfl : i = 4 := by omega
      have HE := Lib.hid (show Blk wr go (splice L off (u8s (be4 n))) from HB.out)
      clear HB
      go_wp2
      go_end0
      exact ⟨rfl, HE.out, HG.out⟩
end Go.Proofs.Ytiacjbandhedhaa.Jn

/- Frame: length, checksum and record in new memory. -/
namespace Go.Proofs.Ytiacjbandhedhaa.Jn
open Go.RowKit Go.Proofs.YtiacjbandhedhaaW.PrintWords Go.Proofs.YtiacjbandhedhaaW.PrintLast Go.Proofs.YtiacjbandhedhaaW.PrintMore
set_option linter.unusedSimpArgs false
set_option linter.unusedVariables false

/-- Bytes in a row of the call's own. -/
def BO (w : World) (base : Nat) (v : Value) (b : List UInt8) : Prop := w.ownsRow base 5 1 v b.length (u8s b)
theorem encs_ib (b : List UInt8) : encs (Value.int .u8) (ib b) = u8s b := by simp [encs, ib, u8s, Function.comp_def]
theorem BO.R {w : World} {base : Nat} {v : Value} {b : List UInt8} (h : BO w base v b) (ok : Nat → Prop) (hok : ∀ k, v.ownBlock = some k → ok k) : (Kd.int .u8).R 5 w base ok v (ib b) :=
  Kd.R_of_own (by rw [encs_ib, ib_length]; exact h) hok
theorem BO.reads {w : World} {base : Nat} {v : Value} {b : List UInt8} (h : BO w base v b) : ∃ A c, v = .slice A b.length c ∧ b.length ≤ c ∧ BC w A b := by
  obtain ⟨A, c, e, hl, hC⟩ := Kd.R_reads (h.R (fun _ => True) (fun _ _ => trivial))
  rw [ib_length] at e hl hC
  exact ⟨A, c, e, hl, hC⟩
theorem BO.below {w w' : World} {base : Nat} {v : Value} {b : List UInt8} (h : BO w base v b) (hb : Below w.heap.size w w') : BO w' base v b := pw_own_below h hb
theorem BO.lower {w : World} {base base' : Nat} {v : Value} {b : List UInt8} (h : BO w base v b) (hb : base' ≤ base) : BO w base' v b := own_weaken h hb
theorem BO.nil (w : World) (base : Nat) : BO w base (.slice none 0 0) [] := own_nil _ _ _ _
theorem bo_of_blk {w : World} {g base : Nat} {b : List UInt8} (h : Blk w g (u8s b)) (hb : base ≤ g) (hm : b.length ≤ 9223372036854775807) : BO w base (.slice (some ⟨g, 0, none⟩) b.length b.length) b :=
  ⟨by rw [u8s_length, Nat.mul_one], .inr ⟨g, b.length, (u8s b).toArray, rfl, hb, h, Nat.le_refl _, by simpa [maxLen] using hm, by simp [u8s_length], by rw [Nat.mul_one]; exact List.take_of_length_le (by simp [u8s_length])⟩⟩
theorem cells_zero (n : Nat) : (madeCells #[Value.int .u8 0] n) = Array.replicate n (Value.int .u8 0) := by
  apply Array.ext
  · simp [madeCells]
  · intro i h1 h2
    simp [madeCells, Nat.mod_one]
theorem splice_frame (b : List UInt8) :
    splice (splice (splice (List.replicate (8 + b.length) (Value.int .u8 0)) 0 (u8s (be4 b.length))) 4 (u8s (be4 (chk b)))) 8 (u8s b) = u8s (be4 b.length ++ be4 (chk b) ++ b) := by
  have h := splice_splice_splice (List.replicate (8 + b.length) (Value.int .u8 0)) (u8s (be4 b.length)) (u8s (be4 (chk b))) (u8s b) 4 4 rfl rfl (by simp [u8s_length])
  rw [show (4 : Nat) + 4 = 8 from rfl] at h
  rw [h, u8s_append, u8s_append, List.append_assoc]
theorem src_cells {w : World} {A : Option Addr} {b : List UInt8} (h : BC w A b) (hp : 0 < b.length) : ∃ ad, A = some ad ∧ ∀ j v, (u8s b)[j]? = some v → w.cell? (ad.add j) = some v := by
  obtain ⟨ad, rfl, _⟩ := Kd.at_int h 0 (Int.le_refl _) (by omega)
  refine ⟨ad, rfl, fun j v hv => ?_⟩
  have hj : j < b.length := by
    have := (List.getElem?_eq_some_iff.1 hv).1
    rwa [u8s_length] at this
  obtain ⟨ad', e, hc⟩ := Kd.at_int h (j : Int) (by omega) (by omega)
  injection e with e
  subst e
  rw [Int.toNat_natCast, rd_ib b j hj] at hc
  rw [hc, ← hv]
  simp [u8s, hj]
theorem u8s_one (b : List UInt8) : ∀ v ∈ u8s b, v.oneCell' = true := by
  intro v hv
  simp only [u8s, List.mem_map] at hv
  obtain ⟨x, _, rfl⟩ := hv
  rfl

set_option maxRecDepth 1000000 in
set_option maxHeartbeats 2000000 in
theorem frame_any {w : World} {A : Option Addr} {b : List UInt8} {c : Nat} (h : BC w A b) (hc : b.length ≤ c) :
    Calls Try.prog 13 #[.slice A b.length c] w fun e w' => ∃ v, e = .returned v ∧ BO w' w.heap.size v (frame b) ∧ Below w.heap.size w w' := by
  cases hv : validB b with
  | false =>
    have HF : Hid (frame b = []) := by
      show frame b = []
      unfold frame
      rw [if_neg (by simpa [validB] using hv)]
    have HC := Lib.hid h
    clear h
    go_enter Try.func13, Try.ntmps13
    go_wp2_with fail
    refine (valid_any HC.out hc false hv).mono ?_
    rintro e w1 ⟨rfl, hd⟩
    have HD := Lib.hid hd.below
    clear hd hv
    go_wp2
    go_ret
    exact ⟨_, rfl, by rw [HF.out]; exact BO.nil _ _, HD.out⟩
  | true =>
    have hv2 : 1 ≤ b.length ∧ b.length ≤ 8192 := by simpa [validB] using hv
    have HF : Hid (frame b = be4 b.length ++ be4 (chk b) ++ b) := by
      show frame b = _
      unfold frame
      rw [if_pos hv2]
    have HC := Lib.hid h
    clear h
    have hlb := hv2.2
    have hlb1 := hv2.1
    have hmk : ∀ W : World, (Instr.makeSlice 22 (.int .i64 (8 + (b.length : Int))) (.int .i64 (8 + (b.length : Int)))).run Try.prog W = .ok (.slice (some ⟨W.heap.size, 0, none⟩) (8 + b.length) (8 + b.length)) (W.alloc (.cells (Array.replicate (8 + b.length) (Value.int .u8 0)) 5)) := by
      intro W
      have := print_make (P := Try.prog) 22 5 .u8 1 Try.underlying22 (by kernel_rfl) (by decide) (8 + b.length) (by omega) W
      rw [cells_zero] at this
      rw [← this]
      congr 2
    go_enter Try.func13, Try.ntmps13
    go_wp2_with fail
    refine (valid_any HC.out hc true hv).mono ?_
    rintro e w1 ⟨rfl, hd⟩
    have HD := Lib.hid hd.below
    have HC1 := Lib.hid (HC.out.below hd.below)
    clear hd hv hv2
    go_wp2_with fail
    generalize hW : w1.alloc (.cells (Array.replicate (8 + b.length) (Value.int .u8 0)) 5) = W2
    have HB2 := Lib.hid (show Below w1.heap.size w1 W2 from hW ▸ (Below.refl _ _).alloc (Nat.le_refl _) _)
    have HK2 := Lib.hid (show Blk W2 w1.heap.size (List.replicate (8 + b.length) (Value.int .u8 0)) from by
      have h := blk_new w1 (.cells (Array.replicate (8 + b.length) (Value.int .u8 0)) 5)
      rw [hW] at h
      unfold Blk
      rw [h, ← List.toArray_replicate])
    have HC2 := Lib.hid (HC1.out.below HB2.out)
    clear hW
    have HG := Lib.hid (show w.heap.size ≤ w1.heap.size from HD.out.size)
    obtain ⟨G, hG⟩ : ∃ G, w1.heap.size = G := ⟨_, rfl⟩
    rw [hG] at HB2 HK2 HG ⊢
    have HBW := Lib.hid (show Below w.heap.size w W2 from (HD.out.trans (HB2.out.mono HG.out)))
    clear hG HB2 HC1
    refine (put_any W2 G 0 b.length (8 + b.length) (8 + b.length) _ HK2.out (by simp; omega) (by omega) (by omega) (by omega) (by omega)).mono ?_
    rintro e w3 ⟨rfl, hk3, hg3⟩
    have HK3 := Lib.hid hk3
    have HBW3 := Lib.hid (pw_below_grown HBW.out _ HBW.out.size hg3 (fun k hk => by injection hk with hk; subst hk; exact HG.out))
    have HC3 := Lib.hid (HC.out.below HBW3.out)
    clear hk3 hg3 HK2 HBW
    have hlen3 : (splice (List.replicate (8 + b.length) (Value.int .u8 0)) 0 (u8s (be4 b.length))).length = 8 + b.length := by
      rw [length_splice _ _ _ (by simp [u8s_length, be4_length]; omega), List.length_replicate]
    have HL3 := Lib.hid hlen3
    clear hlen3
    have c44 : ((4 : Int) ≤ 8 + (b.length : Int)) = True := eq_true (by omega)
    have c45 : (8 + b.length = 4) = False := eq_false (by omega)
    go_wp2
    refine start_ (n := 5) (S := fun w' => True) (ds := [4]) #[false, false, false, false, false] (by kernel_rfl) rfl rfl trivial (fun hHeld => ?_)
    have HK4 := Lib.hid (show Blk w3.drew G _ from HK3.out)
    have HBW4 := Lib.hid (Below.drew HBW3.out)
    clear HK3 HBW3
    generalize w3.drew = w4 at HK4 HBW4 ⊢
    have HC4 := Lib.hid (HC.out.below HBW4.out)
    refine pure_ (i := 0) (N := (some 16)) (v := ?_) (a' := ?_) #[true, false, false, false, false] rfl rfl (by kernel_rfl) (fun _ _ _ h => h) (Or.inl ⟨by rfl, ?_⟩) ?_ ?_
    rotate_left
    · intro w'
      go_simp
      with_reducible rfl
    rotate_left
    · simp only [Act.put, List.setIfInBounds_toArray, List.set_cons_zero, List.set_cons_succ]
      rfl
    refine pure_ (i := 1) (N := (some 17)) (v := ?_) (a' := ?_) #[true, true, false, false, false] rfl rfl (by kernel_rfl) (fun _ _ _ h => h) (Or.inl ⟨by rfl, ?_⟩) ?_ ?_
    rotate_left
    · intro w'
      go_simp
      with_reducible rfl
    rotate_left
    · simp only [Act.put, List.setIfInBounds_toArray, List.set_cons_zero, List.set_cons_succ]
      rfl
    refine pure_ (i := 2) (N := (some 18)) (v := ?_) (a' := ?_) #[true, true, true, false, false] rfl rfl (by kernel_rfl) (fun _ _ _ h => h) (Or.inl ⟨by rfl, ?_⟩) ?_ ?_
    rotate_left
    · intro w'
      go_simp
      with_reducible rfl
    rotate_left
    · simp only [Act.put, List.setIfInBounds_toArray, List.set_cons_zero, List.set_cons_succ]
      rfl
    refine one_ (i := 3) (N := (some 19)) #[true, true, true, true, false] rfl rfl (by kernel_rfl) (by decide) (fun K hK => ?_)
    go_simp
    refine (chk_any HC4.out hc (by omega)).mono ?_
    rintro e w5 ⟨rfl, hd5⟩
    have HB5 := Lib.hid hd5.below
    have HK5 := Lib.hid (show Blk w5 G _ from blk_below HK4.out HB5.out)
    have HBW5 := Lib.hid (below_then HBW4.out HBW4.out.size HB5.out)
    clear hd5
    refine hK.out _ _ trivial (fun hHeld => ?_)
    clear hK K
    (try simp only [Act.put, List.setIfInBounds_toArray, List.set_cons_zero, List.set_cons_succ])
    refine last_ (i := 4) (N := (some 20)) #[true, true, true, true, true] rfl rfl (by kernel_rfl) (by decide) (fun K hK => ?_)
    go_simp
    refine (put_any w5 G 4 (chk b) (8 + b.length - 4) (8 + b.length - 4) _ HK5.out (by rw [HL3.out]; omega) (by omega) (chk_lt b) (by omega) (by omega)).mono ?_
    rintro e w6 ⟨rfl, hk6, hg6⟩
    have HK6 := Lib.hid hk6
    have HBW6 := Lib.hid (pw_below_grown HBW5.out _ HBW5.out.size hg6 (fun k hk => by injection hk with hk; subst hk; exact HG.out))
    clear hk6 hg6
    refine hK.out _ _ ?_
    clear hK K
    (try simp only [Act.put, List.setIfInBounds_toArray, List.set_cons_zero, List.set_cons_succ])
    refine done_ (by kernel_rfl) ?_
    clear c44 c45
    have c88 : ((8 : Int) ≤ 8 + (b.length : Int)) = True := eq_true (by omega)
    have c89 : (8 + b.length = 8) = False := eq_false (by omega)
    have hlen6 : (splice (splice (List.replicate (8 + b.length) (Value.int .u8 0)) 0 (u8s (be4 b.length))) 4 (u8s (be4 (chk b)))).length = 8 + b.length := by
      rw [length_splice _ _ _ (by rw [HL3.out]; simp [u8s_length, be4_length]), HL3.out]
    have HL6 := Lib.hid hlen6
    have HC6 := Lib.hid (HC.out.below HBW6.out)
    have HSP := Lib.hid (splice_frame b)
    clear hlen6
    obtain ⟨L6, hL6⟩ : ∃ L6, splice (splice (List.replicate (8 + b.length) (Value.int .u8 0)) 0 (u8s (be4 b.length))) 4 (u8s (be4 (chk b))) = L6 := ⟨_, rfl⟩
    rw [hL6] at HL6 HK6 HSP
    clear hL6 HL3 HK5 HK4
    go_wp2_with (refine wpList_copy_splice rfl (.tmp 22) (.tmp 23) 22 22 rfl 5 Try.underlying22 (by kernel_rfl) (some ⟨G, 8, none⟩) A b.length b.length b.length c rfl rfl G 8 L6 5 (show w6.heap[G]? = some _ from HK6.out) (u8s b) (by rw [u8s_length]; exact (Nat.min_self _).symm) (fun hp => ⟨rfl, src_cells HC6.out (by rw [u8s_length] at hp; exact hp)⟩) (by rw [HL6.out, u8s_length]; omega) (u8s_one b) w.heap.size w HBW6.out HG.out ?_; intro w7 hk7 hb7; have HK7 := Lib.hid (show Blk w7 G (splice L6 8 (u8s b)) from hk7.out); have HBW7 := Lib.hid hb7; clear hk7 hb7)
    go_ret
    have hfin := HK7.out
    rw [HSP.out] at hfin
    have hb := bo_of_blk hfin HG.out (by simp [be4_length]; omega)
    have e : (be4 b.length ++ be4 (chk b) ++ b).length = 8 + b.length := by simp [be4_length]; omega
    rw [e] at hb
    exact ⟨_, rfl, by rw [HF.out]; exact hb, HBW7.out⟩
end Go.Proofs.Ytiacjbandhedhaa.Jn

/- Scan: the records of the valid part, and its length. -/
namespace Go.Proofs.Ytiacjbandhedhaa.Jn
open Go.RowKit Go.Proofs.YtiacjbandhedhaaW.PrintWords Go.Proofs.YtiacjbandhedhaaW.PrintLast Go.Proofs.YtiacjbandhedhaaW.PrintMore
set_option linter.unusedSimpArgs false
set_option linter.unusedVariables false

theorem info5p : ∃ i, Try.prog.info? 5 = some i ∧ i.size = 1 := by
  have h : (Try.prog.info? 5).map (·.size) = some 1 := by kernel_rfl
  obtain ⟨i, h1, h2⟩ := Option.map_eq_some_iff.1 h
  exact ⟨i, h1, h2⟩
theorem i64w {n : Int} (h0 : -9223372036854775808 ≤ n) (h1 : n ≤ 9223372036854775807) : IntKind.i64.wrap n = n := by rw [IntKind.wrap_i64]; omega
/-- b[m:]. -/
theorem cut_from_b (A : Option Addr) (n c m : Nat) (j : Int) (hj : j = (m : Int)) (hm : m ≤ n) :
    ∃ A' : Option Addr, (∀ W : World, (Instr.slice 22 (.slice A n c) (some (.int .i64 j)) none none).run Try.prog W = .ok (.slice A' (n - m) (c - m)) W) ∧ ∀ (w : World) (b : List UInt8), b.length = n → n ≤ c → BC w A b → BC w A' (b.drop m) := by
  subst hj
  obtain ⟨i, hi, hsz⟩ := info5p
  have h := cut_from (P := Try.prog) 22 5 .i64 Try.underlying22 hi 1 hsz A n c (m : Int) (by omega) (by omega)
  simp only [Int.toNat_natCast] at h
  refine ⟨_, h, fun w b hb hc hC => ?_⟩
  subst hb
  unfold BC at hC ⊢
  have hl := ib_length b
  rw [← hl] at hC hm hc
  have := Kd.C_drop (c := c) hC hm hc
  rw [ib_drop, List.length_drop, ← hl]
  rwa [List.length_drop] at this
/-- b[l:m]. -/
theorem cut_mid_b (A : Option Addr) (n c l m : Nat) (i j : Int) (hi : i = (l : Int)) (hj : j = (m : Int)) (hl : l ≤ m) (hm : m ≤ n) (hnc : n ≤ c) :
    ∃ A' : Option Addr, (∀ W : World, (Instr.slice 22 (.slice A n c) (some (.int .i64 i)) (some (.int .i64 j)) none).run Try.prog W = .ok (.slice A' (m - l) (c - l)) W) ∧ ∀ (w : World) (b : List UInt8), b.length = n → BC w A b → BC w A' ((b.take m).drop l) := by
  subst hi hj
  obtain ⟨i, hi, hsz⟩ := info5p
  have h := cut_mid (P := Try.prog) 22 5 .i64 .i64 Try.underlying22 hi 1 hsz A n c (l : Int) (m : Int) (by omega) (by omega) (by omega) hnc
  simp only [Int.toNat_natCast] at h
  refine ⟨_, h, fun w b hb hC => ?_⟩
  subst hb
  unfold BC at hC ⊢
  have hlb := ib_length b
  rw [← hlb] at hC hm hnc
  have := Kd.C_mid (c := c) hC hl hm hnc
  rw [ib_drop, ib_take, List.length_drop, List.length_take, ← hlb]
  rwa [List.length_drop, List.length_take] at this
/-- b[:m]. -/
theorem cut_to_b (A : Option Addr) (n c m : Nat) (j : Int) (hj : j = (m : Int)) (hm : m ≤ n) (hnc : n ≤ c) :
    (∀ W : World, (Instr.slice 22 (.slice A n c) none (some (.int .i64 j)) none).run Try.prog W = .ok (.slice A m c) W) := by
  subst hj
  obtain ⟨i, hi, hsz⟩ := info5p
  have h := cut_to (P := Try.prog) 22 5 .i64 Try.underlying22 hi A n c (m : Int) (by omega) (by omega) hnc
  simp only [Int.toNat_natCast] at h
  exact h
theorem BC.take {w : World} {A : Option Addr} {b : List UInt8} (h : BC w A b) {m : Nat} (hm : m ≤ b.length) : BC w A (b.take m) := by
  unfold BC at h ⊢
  have hlb := ib_length b
  rw [← hlb] at h hm
  have := Kd.C_take h hm
  rw [ib_take, List.length_take, ← hlb]
  rwa [List.length_take] at this

abbrev scanAll (b : List UInt8) : List (List UInt8) × Nat := scan (b.length + 1) b
abbrev kbs : Kd (List Int) := Kd.slice 5 (Kd.int .u8)
def ScRel (b : List UInt8) (w : World) (k : Nat) (v4 v5 : Value) (wr : World) : Prop :=
  ∃ (at_ : Nat) (rs : List (List UInt8)) (vo : Value), vo = v4 ∧ at_ ≤ b.length ∧ b.length - at_ < k ∧ v5 = .int .i64 at_ ∧ scanAll b = (rs ++ (scan k (b.drop at_)).1, at_ + (scan k (b.drop at_)).2) ∧ rs.length ≤ at_ ∧
    kbs.R 22 wr w.heap.size (fun _ => True) vo (rs.map ib) ∧ Below w.heap.size w wr
def ScPost (b : List UInt8) (w : World) (e : Ending) (w' : World) : Prop :=
  ∃ v, e = .returned (.tuple #[v, .int .i64 (scanAll b).2]) ∧ kbs.R 22 w' w.heap.size (fun _ => True) v ((scanAll b).1.map ib) ∧ Below w.heap.size w w'
theorem splice_all {α : Type} (L X : List α) (h : L.length = X.length) : splice L 0 X = X := by
  unfold splice
  rw [Nat.zero_add, ← h, List.drop_length, List.take_zero, List.append_nil, List.nil_append]
theorem src_take {w : World} {A : Option Addr} {b : List UInt8} {n : Nat} (h : BC w A b) (hp : 0 < (b.take n).length) : ∃ ad, A = some ad ∧ ∀ j v, (u8s (b.take n))[j]? = some v → w.cell? (ad.add j) = some v := by
  obtain ⟨ad, e, hc⟩ := src_cells h (by rw [List.length_take] at hp; omega)
  refine ⟨ad, e, fun j v hv => hc j v ?_⟩
  have : u8s (b.take n) = (u8s b).take n := by simp [u8s, List.map_take]
  rw [this, List.getElem?_take] at hv
  split at hv
  · exact hv
  · cases hv
theorem make_b (n : Nat) (hn : n ≤ 1000000000) (W : World) : (Instr.makeSlice 22 (.int .i64 (n : Int)) (.int .i64 (n : Int))).run Try.prog W = .ok (.slice (some ⟨W.heap.size, 0, none⟩) n n) (W.alloc (.cells (Array.replicate n (Value.int .u8 0)) 5)) := by
  have := print_make (P := Try.prog) 22 5 .u8 1 Try.underlying22 (by kernel_rfl) (by decide) n (by omega) W
  rw [cells_zero] at this
  exact this
theorem info22 : (Try.prog.info? 22).map (fun i => (i.zero, i.size, i.bytes)) = some (some (.slice none 0 0), 1, 24) := by kernel_rfl
theorem sc_end {b r : List UInt8} {w wr : World} {k at_ : Nat} {rs : List (List UInt8)} {v4 : Value} (hsc : scanAll b = (rs ++ (scan k r).1, at_ + (scan k r).2)) (h0 : scan k r = ([], 0)) (hR : kbs.R 22 wr w.heap.size (fun _ => True) v4 (rs.map ib)) (hB : Below w.heap.size w wr) :
    ScPost b w (.returned (.tuple #[v4, .int .i64 (at_ : Int)])) wr := by
  unfold ScPost
  rw [hsc, h0]
  exact ⟨v4, by simp, by simpa using hR, hB⟩
set_option maxRecDepth 1000000 in
set_option maxHeartbeats 4000000 in
theorem scan_any {w : World} {A : Option Addr} {b : List UInt8} {c : Nat} (h : BC w A b) (hc : b.length ≤ c) (hb : b.length < 1000000000) :
    Calls Try.prog 15 #[.slice A b.length c] w (ScPost b w) := by
  have HC := Lib.hid h
  have HI := Lib.hid (show ScRel b w (b.length + 1) (.slice none 0 0) (.int .i64 0) w from ⟨0, [], _, rfl, by omega, by omega, rfl, by rw [List.drop_zero, List.nil_append, Nat.zero_add], by simp, Kd.R_nil _ _ _ _ _, Below.refl _ _⟩)
  clear h
  go_enter Try.func15, Try.ntmps15
  go_wp2
  go_step3
  go_wp2
  go_step3
  go_wp2
  go_loopg [4, 5] (b.length + 1) (fun kq v4 v5 wr => ScRel b w kq v4 v5 wr)
  case atStart => exact HI.out
  case round =>
    clear HI
    obtain ⟨at_, rs, vo, rfl, hat, hk, rfl, hsc, hrs, hR, hB⟩ := hrel
    cases gk with
    | zero => omega
    | succ k1 =>
    have HR := Lib.hid hR
    have HB := Lib.hid hB
    have HSC := Lib.hid hsc
    have HCw := Lib.hid (HC.out.below hB)
    clear hR hB hsc
    obtain ⟨A1, hcut1, hC1⟩ := cut_from_b A b.length c at_ (at_ : Int) rfl hat
    have HC1 := Lib.hid (hC1 wr b rfl hc HCw.out)
    clear hC1
    obtain ⟨r, hr⟩ : ∃ r, b.drop at_ = r := ⟨_, rfl⟩
    rw [hr] at HSC HC1
    have hrl : b.length - at_ = r.length := by rw [← hr, List.length_drop]
    have HDR := Lib.hid hr
    rw [hrl] at hcut1 hk
    have hrc : r.length ≤ c - at_ := by omega
    have hrb : r.length < 1000000000 := by omega
    obtain ⟨c1, hc1⟩ : ∃ c1, c - at_ = c1 := ⟨_, rfl⟩
    rw [hc1] at hcut1 hrc
    have HRL := Lib.hid hrl
    clear hc1 hr hrl
    by_cases h8 : r.length < 8
    · have HSZ := Lib.hid (show scan (k1 + 1) r = ([], 0) by unfold scan; rw [if_pos h8])
      have HPOST := Lib.hid (sc_end HSC.out HSZ.out HR.out HB.out)
      clear HSZ HSC HR HB
      go_wp2
      rw [Exit.noGoto_ret]
      go_ret2
      exact HPOST.out
    · go_wp2_with fail
      refine (get_any HC1.out hrc (by omega)).mono ?_
      rintro e w2 ⟨rfl, hd2⟩
      have HB2 := Lib.hid hd2.below
      have HC2 := Lib.hid (HC1.out.below hd2.below)
      have HR2 := Lib.hid (Kd.R_below HR.out hd2.below)
      have HBW2 := Lib.hid (below_then HB.out HB.out.size hd2.below)
      have hnl := num4_lt r
      have HSZ := Lib.hid (show scan (k1 + 1) r = if num4 r < 1 ∨ 8192 < num4 r ∨ r.length - 8 < num4 r then ([], 0) else if chk ((r.drop 8).take (num4 r)) = num4 (r.drop 4) then
        (((r.drop 8).take (num4 r)) :: (scan k1 (r.drop (8 + num4 r))).1, 8 + num4 r + (scan k1 (r.drop (8 + num4 r))).2) else ([], 0) by
          conv => lhs; unfold scan
          rw [if_neg h8])
      obtain ⟨n, hn⟩ : ∃ n, num4 r = n := ⟨_, rfl⟩
      rw [hn] at HSZ hnl ⊢
      clear hn hd2 HR HB HC1 HCw
      by_cases h1 : n < 1
      · have HPOST := Lib.hid (sc_end HSC.out (HSZ.out.trans (if_pos (.inl h1))) HR2.out HBW2.out)
        have g1 : decide ((n : Int) < 1) = true := decide_eq_true (by omega)
        clear HSZ HSC HR2 HBW2
        go_wp2
        rw [Exit.noGoto_ret]
        go_ret2
        exact HPOST.out
      · have g1 : decide ((n : Int) < 1) = false := decide_eq_false (by omega)
        by_cases h2 : 8192 < n
        · have HPOST := Lib.hid (sc_end HSC.out (HSZ.out.trans (if_pos (.inr (.inl h2)))) HR2.out HBW2.out)
          have g2 : decide (8192 < (n : Int)) = true := decide_eq_true (by omega)
          clear HSZ HSC HR2 HBW2
          go_wp2
          rw [Exit.noGoto_ret]
          go_ret2
          exact HPOST.out
        · have g2 : decide (8192 < (n : Int)) = false := decide_eq_false (by omega)
          by_cases h3 : r.length - 8 < n
          · have HPOST := Lib.hid (sc_end HSC.out (HSZ.out.trans (if_pos (.inr (.inr h3)))) HR2.out HBW2.out)
            have g3 : decide ((r.length : Int) - 8 < (n : Int)) = true := decide_eq_true (by omega)
            clear HSZ HSC HR2 HBW2
            go_wp2
            rw [Exit.noGoto_ret]
            go_ret2
            exact HPOST.out
          · have g3 : decide ((r.length : Int) - 8 < (n : Int)) = false := decide_eq_false (by omega)
            have HSZ2 := Lib.hid (HSZ.out.trans (if_neg (by omega)))
            obtain ⟨A2, hcut2, hC2⟩ := cut_mid_b A1 r.length c1 8 (8 + n) 8 (IntKind.i64.wrap (8 + (n : Int))) rfl (by rw [i64w (by omega) (by omega)]; omega) (by omega) (by omega) hrc
            have HCx := Lib.hid (hC2 w2 r rfl HC2.out)
            obtain ⟨A4, hcut4, hC4⟩ := cut_from_b A1 r.length c1 4 4 rfl (by omega)
            have HC4 := Lib.hid (hC4 w2 r rfl hrc HC2.out)
            clear hC2 hC4 HSZ
            rw [List.drop_take, Nat.add_sub_cancel_left] at HCx
            rw [Nat.add_sub_cancel_left] at hcut2
            have hxl : ((r.drop 8).take n).length = n := by rw [List.length_take, List.length_drop]; omega
            have h4l : (r.drop 4).length = r.length - 4 := by rw [List.length_drop]
            obtain ⟨x, hx⟩ : ∃ x, (r.drop 8).take n = x := ⟨_, rfl⟩
            obtain ⟨y, hy⟩ : ∃ y, r.drop 4 = y := ⟨_, rfl⟩
            rw [hx] at HCx hxl HSZ2
            rw [hy] at HC4 h4l HSZ2
            have HX := Lib.hid hx
            have HY := Lib.hid hy
            have HXL := Lib.hid hxl
            have HCHK := Lib.hid (fun (W : World) (hW : BC W A2 x) => chk_any (c := c1 - 8) hW (by omega) (by omega))
            rw [hxl] at HCHK
            have HGET := Lib.hid (fun (W : World) (hW : BC W A4 y) => get_any (c := c1 - 4) hW (by omega) (by omega))
            rw [h4l] at HGET
            clear hx hy h4l hxl
            go_wp2
            refine start_ (n := 10) (S := fun w' => True) (ds := [7]) #[false, false, false, false, false, false, false, false, false, false] (by kernel_rfl) rfl rfl trivial (fun hHeld => ?_)
            have HBd := Lib.hid (Below.drew (Below.refl w2.heap.size w2))
            have HCxd := Lib.hid (HCx.out.below HBd.out)
            have HC4d := Lib.hid (HC4.out.below HBd.out)
            have HBWd := Lib.hid (below_then HBW2.out HBW2.out.size HBd.out)
            have HRd := Lib.hid (Kd.R_below HR2.out HBd.out)
            have HC2d := Lib.hid (HC2.out.below HBd.out)
            clear HCx HC4 HBW2 HR2 HC2 HBd
            generalize w2.drew = w3 at HCxd HC4d HBWd HRd HC2d ⊢
            refine pure_ (i := 0) (N := (some 31)) (v := ?_) (a' := ?_) #[true, false, false, false, false, false, false, false, false, false] rfl rfl (by kernel_rfl) (fun _ _ _ h => h) (Or.inl ⟨by rfl, ?_⟩) ?_ ?_
            rotate_left
            · intro w'
              go_simp
              with_reducible rfl
            rotate_left
            · simp only [Act.put, List.setIfInBounds_toArray, List.set_cons_zero, List.set_cons_succ]
              rfl
            refine pure_ (i := 1) (N := (some 32)) (v := ?_) (a' := ?_) #[true, true, false, false, false, false, false, false, false, false] rfl rfl (by kernel_rfl) (fun _ _ _ h => h) (Or.inl ⟨by rfl, ?_⟩) ?_ ?_
            rotate_left
            · intro w'
              go_simp
              with_reducible rfl
            rotate_left
            · simp only [Act.put, List.setIfInBounds_toArray, List.set_cons_zero, List.set_cons_succ]
              rfl
            refine pure_ (i := 2) (N := (some 33)) (v := ?_) (a' := ?_) #[true, true, true, false, false, false, false, false, false, false] rfl rfl (by kernel_rfl) (fun _ _ _ h => h) (Or.inl ⟨by rfl, ?_⟩) ?_ ?_
            rotate_left
            · intro w'
              go_simp
              with_reducible rfl
            rotate_left
            · simp only [Act.put, List.setIfInBounds_toArray, List.set_cons_zero, List.set_cons_succ]
              rfl
            refine pure_ (i := 3) (N := (some 34)) (v := ?_) (a' := ?_) #[true, true, true, true, false, false, false, false, false, false] rfl rfl (by kernel_rfl) (fun _ _ _ h => h) (Or.inl ⟨by rfl, ?_⟩) ?_ ?_
            rotate_left
            · intro w'
              go_simp
              with_reducible rfl
            rotate_left
            · simp only [Act.put, List.setIfInBounds_toArray, List.set_cons_zero, List.set_cons_succ]
              rfl
            refine pure_ (i := 5) (N := (some 36)) (v := ?_) (a' := ?_) #[true, true, true, true, false, true, false, false, false, false] rfl rfl (by kernel_rfl) (fun _ _ _ h => h) (Or.inl ⟨by rfl, ?_⟩) ?_ ?_
            rotate_left
            · intro w'
              go_simp
              with_reducible rfl
            rotate_left
            · simp only [Act.put, List.setIfInBounds_toArray, List.set_cons_zero, List.set_cons_succ]
              rfl
            refine pure_ (i := 6) (N := (some 37)) (v := ?_) (a' := ?_) #[true, true, true, true, false, true, true, false, false, false] rfl rfl (by kernel_rfl) (fun _ _ _ h => h) (Or.inl ⟨by rfl, ?_⟩) ?_ ?_
            rotate_left
            · intro w'
              go_simp
              with_reducible rfl
            rotate_left
            · simp only [Act.put, List.setIfInBounds_toArray, List.set_cons_zero, List.set_cons_succ]
              rfl
            refine one_ (i := 4) (N := (some 35)) #[true, true, true, true, true, true, true, false, false, false] rfl rfl (by kernel_rfl) (by decide) (fun K hK => ?_)
            go_simp
            refine (HCHK.out _ HCxd.out).mono ?_
            rintro e w4 ⟨rfl, hd4⟩
            have HB4 := Lib.hid hd4.below
            have HC44 := Lib.hid (HC4d.out.below HB4.out)
            have HBW4 := Lib.hid (below_then HBWd.out HBWd.out.size HB4.out)
            have HR4 := Lib.hid (Kd.R_below HRd.out HB4.out)
            have HCr4 := Lib.hid (HC2d.out.below HB4.out)
            clear hd4
            refine hK.out _ _ trivial (fun hHeld => ?_)
            clear hK K
            (try simp only [Act.put, List.setIfInBounds_toArray, List.set_cons_zero, List.set_cons_succ])
            refine last_ (i := 7) (N := (some 38)) #[true, true, true, true, true, true, true, true, false, false] rfl rfl (by kernel_rfl) (by decide) (fun K hK => ?_)
            go_simp
            refine (HGET.out _ HC44.out).mono ?_
            rintro e w5 ⟨rfl, hd5⟩
            have HB5 := Lib.hid hd5.below
            have HBW5 := Lib.hid (below_then HBW4.out HBW4.out.size HB5.out)
            have HR5 := Lib.hid (Kd.R_below HR4.out HB5.out)
            have HCr5 := Lib.hid (HCr4.out.below HB5.out)
            clear hd5
            refine hK.out _ _ ?_
            clear hK K
            (try simp only [Act.put, List.setIfInBounds_toArray, List.set_cons_zero, List.set_cons_succ])
            refine pure_ (i := 8) (N := (some 39)) (v := ?_) (a' := ?_) #[true, true, true, true, true, true, true, true, true, false] rfl rfl (by kernel_rfl) (fun _ _ _ h => h) (Or.inl ⟨by rfl, ?_⟩) ?_ ?_
            rotate_left
            · intro w'
              go_simp
              with_reducible rfl
            rotate_left
            · simp only [Act.put, List.setIfInBounds_toArray, List.set_cons_zero, List.set_cons_succ]
              rfl
            refine pure_ (i := 9) (N := (some 30)) (v := ?_) (a' := ?_) #[true, true, true, true, true, true, true, true, true, true] rfl rfl (by kernel_rfl) (fun _ _ _ h => h) (Or.inl ⟨by rfl, ?_⟩) ?_ ?_
            rotate_left
            · intro w'
              go_simp
              with_reducible rfl
            rotate_left
            · simp only [Act.put, List.setIfInBounds_toArray, List.set_cons_zero, List.set_cons_succ]
              rfl
            refine done_ (by kernel_rfl) ?_
            clear hcut4 hcut2 HCHK HGET HC44 HC4d HCxd HBWd HBW4 HRd HR4 HC2d HCr4
            by_cases h5 : chk x = num4 y
            · have HSC2 : Hid (scanAll b = ((rs ++ [x]) ++ (scan k1 (b.drop (at_ + (8 + n)))).1, (at_ + (8 + n)) + (scan k1 (b.drop (at_ + (8 + n)))).2)) := by
                have h := HSC.out
                rw [HSZ2.out, if_pos h5] at h
                rw [← List.drop_drop, HDR.out]
                show scanAll b = _
                rw [h]
                simp [Nat.add_assoc]
              have g5 : ((chk x : Int) != (num4 y : Int)) = false := by rw [h5]; simp
              have hmk := make_b n (by omega)
              obtain ⟨A8, hcut8, hC8⟩ := cut_from_b A1 r.length c1 8 8 rfl (by omega)
              have HC8 := Lib.hid (hC8 w5 r rfl hrc HCr5.out)
              have HXL2 := Lib.hid (show (u8s x).length = n by rw [u8s_length]; exact HXL.out)
              clear hC8 HSZ2 HSC h5 HCr5
              have HNE := Lib.hid (show ∀ k, k = w5.heap.size → (fun _ => True) k ∧ some k ≠ vo.ownBlock from fun k hk => ⟨trivial, fun e => by
                obtain ⟨inner, ho⟩ := Kd.R_own HR5.out
                have := own_lt ho k e.symm
                omega⟩)
              have HM7 := Lib.hid (show ∀ (w7 : World), Blk w7 w5.heap.size (splice (List.replicate n (Value.int .u8 0)) 0 (u8s x)) → kbs.M w7 w.heap.size (fun k => k = w5.heap.size) (ib x) [.slice (some ⟨w5.heap.size, 0, none⟩) n n] from fun w7 hk => by
                rw [splice_all _ _ (by rw [List.length_replicate, HXL2.out])] at hk
                have hbo := bo_of_blk hk HBW5.out.size (by rw [HXL.out]; omega)
                rw [HXL.out] at hbo
                exact ⟨_, rfl, hbo.R _ (fun k hk => by simpa [Value.ownBlock, eq_comm] using hk)⟩)
              go_wp2_with (first | (refine wpList_copy_splice rfl (.tmp 42) (.tmp 44) 22 22 rfl 5 Try.underlying22 (by kernel_rfl) (some ⟨w5.heap.size, 0, none⟩) A8 n n (r.length - 8) (c1 - 8) rfl rfl w5.heap.size 0 (List.replicate n (Value.int .u8 0)) 5 (by rw [← List.toArray_replicate]; exact blk_new w5 _) (u8s x) (by rw [HXL2.out]; exact (Nat.min_eq_right (by omega)).symm) (fun hp => ⟨rfl, by rw [← HX.out]; exact src_take (HC8.out.below ((Below.refl _ _).alloc (Nat.le_refl _) _)) (by rw [HX.out]; rw [u8s_length] at hp; exact hp)⟩) (by rw [HXL2.out]; simp) (u8s_one x) w5.heap.size w5 ((Below.refl _ _).alloc (Nat.le_refl _) _) (Nat.le_refl _) ?_; intro w7 hk7 hb7; have HK7 := Lib.hid (show Blk w7 w5.heap.size (splice (List.replicate n (Value.int .u8 0)) 0 (u8s x)) from hk7.out); have HB7 := Lib.hid hb7; clear hk7 hb7) | (at_builtin; go_loud (refine Kd.R_append kbs (w0 := w) w.heap.size rfl (.tmp 46) (.tmp 48) 26 22 _ 24 rfl Try.underlying26 info22 rfl (by decide) (by decide) vo (rs.map ib) (ib x) [.slice (some ⟨w5.heap.size, 0, none⟩) n n] (fun _ => True) (fun k => k = w5.heap.size) rfl (by simp [Act.eval]) (HM7.out _ HK7.out) HNE.out (fun _ _ => trivial) (Kd.R_below HR5.out HB7.out) (below_then HBW5.out HBW5.out.size HB7.out) (Nat.le_trans HBW5.out.size HB7.out.size) (by rw [List.length_map]; omega) ?_); intro v9 w9 hr9 hb9 hg9 hat9; have HR9 := Lib.hid hr9; have HB9 := Lib.hid hb9; clear hr9 hb9 hg9 hat9))
              have HDL := Lib.hid (show b.length - (at_ + (8 + n)) < k1 ∧ at_ + (8 + n) ≤ b.length from by have := HRL.out; omega)
              go_roundg k1
              case measure => omega
              case rel => exact ⟨at_ + (8 + n), rs ++ [x], _, rfl, HDL.out.2, HDL.out.1, by go_num, HSC2.out, by simp; omega, by rw [List.map_append]; exact HR9.out, HB9.out⟩
            · have HPOST := Lib.hid (sc_end HSC.out (HSZ2.out.trans (if_neg h5)) HR5.out HBW5.out)
              have g5 : ((chk x : Int) != (num4 y : Int)) = true := by rw [bne_iff_ne]; omega
              clear HSZ2 HSC HR5 HBW5
              go_wp2
              rw [Exit.noGoto_ret]
              go_ret2
              exact HPOST.out
end Go.Proofs.Ytiacjbandhedhaa.Jn

/- The device: what its operations do, without program; a device in memory; operate, Sync, Down, Fail. -/
namespace Go.Proofs.Ytiacjbandhedhaa.Jn
open Go.RowKit Go.Proofs.YtiacjbandhedhaaW.PrintWords Go.Proofs.YtiacjbandhedhaaW.PrintLast Go.Proofs.YtiacjbandhedhaaW.PrintMore
set_option linter.unusedSimpArgs false
set_option linter.unusedVariables false

/-- A device: capacity, contents, how many bytes are safe, whether it is off, what it is armed with. -/
structure Dv where
  size : Nat
  data : List UInt8
  safe : Nat
  off : Bool
  armed : Int
def Dv.ok (d : Dv) : Prop := d.size ≤ 1048576 ∧ d.data.length ≤ d.size ∧ d.safe ≤ d.data.length ∧ 0 ≤ d.armed ∧ d.armed ≤ 9223372036854775807
/-- An operation is counted; false: the device went off instead. -/
def Dv.op (d : Dv) : Bool × Dv := if 0 < d.armed then (if d.armed - 1 = 0 then (false, { d with off := true, armed := 0 }) else (true, { d with armed := d.armed - 1 })) else (true, d)
def Dv.write (d : Dv) (b : List UInt8) : Int × Dv :=
  if d.off = true then (13, d) else if d.size - d.data.length < b.length then (12, d) else if d.op.1 = true then (0, { d.op.2 with data := d.data ++ b }) else (13, d.op.2)
def Dv.sync (d : Dv) : Int × Dv := if d.off = true then (13, d) else if d.op.1 = true then (0, { d.op.2 with safe := d.data.length }) else (13, d.op.2)
def Dv.trunc (d : Dv) (n : Int) : Int × Dv :=
  if d.off = true then (13, d) else if n < 0 ∨ (d.data.length : Int) < n then (1, d) else if d.op.1 = true then (0, { d.op.2 with data := d.data.take n.toNat, safe := n.toNat }) else (13, d.op.2)
/-- How many bytes remain after a crash. -/
def Dv.left (d : Dv) (keep : Int) : Nat := d.safe + min keep.toNat (d.data.length - d.safe)
def Dv.crash (d : Dv) (keep : Int) : Dv := { d with data := d.data.take (d.left keep), safe := d.left keep, off := false, armed := 0 }
def Dv.fail (d : Dv) (n : Int) : Dv := { d with armed := if n < 0 then 0 else n }
def dv0 (size : Int) : Dv := ⟨min size.toNat 1048576, [], 0, false, 0⟩
theorem Dv.op_ok {d : Dv} (h : d.ok) : d.op.2.ok := by
  unfold Dv.ok at *
  unfold Dv.op
  split
  · split <;> exact ⟨h.1, h.2.1, h.2.2.1, by simp; try omega, by simp; try omega⟩
  · exact h
theorem Dv.op_same (d : Dv) : d.op.2.size = d.size ∧ d.op.2.data = d.data ∧ d.op.2.safe = d.safe := by
  unfold Dv.op
  split
  · split <;> exact ⟨rfl, rfl, rfl⟩
  · exact ⟨rfl, rfl, rfl⟩
theorem Dv.left_le {d : Dv} (h : d.ok) (keep : Int) : d.left keep ≤ d.data.length := by
  unfold Dv.ok at h; unfold Dv.left; omega
theorem Dv.write_ok {d : Dv} (h : d.ok) (b : List UInt8) : (d.write b).2.ok := by
  have ho := Dv.op_ok h
  have hs := d.op_same
  unfold Dv.write
  split
  · exact h
  · split
    · exact h
    · rename_i hl
      split
      · unfold Dv.ok at *
        simp only [List.length_append]
        rw [hs.1, hs.2.2]
        omega
      · exact ho
theorem Dv.sync_ok {d : Dv} (h : d.ok) : d.sync.2.ok := by
  have ho := Dv.op_ok h
  have hs := d.op_same
  unfold Dv.sync
  split
  · exact h
  · split
    · unfold Dv.ok at *
      rw [hs.2.1] at ho
      simp only
      rw [hs.2.1]
      omega
    · exact ho
theorem Dv.trunc_ok {d : Dv} (h : d.ok) (n : Int) : (d.trunc n).2.ok := by
  have ho := Dv.op_ok h
  have hs := d.op_same
  unfold Dv.trunc
  split
  · exact h
  · split
    · exact h
    · rename_i hn
      split
      · unfold Dv.ok at *
        simp only [List.length_take]
        omega
      · exact ho
theorem Dv.crash_ok {d : Dv} (h : d.ok) (keep : Int) : (d.crash keep).ok := by
  have hl := Dv.left_le h keep
  unfold Dv.ok at *
  unfold Dv.crash
  simp only [List.length_take]
  omega
theorem Dv.fail_ok {d : Dv} (h : d.ok) {n : Int} (hn : n ≤ 9223372036854775807) : (d.fail n).ok := by
  unfold Dv.ok at *
  unfold Dv.fail
  simp only
  split <;> omega
theorem dv0_ok (size : Int) : (dv0 size).ok := by unfold Dv.ok dv0; simp; omega

/-- The world w' is w, but for blocks in S and new ones. -/
structure Chg (w w' : World) (S : Nat → Prop) : Prop where
  os : w'.os = w.os
  tape : w'.tape = w.tape
  output : w'.output = w.output
  size : w.heap.size ≤ w'.heap.size
  block : ∀ i, i < w.heap.size → ¬ S i → w'.heap[i]? = w.heap[i]?
theorem Chg.refl (w : World) (S : Nat → Prop) : Chg w w S := ⟨rfl, rfl, rfl, Nat.le_refl _, fun _ _ _ => rfl⟩
theorem Chg.of_below {w w' : World} (h : Below w.heap.size w w') (S : Nat → Prop) : Chg w w' S := ⟨h.os, h.tape, h.output, h.size, fun i hi _ => h.block i hi⟩
theorem Chg.of_grown {w w' : World} {r : Option Nat} (h : w.grownBy w' r) {S : Nat → Prop} (hr : ∀ k, r = some k → S k) : Chg w w' S :=
  ⟨h.os, h.tape, h.output, h.size, fun i hi hS => h.block i hi (fun e => hS (hr i e.symm))⟩
theorem Chg.trans {w w1 w2 : World} {S S2 : Nat → Prop} (h : Chg w w1 S) (k : Chg w1 w2 S2) (hS : ∀ i, i < w.heap.size → S2 i → S i) : Chg w w2 S :=
  ⟨k.os.trans h.os, k.tape.trans h.tape, k.output.trans h.output, Nat.le_trans h.size k.size, fun i hi hn => (k.block i (Nat.lt_of_lt_of_le hi h.size) (fun e => hn (hS i hi e))).trans (h.block i hi hn)⟩
theorem Chg.mono {w w' : World} {S S' : Nat → Prop} (h : Chg w w' S) (hS : ∀ i, i < w.heap.size → S i → S' i) : Chg w w' S' := ⟨h.os, h.tape, h.output, h.size, fun i hi hn => h.block i hi (fun e => hn (hS i hi e))⟩
theorem Chg.set (w : World) (p : Addr) (u : Value) {S : Nat → Prop} (hS : S p.block) : Chg w (w.setCell p u) S :=
  ⟨rfl, rfl, rfl, by simp, fun i _ hn => Below.heap_setCell w p u i (fun e => hn (e ▸ hS))⟩
theorem Chg.drew (w : World) (S : Nat → Prop) : Chg w w.drew S := Chg.of_below (Below.drew (Below.refl _ _)) S
theorem Chg.below {w0 w w' : World} {B : Nat} {S : Nat → Prop} (h : Chg w w' S) (hb : Below B w0 w) (hB : B ≤ w.heap.size) (hS : ∀ i, i < w.heap.size → S i → B ≤ i) : Below B w0 w' :=
  hb.trans ⟨h.os, h.tape, h.output, h.size, fun i hi => h.block i (Nat.lt_of_lt_of_le hi hB) (fun e => by have := hS i (Nat.lt_of_lt_of_le hi hB) e; omega)⟩
theorem BO.chg {w w' : World} {base : Nat} {v : Value} {b : List UInt8} {S : Nat → Prop} (h : BO w base v b) (hc : Chg w w' S) (hn : ∀ k, v.ownBlock = some k → ¬ S k) : BO w' base v b :=
  own_move h (fun k hk => hc.block k (own_lt h k hk) (hn k hk))

/-- A device of type T in block g, its contents in row v. -/
structure DAt (T : Nat) (w : World) (base g : Nat) (v : Value) (d : Dv) : Prop where
  blk : w.heap[g]? = some (.cells #[.int .i64 d.size, v, .int .i64 d.safe, .bool d.off, .int .i64 d.armed] T (0, 0))
  row : BO w base v d.data
  hb : base ≤ g
  ok : d.ok
/-- The blocks of a device. -/
def Ft (g : Nat) (v : Value) (i : Nat) : Prop := i = g ∨ v.ownBlock = some i
section
variable {T : Nat} {w w' : World} {base g : Nat} {v : Value} {d : Dv}
theorem DAt.lt (h : DAt T w base g v d) : g < w.heap.size := blk_lt h.blk
theorem DAt.cells (h : DAt T w base g v d) : w.cell? ⟨g, 0, none⟩ = some (.int .i64 d.size) ∧ w.cell? ⟨g, 1, none⟩ = some v ∧ w.cell? ⟨g, 2, none⟩ = some (.int .i64 d.safe) ∧ w.cell? ⟨g, 3, none⟩ = some (.bool d.off) ∧ w.cell? ⟨g, 4, none⟩ = some (.int .i64 d.armed) :=
  ⟨blk_cell h.blk 0, blk_cell h.blk 1, blk_cell h.blk 2, blk_cell h.blk 3, blk_cell h.blk 4⟩
theorem DAt.frozen (h : DAt T w base g v d) (i : Nat) : w.frozen? ⟨g, i, none⟩ = false := blk_frozen h.blk i
theorem DAt.chg {S : Nat → Prop} (h : DAt T w base g v d) (hc : Chg w w' S) (hg : ¬ S g) (hn : ∀ k, v.ownBlock = some k → ¬ S k) : DAt T w' base g v d :=
  ⟨(hc.block g h.lt hg).trans h.blk, h.row.chg hc hn, h.hb, h.ok⟩
theorem DAt.below (h : DAt T w base g v d) (hb : Below w.heap.size w w') : DAt T w' base g v d := h.chg (Chg.of_below hb (fun _ => False)) (fun h => h) (fun _ _ h => h)
theorem DAt.ne (h : DAt T w base g v d) (hT : 5 ≠ T) : v.ownBlock ≠ some g := (own_ne h.row h.blk hT).symm
theorem DAt.ft (h : DAt T w base g v d) : ∀ i, Ft g v i → base ≤ i := by
  rintro i (rfl | hi)
  · exact h.hb
  · exact own_base h.row i hi
theorem DAt.ftlt (h : DAt T w base g v d) : ∀ i, Ft g v i → i < w.heap.size := by
  rintro i (rfl | hi)
  · exact h.lt
  · exact own_lt h.row i hi
end
/-- What an operation leaves: the device d', its row where it was or new; nothing else has changed. -/
def DPost (T : Nat) (base g : Nat) (v : Value) (w : World) (d' : Dv) (w' : World) : Prop :=
  ∃ v', DAt T w' base g v' d' ∧ Chg w w' (Ft g v) ∧ (v'.ownBlock = v.ownBlock ∨ ∃ b, v'.ownBlock = some b ∧ w.heap.size ≤ b)

theorem DPost.trans {T : Nat} {base g : Nat} {v v1 : Value} {w w1 w2 : World} {d1 d2 : Dv} (h1 : DAt T w1 base g v1 d1) (c1 : Chg w w1 (Ft g v)) (b1 : v1.ownBlock = v.ownBlock ∨ ∃ b, v1.ownBlock = some b ∧ w.heap.size ≤ b) (h2 : DPost T base g v1 w1 d2 w2) : DPost T base g v w d2 w2 := by
  obtain ⟨v2, a2, c2, b2⟩ := h2
  refine ⟨v2, a2, c1.trans c2 ?_, ?_⟩
  · rintro i hi (rfl | e)
    · exact .inl rfl
    · rcases b1 with b1 | ⟨b, b1, hb⟩
      · exact .inr (b1 ▸ e)
      · rw [b1] at e; injection e with e; omega
  · rcases b2 with b2 | ⟨b, b2, hb⟩
    · rw [b2]; exact b1
    · exact .inr ⟨b, b2, Nat.le_trans c1.size hb⟩
/-- An operation's error and what it leaves. -/
def DRes (T : Nat) (base g : Nat) (v : Value) (w : World) (r : Int) (d' : Dv) (e : Ending) (w' : World) : Prop := e = .returned (.int .i64 r) ∧ DPost T base g v w d' w'
theorem DPost.same {T : Nat} {w w' : World} {base g : Nat} {v : Value} {d d' : Dv} (h : DAt T w base g v d) (hT : 5 ≠ T) (hc : Chg w w' (fun i => i = g)) (hb : w'.heap[g]? = some (.cells #[.int .i64 d'.size, v, .int .i64 d'.safe, .bool d'.off, .int .i64 d'.armed] T (0, 0))) (hd : d'.data = d.data) (ho : d'.ok) : DPost T base g v w d' w' :=
  ⟨v, ⟨hb, by rw [hd]; exact h.row.chg hc (fun k hk e => h.ne hT (by rw [hk, e])), h.hb, ho⟩, hc.mono (fun i _ e => .inl e), .inl rfl⟩
theorem DPost.refl {T : Nat} {w : World} {base g : Nat} {v : Value} {d : Dv} (h : DAt T w base g v d) : DPost T base g v w d w := ⟨v, h, Chg.refl _ _, .inl rfl⟩
theorem chg_set (w : World) (g j : Nat) (u : Value) : Chg w (w.setCell ⟨g, j, none⟩ u) (fun i => i = g) := Chg.set w ⟨g, j, none⟩ u rfl

/-- operate's answer: the row stays, nothing but the device's block has changed. -/
def OpRes (T : Nat) (base g : Nat) (v : Value) (w : World) (r : Value) (d' : Dv) (e : Ending) (w' : World) : Prop := e = .returned r ∧ DAt T w' base g v d' ∧ Chg w w' (fun i => i = g)
theorem OpRes.mk_ {T : Nat} {w w' : World} {base g : Nat} {v r : Value} {d d' : Dv} (h : DAt T w base g v d) (hT : 5 ≠ T) (hc : Chg w w' (fun i => i = g)) (hb : w'.heap[g]? = some (.cells #[.int .i64 d'.size, v, .int .i64 d'.safe, .bool d'.off, .int .i64 d'.armed] T (0, 0))) (hd : d'.data = d.data) (ho : d'.ok) : OpRes T base g v w r d' (.returned r) w' :=
  ⟨rfl, ⟨hb, by rw [hd]; exact h.row.chg hc (fun k hk e => h.ne hT (by rw [hk, e])), h.hb, ho⟩, hc⟩
set_option maxRecDepth 100000 in
set_option maxHeartbeats 1000000 in
theorem op_any {w : World} {base g : Nat} {v : Value} {d : Dv} (h : DAt 65 w base g v d) :
    Calls Try.prog 44 #[.pointer (some ⟨g, 0, none⟩)] w (OpRes 65 base g v w (.int .i64 (if d.op.1 = true then 0 else 13)) d.op.2) := by
  have H := Lib.hid h
  obtain ⟨a0, a1, a2, a3, a4⟩ := h.cells
  have f3 := h.frozen 3
  have f4 := h.frozen 4
  have hok := h.ok
  have HOK := Lib.hid (Dv.op_ok h.ok)
  unfold Dv.ok at hok
  clear h
  have HO := Lib.hid (show d.op = if 0 < d.armed then (if d.armed - 1 = 0 then (false, { d with off := true, armed := 0 }) else (true, { d with armed := d.armed - 1 })) else (true, d) from rfl)
  by_cases c0 : 0 < d.armed
  · by_cases c1 : d.armed - 1 = 0
    · have HO2 := Lib.hid (HO.out.trans ((if_pos c0).trans (if_pos c1)))
      rw [HO2.out] at HOK ⊢
      clear HO HO2
      go_enter Try.func44, Try.ntmps44
      go_wp2
      go_ret
      exact OpRes.mk_ H.out (by decide) ((chg_set w g 4 _).trans (chg_set _ g 3 _) (fun _ _ e => e)) (by simpa using blk_set (blk_set H.out.blk 4 (.int .i64 0)) 3 (.bool true)) rfl HOK.out
    · have HO2 := Lib.hid (HO.out.trans ((if_pos c0).trans (if_neg c1)))
      have c2 : ((d.armed - 1) == 0) = false := by simpa using c1
      rw [HO2.out] at HOK ⊢
      clear HO HO2
      go_enter Try.func44, Try.ntmps44
      go_wp2
      go_ret
      exact OpRes.mk_ H.out (by decide) (chg_set w g 4 _) (by simpa using blk_set H.out.blk 4 (.int .i64 (d.armed - 1))) rfl HOK.out
  · have HO2 := Lib.hid (HO.out.trans (if_neg c0))
    rw [HO2.out] at HOK ⊢
    clear HO HO2
    go_enter Try.func44, Try.ntmps44
    go_wp2
    go_ret
    exact ⟨rfl, H.out, Chg.refl _ _⟩
end Go.Proofs.Ytiacjbandhedhaa.Jn
