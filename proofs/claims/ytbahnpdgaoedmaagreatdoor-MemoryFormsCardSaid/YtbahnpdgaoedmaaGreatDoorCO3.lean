/- Part 3 of the proof of MemoryForms: PMemoryExactx0, Ma, Mb, PMemoryExactx14, PMemoryExactx15, Mc, Md, Me. -/
import Derived.Test.YtbahnpdgaoedmaaGreatDoorCO2
import Derived.Test.YtbahnpdgaoedmaaGreatDoorProg
import Derived.Below
import Derived.Deep.Draws
import Derived.Deep.AppendLies
import Derived.Maps.AppendAt
import Derived.OwnWalk
import Derived.Laws.BytesArg
import Derived.Laws.MakeOwn
import Derived.Laws.OwnMore
import Derived.Deep.OwnRows
import Derived.Tactics
import Derived.Lib.ConvBytes
import Derived.Laws.Slices
import Derived.WalkKit
import Derived.KernelRfl
import Derived.RowKit3
import Derived.Deep.LoopGhost
import Derived.Deep.QuietTactic
import Derived.BigQuiet
import Derived.WideLaws
import Derived.Deep.DeepCutAuto
import Derived.Deep.CutBlock
import Derived.Deep.RegionHeld3
import Derived.Laws.Rows
import Derived.Lib.AppendStr
import Derived.ArgAppend
import Derived.Laws.IdiomCopy
import Derived.OrdersHeld
import Derived.Laws.BitsLemmas
import Derived.RowKit
import Derived.Test.YtbahnpdgaoedmaaGreatDoorCO1
import Derived.Outline
import Derived.Laws.Cover1
import Derived.Lib.Hide
import Derived.StillTailTactics
namespace Go.Proofs.YtbahnpdgaoedmaaGreatDoor.PMemoryExact
open Go.RowKit Go.Proofs.YtbahnpdgaoedmaaGreatDoorW.PrintWords Go.Proofs.YtbahnpdgaoedmaaGreatDoorW.PrintLast Go.Proofs.YtbahnpdgaoedmaaGreatDoorW.PrintMore
attribute [local go_sem] max2_int min2_int max_two min_two max_three min_three max_four min_four   -- for this text's walks alone
set_option linter.unusedVariables false
set_option linter.unusedSimpArgs false
def errW : Option Int → Value
 | none => .nilIface
 | some c => .iface 0 (.int .i64 c)
theorem errW_none : errW none = .nilIface := rfl
theorem errW_some (c : Int) : errW (some c) = .iface 0 (.int .i64 c) := rfl
theorem info3 : (Tryz.prog.info? 3).map (fun i => (i.zero, i.size, i.bytes)) = some (some (.int .i64 0), 1, 8) := by kernel_rfl
theorem info32 : (Tryz.prog.info? 32).map (fun i => (i.zero, i.size, i.bytes)) = some (some (.agg #[(.int .i64 0), (.string ⟨#[]⟩), (.slice none 0 0), (.int .i64 0), (.int .i64 0), (.slice none 0 0)]), 6, 88) := by kernel_rfl
theorem info84 : (Tryz.prog.info? 84).map (fun i => (i.zero, i.size, i.bytes)) = some (some (.agg #[(.int .i64 0), (.int .i64 0), (.string ⟨#[]⟩)]), 3, 32) := by kernel_rfl
-- the values' own types
/-! #### struct type 84 -/
structure S84 where
 f0 : Int
 f1 : Int
 f2 : ByteArray
def z84 : S84 := ⟨(0 : Int), (0 : Int), (⟨#[]⟩ : ByteArray)⟩
def k84 : Kd S84 := Kd.iso (Kd.pair (Kd.int .i64) (Kd.pair (Kd.int .i64) Kd.string)) (fun x : S84 => (x.f0, x.f1, x.f2))
theorem k84_open {w : World} {x : S84} {cs : List Value} (h : k84.K w x cs) : cs = [.int .i64 x.f0, .int .i64 x.f1, .string x.f2] := by
 obtain ⟨_, _, rfl, rfl, ⟨_, _, rfl, rfl, rfl⟩⟩ := h
 exact rfl
theorem k84_mkM (w : World) (base : Nat) (ok : Nat → Prop) (x : S84)  : k84.M w base ok x [.int .i64 x.f0, .int .i64 x.f1, .string x.f2] := ⟨[.int .i64 x.f0], [.int .i64 x.f1, .string x.f2], rfl, rfl, ⟨[.int .i64 x.f1], [.string x.f2], rfl, rfl, rfl⟩⟩
def rd_T84 (xs : List S84) (i : Int) : S84 := xs.getD i.toNat z84
theorem at_T84 {w : World} {A : Option Addr} {n : Nat} {xs : List S84} (h : Kd.C k84 w A n xs) (i : Int) (h0 : 0 ≤ i) (h1 : i < n) : ∃ ad , A = some ad ∧ w.cell? (ad.add (i.toNat * 3)) = some (.int .i64 (rd_T84 xs i).f0) ∧ w.cell? ⟨(ad.add (i.toNat * 3)).block, (ad.add (i.toNat * 3)).off + 1, none⟩ = some (.int .i64 (rd_T84 xs i).f1) ∧ w.cell? ⟨(ad.add (i.toNat * 3)).block, (ad.add (i.toNat * 3)).off + 2, none⟩ = some (.string (rd_T84 xs i).f2) := by
 obtain ⟨ad, c, e, _, hK, hc0⟩ := Kd.C_get h z84 i h0 h1
 have hc : ∀ j u, c[j]? = some u → w.cell? (ad.add (i.toNat * 3 + j)) = some u := hc0
 obtain rfl := k84_open hK
 exact ⟨ad, e, hc 0 _ rfl, by rw [← add_field _ _ 1 (by omega)]; exact hc 1 _ rfl, by rw [← add_field _ _ 2 (by omega)]; exact hc 2 _ rfl⟩
/-! #### struct type 32, nested in itself -/
structure S32 where
 f0 : Int
 f1 : ByteArray
 f2 : (List S84)
 f3 : Int
 f4 : Int
 f5 : (List S32)
def z32 : S32 := ⟨(0 : Int), (⟨#[]⟩ : ByteArray), ([] : List S84), (0 : Int), (0 : Int), ([] : List S32)⟩
def F32 (d : Kd S32) : Kd S32 := Kd.iso (Kd.pair (Kd.int .i64) (Kd.pair Kd.string (Kd.pair (Kd.slice 84 k84) (Kd.pair (Kd.int .i64) (Kd.pair (Kd.int .i64) (Kd.slice 32 d)))))) (fun x : S32 => (x.f0, x.f1, x.f2, x.f3, x.f4, x.f5))
theorem mono32 : Kd.Mono F32 := Kd.mono_iso _ (Kd.mono_pair (Kd.mono_const _) (Kd.mono_pair (Kd.mono_const _) (Kd.mono_pair (Kd.mono_const _) (Kd.mono_pair (Kd.mono_const _) (Kd.mono_pair (Kd.mono_const _) (Kd.mono_slice 32 Kd.mono_id))))))
theorem sub32 : Kd.Sub F32 [32, 84] := Kd.sub_iso _ (Kd.sub_pair (Kd.sub_const _ (by decide)) (Kd.sub_pair (Kd.sub_const _ (by decide)) (Kd.sub_pair (Kd.sub_const _ (by decide)) (Kd.sub_pair (Kd.sub_const _ (by decide)) (Kd.sub_pair (Kd.sub_const _ (by decide)) (Kd.sub_slice 32 (by decide) Kd.sub_id))))))
theorem sz32 : ∀ n, (Kd.upto F32 6 [32, 84] n).sz = 6 := Kd.upto_sz (fun _ => rfl)
def k32 : Kd S32 := Kd.fix F32 6 [32, 84] sz32 (Kd.upto_E sub32)
theorem k32_open {w : World} {x : S32} {cs : List Value} (h : k32.K w x cs) : ∃ A2 c2 A5 c5, cs = [.int .i64 x.f0, .string x.f1, .slice A2 x.f2.length c2, .int .i64 x.f3, .int .i64 x.f4, .slice A5 x.f5.length c5] ∧ x.f2.length ≤ c2 ∧ k84.C w A2 x.f2.length x.f2 ∧ x.f5.length ≤ c5 ∧ k32.C w A5 x.f5.length x.f5 := by
 obtain ⟨n, h⟩ := h
 cases n with
 | zero => exact h.elim
 | succ n =>
  obtain ⟨_, _, rfl, rfl, ⟨_, _, rfl, rfl, ⟨_, _, rfl, ⟨A2, c2, rfl, l2, g2⟩, ⟨_, _, rfl, rfl, ⟨_, _, rfl, rfl, ⟨A5, c5, rfl, l5, g5⟩⟩⟩⟩⟩⟩ := h
  exact ⟨A2, c2, A5, c5, rfl, l2, g2, l5, Kd.fix_C g5⟩
theorem k32_mk (w : World) (x : S32) {A2 : Option Addr} {c2 : Nat} (l2 : x.f2.length ≤ c2) (g2 : k84.C w A2 x.f2.length x.f2) {A5 : Option Addr} {c5 : Nat} (l5 : x.f5.length ≤ c5) (g5 : k32.C w A5 x.f5.length x.f5) : k32.K w x [.int .i64 x.f0, .string x.f1, .slice A2 x.f2.length c2, .int .i64 x.f3, .int .i64 x.f4, .slice A5 x.f5.length c5] := by
 obtain ⟨n5, q5⟩ := Kd.fix_C_back mono32 g5
 have r5 := Kd.upto_C_le mono32 sz32 (show n5 ≤ n5 by omega) q5
 exact ⟨n5 + 1, ⟨[.int .i64 x.f0], [.string x.f1, .slice A2 x.f2.length c2, .int .i64 x.f3, .int .i64 x.f4, .slice A5 x.f5.length c5], rfl, rfl, ⟨[.string x.f1], [.slice A2 x.f2.length c2, .int .i64 x.f3, .int .i64 x.f4, .slice A5 x.f5.length c5], rfl, rfl, ⟨[.slice A2 x.f2.length c2], [.int .i64 x.f3, .int .i64 x.f4, .slice A5 x.f5.length c5], rfl, ⟨A2, c2, rfl, l2, g2⟩, ⟨[.int .i64 x.f3], [.int .i64 x.f4, .slice A5 x.f5.length c5], rfl, rfl, ⟨[.int .i64 x.f4], [.slice A5 x.f5.length c5], rfl, rfl, ⟨A5, c5, rfl, l5, r5⟩⟩⟩⟩⟩⟩⟩
theorem k32_openF {W : World} {ok : Nat → Prop} {x : S32} {cs : List Value} (h : Kd.FK k32 W ok x cs) : ∃ A2 c2 A5 c5, cs = [.int .i64 x.f0, .string x.f1, .slice A2 x.f2.length c2, .int .i64 x.f3, .int .i64 x.f4, .slice A5 x.f5.length c5] ∧ x.f2.length ≤ c2 ∧ Kd.F k84 W ok A2 x.f2.length x.f2 ∧ x.f5.length ≤ c5 ∧ Kd.F k32 W ok A5 x.f5.length x.f5 := by
 obtain ⟨A2, c2, A5, c5, rfl, l2, _, l5, _⟩ := k32_open (Kd.FK_now h)
 exact ⟨A2, c2, A5, c5, rfl, l2, (fun W' hW => by obtain ⟨A2_, c2_, A5_, c5_, he, l2_, g2_, l5_, g5_⟩ := k32_open (h W' hW); injection (Option.some.inj (show some (Value.slice A2 x.f2.length c2) = some (Value.slice A2_ x.f2.length c2_) from congrArg (fun l => l[2]?) he)) with ha_ _ _; rw [ha_]; exact g2_), l5, (fun W' hW => by obtain ⟨A2_, c2_, A5_, c5_, he, l2_, g2_, l5_, g5_⟩ := k32_open (h W' hW); injection (Option.some.inj (show some (Value.slice A5 x.f5.length c5) = some (Value.slice A5_ x.f5.length c5_) from congrArg (fun l => l[5]?) he)) with ha_ _ _; rw [ha_]; exact g5_)⟩
theorem k32_mkF (W : World) (ok : Nat → Prop) (x : S32) {A2 : Option Addr} {c2 : Nat} (l2 : x.f2.length ≤ c2) (g2 : Kd.F k84 W ok A2 x.f2.length x.f2) {A5 : Option Addr} {c5 : Nat} (l5 : x.f5.length ≤ c5) (g5 : Kd.F k32 W ok A5 x.f5.length x.f5) : Kd.FK k32 W ok x [.int .i64 x.f0, .string x.f1, .slice A2 x.f2.length c2, .int .i64 x.f3, .int .i64 x.f4, .slice A5 x.f5.length c5] := fun W2 hW => k32_mk W2 x l2 (g2 W2 hW) l5 (g5 W2 hW)
def rd_T32 (xs : List S32) (i : Int) : S32 := xs.getD i.toNat z32
theorem at_T32 {w : World} {A : Option Addr} {n : Nat} {xs : List S32} (h : Kd.C k32 w A n xs) (i : Int) (h0 : 0 ≤ i) (h1 : i < n) : ∃ ad A2 c2 A5 c5, A = some ad ∧ w.cell? (ad.add (i.toNat * 6)) = some (.int .i64 (rd_T32 xs i).f0) ∧ w.cell? ⟨(ad.add (i.toNat * 6)).block, (ad.add (i.toNat * 6)).off + 1, none⟩ = some (.string (rd_T32 xs i).f1) ∧ w.cell? ⟨(ad.add (i.toNat * 6)).block, (ad.add (i.toNat * 6)).off + 2, none⟩ = some (.slice A2 (rd_T32 xs i).f2.length c2) ∧ w.cell? ⟨(ad.add (i.toNat * 6)).block, (ad.add (i.toNat * 6)).off + 3, none⟩ = some (.int .i64 (rd_T32 xs i).f3) ∧ w.cell? ⟨(ad.add (i.toNat * 6)).block, (ad.add (i.toNat * 6)).off + 4, none⟩ = some (.int .i64 (rd_T32 xs i).f4) ∧ w.cell? ⟨(ad.add (i.toNat * 6)).block, (ad.add (i.toNat * 6)).off + 5, none⟩ = some (.slice A5 (rd_T32 xs i).f5.length c5) ∧ (rd_T32 xs i).f2.length ≤ c2 ∧ k84.C w A2 (rd_T32 xs i).f2.length (rd_T32 xs i).f2 ∧ (rd_T32 xs i).f5.length ≤ c5 ∧ k32.C w A5 (rd_T32 xs i).f5.length (rd_T32 xs i).f5 := by
 obtain ⟨ad, c, e, _, hK, hc0⟩ := Kd.C_get h z32 i h0 h1
 have hc : ∀ j u, c[j]? = some u → w.cell? (ad.add (i.toNat * 6 + j)) = some u := hc0
 obtain ⟨A2, c2, A5, c5, rfl, l2, g2, l5, g5⟩ := k32_open hK
 exact ⟨ad, A2, c2, A5, c5, e, hc 0 _ rfl, by rw [← add_field _ _ 1 (by omega)]; exact hc 1 _ rfl, by rw [← add_field _ _ 2 (by omega)]; exact hc 2 _ rfl, by rw [← add_field _ _ 3 (by omega)]; exact hc 3 _ rfl, by rw [← add_field _ _ 4 (by omega)]; exact hc 4 _ rfl, by rw [← add_field _ _ 5 (by omega)]; exact hc 5 _ rfl, l2, g2, l5, g5⟩
/-! #### struct type 34 -/
structure S34 where
 f0 : Int
 f1 : ByteArray
 f2 : S32
 f3 : ByteArray
def z34 : S34 := ⟨(0 : Int), (⟨#[]⟩ : ByteArray), z32, (⟨#[]⟩ : ByteArray)⟩
def k34 : Kd S34 := Kd.iso (Kd.pair (Kd.int .i64) (Kd.pair Kd.string (Kd.pair k32 Kd.string))) (fun x : S34 => (x.f0, x.f1, x.f2, x.f3))
theorem k34_open {w : World} {x : S34} {cs : List Value} (h : k34.K w x cs) : ∃ A4 c4 A7 c7, cs = [.int .i64 x.f0, .string x.f1, .int .i64 x.f2.f0, .string x.f2.f1, .slice A4 x.f2.f2.length c4, .int .i64 x.f2.f3, .int .i64 x.f2.f4, .slice A7 x.f2.f5.length c7, .string x.f3] ∧ x.f2.f2.length ≤ c4 ∧ k84.C w A4 x.f2.f2.length x.f2.f2 ∧ x.f2.f5.length ≤ c7 ∧ k32.C w A7 x.f2.f5.length x.f2.f5 := by
 obtain ⟨_, _, rfl, rfl, ⟨_, _, rfl, rfl, ⟨_, _, rfl, s2, rfl⟩⟩⟩ := h
 obtain ⟨A4, c4, A7, c7, rfl, l4, g4, l7, g7⟩ := k32_open s2
 exact ⟨A4, c4, A7, c7, rfl, l4, g4, l7, g7⟩
def rd_T34 (xs : List S34) (i : Int) : S34 := xs.getD i.toNat z34
theorem at_T34 {w : World} {A : Option Addr} {n : Nat} {xs : List S34} (h : Kd.C k34 w A n xs) (i : Int) (h0 : 0 ≤ i) (h1 : i < n) : ∃ ad A4 c4 A7 c7, A = some ad ∧ w.cell? (ad.add (i.toNat * 9)) = some (.int .i64 (rd_T34 xs i).f0) ∧ w.cell? ⟨(ad.add (i.toNat * 9)).block, (ad.add (i.toNat * 9)).off + 1, none⟩ = some (.string (rd_T34 xs i).f1) ∧ w.cell? ⟨(ad.add (i.toNat * 9)).block, (ad.add (i.toNat * 9)).off + 2, none⟩ = some (.int .i64 (rd_T34 xs i).f2.f0) ∧ w.cell? ⟨(ad.add (i.toNat * 9)).block, (ad.add (i.toNat * 9)).off + 3, none⟩ = some (.string (rd_T34 xs i).f2.f1) ∧ w.cell? ⟨(ad.add (i.toNat * 9)).block, (ad.add (i.toNat * 9)).off + 4, none⟩ = some (.slice A4 (rd_T34 xs i).f2.f2.length c4) ∧ w.cell? ⟨(ad.add (i.toNat * 9)).block, (ad.add (i.toNat * 9)).off + 5, none⟩ = some (.int .i64 (rd_T34 xs i).f2.f3) ∧ w.cell? ⟨(ad.add (i.toNat * 9)).block, (ad.add (i.toNat * 9)).off + 6, none⟩ = some (.int .i64 (rd_T34 xs i).f2.f4) ∧ w.cell? ⟨(ad.add (i.toNat * 9)).block, (ad.add (i.toNat * 9)).off + 7, none⟩ = some (.slice A7 (rd_T34 xs i).f2.f5.length c7) ∧ w.cell? ⟨(ad.add (i.toNat * 9)).block, (ad.add (i.toNat * 9)).off + 8, none⟩ = some (.string (rd_T34 xs i).f3) ∧ (rd_T34 xs i).f2.f2.length ≤ c4 ∧ k84.C w A4 (rd_T34 xs i).f2.f2.length (rd_T34 xs i).f2.f2 ∧ (rd_T34 xs i).f2.f5.length ≤ c7 ∧ k32.C w A7 (rd_T34 xs i).f2.f5.length (rd_T34 xs i).f2.f5 := by
 obtain ⟨ad, c, e, _, hK, hc0⟩ := Kd.C_get h z34 i h0 h1
 have hc : ∀ j u, c[j]? = some u → w.cell? (ad.add (i.toNat * 9 + j)) = some u := hc0
 obtain ⟨A4, c4, A7, c7, rfl, l4, g4, l7, g7⟩ := k34_open hK
 exact ⟨ad, A4, c4, A7, c7, e, hc 0 _ rfl, by rw [← add_field _ _ 1 (by omega)]; exact hc 1 _ rfl, by rw [← add_field _ _ 2 (by omega)]; exact hc 2 _ rfl, by rw [← add_field _ _ 3 (by omega)]; exact hc 3 _ rfl, by rw [← add_field _ _ 4 (by omega)]; exact hc 4 _ rfl, by rw [← add_field _ _ 5 (by omega)]; exact hc 5 _ rfl, by rw [← add_field _ _ 6 (by omega)]; exact hc 6 _ rfl, by rw [← add_field _ _ 7 (by omega)]; exact hc 7 _ rfl, by rw [← add_field _ _ 8 (by omega)]; exact hc 8 _ rfl, l4, g4, l7, g7⟩
/-! #### struct type 76 -/
structure S76 where
 f0 : ByteArray
 f1 : S32
 f2 : ByteArray
def z76 : S76 := ⟨(⟨#[]⟩ : ByteArray), z32, (⟨#[]⟩ : ByteArray)⟩
end Go.Proofs.YtbahnpdgaoedmaaGreatDoor.PMemoryExact
namespace Go.Proofs.YtbahnpdgaoedmaaGreatDoor.Mm
open Go.RowKit Go.Proofs.YtbahnpdgaoedmaaGreatDoor.PMemoryExact
set_option linter.unusedSimpArgs false
set_option linter.unusedVariables false
/-- cmp.Compare of numbers and of strings; cmp.Or of two. -/
def ci (a b : Int) : Int := if a < b then -1 else if b < a then 1 else 0
def cs (a b : ByteArray) : Int := if Op.bytesLess a.toList b.toList = true then -1 else if Op.bytesLess b.toList a.toList = true then 1 else 0
def oi (a b : Int) : Int := if a = 0 then b else a
/-- c is a total order on what S says, told by the sign. -/
structure Lin {α : Type} (S : α → Prop) (c : α → α → Int) : Prop where
 neg : ∀ x y, S x → S y → c y x = - c x y
 eq : ∀ x y, S x → S y → c x y = 0 → x = y
 tr : ∀ x y z, S x → S y → S z → c x y < 0 → c y z < 0 → c x z < 0
theorem Lin.refl {α : Type} {S : α → Prop} {c : α → α → Int} (h : Lin S c) {x : α} (hx : S x) : c x x = 0 := by
 have := h.neg x x hx hx
 omega
theorem lin_ci (S : Int → Prop) : Lin S ci where
 neg x y _ _ := by unfold ci; split <;> split <;> (try split) <;> omega
 eq x y _ _ h := by unfold ci at h; split at h <;> (try split at h) <;> omega
 tr x y z _ _ _ h k := by unfold ci at *; split at h <;> (try split at h) <;> split at k <;> (try split at k) <;> split <;> (try split) <;> omega
theorem bl_irrefl : ∀ a : List UInt8, Op.bytesLess a a = false
 | [] => rfl
 | x :: a => by simp [Op.bytesLess, bl_irrefl a, UInt8.lt_irrefl]
theorem bl_tri : ∀ a b : List UInt8, Op.bytesLess a b = false → Op.bytesLess b a = false → a = b
 | [], [], _, _ => rfl
 | [], y :: b, h, _ => by simp [Op.bytesLess] at h
 | x :: a, [], _, h => by simp [Op.bytesLess] at h
 | x :: a, y :: b, h, k => by
  simp only [Op.bytesLess, Bool.or_eq_false_iff, decide_eq_false_iff_not, Bool.and_eq_false_iff, beq_eq_false_iff_ne] at h k
  have hxy : x = y := by
   have h1 := h.1
   have h2 := k.1
   rw [UInt8.lt_iff_toNat_lt] at h1 h2
   exact UInt8.toNat_inj.1 (by omega)
  subst hxy
  have h1 : Op.bytesLess a b = false := by rcases h.2 with h | h; exact absurd rfl h; exact h
  have h2 : Op.bytesLess b a = false := by rcases k.2 with h | h; exact absurd rfl h; exact h
  rw [bl_tri a b h1 h2]
theorem bl_tr : ∀ a b c : List UInt8, Op.bytesLess a b = true → Op.bytesLess b c = true → Op.bytesLess a c = true
 | [], [], _, h, _ => by simp [Op.bytesLess] at h
 | [], _ :: _, [], _, k => by simp [Op.bytesLess] at k
 | [], _ :: _, _ :: _, _, _ => by simp [Op.bytesLess]
 | _ :: _, [], _, h, _ => by simp [Op.bytesLess] at h
 | _ :: _, _ :: _, [], _, k => by simp [Op.bytesLess] at k
 | x :: a, y :: b, z :: c, h, k => by
  simp only [Op.bytesLess, Bool.or_eq_true, decide_eq_true_eq, Bool.and_eq_true, beq_iff_eq] at h k ⊢
  rw [UInt8.lt_iff_toNat_lt] at h k ⊢
  rcases h with h | ⟨rfl, h⟩
  ·rcases k with k | ⟨rfl, k⟩
   ·exact .inl (by omega)
   ·exact .inl h
  ·rcases k with k | ⟨rfl, k⟩
   ·exact .inl k
   ·exact .inr ⟨rfl, bl_tr a b c h k⟩
theorem bl_asym {a b : List UInt8} (h : Op.bytesLess a b = true) : Op.bytesLess b a = false := by
 cases hb : Op.bytesLess b a with
 | false => rfl
 | true =>
  have := bl_tr a b a h hb
  rw [bl_irrefl] at this
  cases this
theorem toList_inj {a b : ByteArray} (h : a.toList = b.toList) : a = b := by
 have h1 : a.data.toList = b.data.toList := by rw [← ByteArray.toList_eq, ← ByteArray.toList_eq]; exact h
 cases a
 cases b
 congr 1
 exact Array.toList_inj.1 h1
theorem lin_cs (S : ByteArray → Prop) : Lin S cs where
 neg x y _ _ := by
  unfold cs
  cases h1 : Op.bytesLess x.toList y.toList <;> cases h2 : Op.bytesLess y.toList x.toList <;> simp
  rw [bl_asym h1] at h2
  cases h2
 eq x y _ _ h := by
  unfold cs at h
  cases h1 : Op.bytesLess x.toList y.toList <;> cases h2 : Op.bytesLess y.toList x.toList <;> simp [h1, h2] at h
  exact toList_inj (bl_tri _ _ h1 h2)
 tr x y z _ _ _ h k := by
  unfold cs at *
  have h1 : Op.bytesLess x.toList y.toList = true := by
   cases h1 : Op.bytesLess x.toList y.toList with
   | true => rfl
   | false => rw [h1] at h; split at h <;> (try split at h) <;> simp_all <;> omega
  have h2 : Op.bytesLess y.toList z.toList = true := by
   cases h1 : Op.bytesLess y.toList z.toList with
   | true => rfl
   | false => rw [h1] at k; split at k <;> (try split at k) <;> simp_all <;> omega
  rw [bl_tr _ _ _ h1 h2]
  simp
/-- First by f, then by g. -/
theorem lin_lex {α β γ : Type} {S : α → Prop} {T : β → Prop} {U : γ → Prop} {c : β → β → Int} {d : γ → γ → Int} (f : α → β) (g : α → γ) (hc : Lin T c) (hd : Lin U d) (hf : ∀ x, S x → T (f x)) (hg : ∀ x, S x → U (g x)) (hi : ∀ x y, f x = f y → g x = g y → x = y) :
  Lin S (fun x y => oi (c (f x) (f y)) (d (g x) (g y))) where
 neg x y hx hy := by
  have h1 := hc.neg _ _ (hf x hx) (hf y hy)
  have h2 := hd.neg _ _ (hg x hx) (hg y hy)
  simp only [oi]
  split <;> split <;> omega
 eq x y hx hy h := by
  simp only [oi] at h
  split at h
  ·rename_i h0
   exact hi x y (hc.eq _ _ (hf x hx) (hf y hy) h0) (hd.eq _ _ (hg x hx) (hg y hy) h)
  ·rename_i h0
   exact absurd h h0
 tr x y z hx hy hz h k := by
  simp only [oi] at *
  by_cases h1 : c (f x) (f y) = 0
  ·rw [if_pos h1] at h
   have e := hc.eq _ _ (hf x hx) (hf y hy) h1
   rw [e]
   by_cases h2 : c (f y) (f z) = 0
   ·rw [if_pos h2] at k ⊢
    exact hd.tr _ _ _ (hg x hx) (hg y hy) (hg z hz) h k
   ·rw [if_neg h2] at k ⊢
    exact k
  ·rw [if_neg h1] at h
   by_cases h2 : c (f y) (f z) = 0
   ·have e := hc.eq _ _ (hf y hy) (hf z hz) h2
    rw [← e, if_neg h1]
    exact h
   ·rw [if_neg h2] at k
    have := hc.tr _ _ _ (hf x hx) (hf y hy) (hf z hz) h k
    rw [if_neg (by omega)]
    exact this
/-- slices.CompareFunc. -/
def cl {α : Type} (c : α → α → Int) : List α → List α → Int
 | [], [] => 0
 | [], _ :: _ => -1
 | _ :: _, [] => 1
 | x :: a, y :: b => oi (c x y) (cl c a b)
theorem lin_cl {α : Type} {S : α → Prop} {c : α → α → Int} (hc : Lin S c) : Lin (fun l : List α => ∀ x ∈ l, S x) (cl c) where
 neg := by
  intro a
  induction a with
  | nil => intro b _ _; cases b <;> simp [cl]
  | cons x a ih =>
   intro b ha hb
   cases b with
   | nil => simp [cl]
   | cons y b =>
    have h1 := hc.neg x y (ha x (by simp)) (hb y (by simp))
    have h2 := ih b (fun z hz => ha z (by simp [hz])) (fun z hz => hb z (by simp [hz]))
    simp only [cl, oi]
    split <;> split <;> omega
 eq := by
  intro a
  induction a with
  | nil => intro b _ _ h; cases b with
   | nil => rfl
   | cons y b => simp [cl] at h
  | cons x a ih =>
   intro b ha hb h
   cases b with
   | nil => simp [cl] at h
   | cons y b =>
    simp only [cl, oi] at h
    split at h
    ·rename_i h0
     rw [hc.eq x y (ha x (by simp)) (hb y (by simp)) h0, ih b (fun z hz => ha z (by simp [hz])) (fun z hz => hb z (by simp [hz])) h]
    ·rename_i h0
     exact absurd h h0
 tr := by
  intro a
  induction a with
  | nil =>
   intro b e _ _ _ h k
   cases b with
   | nil => simp [cl] at h
   | cons y b => cases e with
    | nil => simp [cl] at k
    | cons z e => simp [cl]
  | cons x a ih =>
   intro b e ha hb he h k
   cases b with
   | nil => simp [cl] at h
   | cons y b =>
    cases e with
    | nil => simp [cl] at k
    | cons z e =>
     have hx := ha x (by simp)
     have hy := hb y (by simp)
     have hz := he z (by simp)
     simp only [cl, oi] at *
     by_cases h1 : c x y = 0
     ·rw [if_pos h1] at h
      have e1 := hc.eq _ _ hx hy h1
      rw [e1]
      by_cases h2 : c y z = 0
      ·rw [if_pos h2] at k ⊢
       exact ih b e (fun z hz => ha z (by simp [hz])) (fun z hz => hb z (by simp [hz])) (fun z hz => he z (by simp [hz])) h k
      ·rw [if_neg h2] at k ⊢
       exact k
     ·rw [if_neg h1] at h
      by_cases h2 : c y z = 0
      ·have e2 := hc.eq _ _ hy hz h2
       rw [← e2, if_neg h1]
       exact h
      ·rw [if_neg h2] at k
       have := hc.tr _ _ _ hx hy hz h k
       rw [if_neg (by omega)]
       exact this
def cr (x y : S84) : Int := oi (ci x.f0 y.f0) (oi (ci x.f1 y.f1) (cs x.f2 y.f2))
theorem lin_cr (S : S84 → Prop) : Lin S cr := by
 have h2 := lin_lex (S := S) (T := fun _ => True) (U := fun _ => True) (fun x : S84 => x.f0) (fun x : S84 => (x.f1, x.f2)) (lin_ci _) (d := fun a b : Int × ByteArray => oi (ci a.1 b.1) (cs a.2 b.2))
  (lin_lex (S := fun _ => True) (T := fun _ => True) (U := fun _ => True) (fun a : Int × ByteArray => a.1) (fun a => a.2) (lin_ci _) (lin_cs _) (fun _ _ => trivial) (fun _ _ => trivial) (fun x y h k => Prod.ext h k)) (fun _ _ => trivial) (fun _ _ => trivial)
  (fun x y h k => by cases x; cases y; simp_all)
 exact h2
/-- The number of nodes, and of levels. -/
def size : S32 → Nat
 | ⟨_, _, _, _, _, k⟩ => 1 + sizes k
where sizes : List S32 → Nat
 | [] => 0
 | x :: r => size x + sizes r
mutual
/-- formula.Compare -/
def cF : S32 → S32 → Int
 | ⟨o, n, a, f, t, k⟩, y => oi (ci o y.f0) (oi (cs n y.f1) (oi (cl cr a y.f2) (oi (ci f y.f3) (oi (ci t y.f4) (cFs k y.f5)))))
def cFs : List S32 → List S32 → Int
 | [], [] => 0
 | [], _ :: _ => -1
 | _ :: _, [] => 1
 | x :: a, y :: b => oi (cF x y) (cFs a b)
end
theorem cFs_cl : ∀ a b : List S32, cFs a b = cl cF a b
 | [], [] => by simp [cFs, cl]
 | [], _ :: _ => by simp [cFs, cl]
 | _ :: _, [] => by simp [cFs, cl]
 | x :: a, y :: b => by simp only [cFs, cl]; rw [cFs_cl a b]
theorem cF_is (x y : S32) : cF x y = oi (ci x.f0 y.f0) (oi (cs x.f1 y.f1) (oi (cl cr x.f2 y.f2) (oi (ci x.f3 y.f3) (oi (ci x.f4 y.f4) (cl cF x.f5 y.f5))))) := by
 obtain ⟨o, n, a, f, t, k⟩ := x
 simp only [cF]
 rw [cFs_cl]
theorem size_is (x : S32) : size x = 1 + size.sizes x.f5 := by
 obtain ⟨o, n, a, f, t, k⟩ := x
 simp [size]
theorem sizes_le : ∀ (l : List S32) (x : S32), x ∈ l → size x ≤ size.sizes l
 | [], x, h => by simp at h
 | y :: l, x, h => by
  simp only [size.sizes]
  rcases List.mem_cons.1 h with rfl | h
  ·omega
  ·have := sizes_le l x h
   omega
theorem kid_lt {x y : S32} (h : y ∈ x.f5) : size y < size x := by
 rw [size_is x]
 have := sizes_le _ _ h
 omega
theorem lin_upto : ∀ n : Nat, Lin (fun x : S32 => size x < n) cF
 | 0 => ⟨fun x _ h => absurd h (Nat.not_lt_zero _), fun x _ h => absurd h (Nat.not_lt_zero _), fun x _ _ h => absurd h (Nat.not_lt_zero _)⟩
 | n + 1 => by
  have ih := lin_cl (lin_upto n)
  have hk : ∀ x : S32, size x < n + 1 → ∀ y ∈ x.f5, size y < n := fun x hx y hy => by have := kid_lt hy; omega
  have h5 : Lin (fun a : Int × List S32 => ∀ y ∈ a.2, size y < n) (fun a b => oi (ci a.1 b.1) (cl cF a.2 b.2)) :=
   lin_lex (T := fun _ => True) (fun a : Int × List S32 => a.1) (fun a => a.2) (lin_ci _) ih (fun _ _ => trivial) (fun _ h => h) (fun x y h k => Prod.ext h k)
  have h4 : Lin (fun a : Int × Int × List S32 => ∀ y ∈ a.2.2, size y < n) (fun a b => oi (ci a.1 b.1) (oi (ci a.2.1 b.2.1) (cl cF a.2.2 b.2.2))) :=
   lin_lex (T := fun _ => True) (fun a : Int × Int × List S32 => a.1) (fun a => a.2) (lin_ci _) h5 (fun _ _ => trivial) (fun _ h => h) (fun x y h k => Prod.ext h k)
  have h3 : Lin (fun a : List S84 × Int × Int × List S32 => ∀ y ∈ a.2.2.2, size y < n) (fun a b => oi (cl cr a.1 b.1) (oi (ci a.2.1 b.2.1) (oi (ci a.2.2.1 b.2.2.1) (cl cF a.2.2.2 b.2.2.2)))) :=
   lin_lex (T := fun _ => ∀ x ∈ (_ : List S84), True) (fun a : List S84 × Int × Int × List S32 => a.1) (fun a => a.2) (lin_cl (lin_cr (fun _ => True))) h4 (fun _ _ _ _ => trivial) (fun _ h => h) (fun x y h k => Prod.ext h k)
  have h2 : Lin (fun a : ByteArray × List S84 × Int × Int × List S32 => ∀ y ∈ a.2.2.2.2, size y < n) (fun a b => oi (cs a.1 b.1) (oi (cl cr a.2.1 b.2.1) (oi (ci a.2.2.1 b.2.2.1) (oi (ci a.2.2.2.1 b.2.2.2.1) (cl cF a.2.2.2.2 b.2.2.2.2))))) :=
   lin_lex (T := fun _ => True) (fun a : ByteArray × List S84 × Int × Int × List S32 => a.1) (fun a => a.2) (lin_cs _) h3 (fun _ _ => trivial) (fun _ h => h) (fun x y h k => Prod.ext h k)
  have h1 : Lin (fun x : S32 => size x < n + 1) (fun x y => oi (ci x.f0 y.f0) (oi (cs x.f1 y.f1) (oi (cl cr x.f2 y.f2) (oi (ci x.f3 y.f3) (oi (ci x.f4 y.f4) (cl cF x.f5 y.f5)))))) :=
   lin_lex (T := fun _ => True) (fun x : S32 => x.f0) (fun x : S32 => (x.f1, x.f2, x.f3, x.f4, x.f5)) (lin_ci _) h2 (fun _ _ => trivial) (fun x hx => hk x hx) (fun x y h k => by cases x; cases y; simp_all)
  exact ⟨fun x y hx hy => by rw [cF_is, cF_is]; exact h1.neg x y hx hy, fun x y hx hy h => h1.eq x y hx hy (by rw [cF_is] at h; exact h), fun x y z hx hy hz h k => by rw [cF_is] at h k ⊢; exact h1.tr x y z hx hy hz h k⟩
theorem lin_cF : Lin (fun _ : S32 => True) cF where
 neg x y _ _ := (lin_upto (size x + size y + 1)).neg x y (by omega) (by omega)
 eq x y _ _ := (lin_upto (size x + size y + 1)).eq x y (by omega) (by omega)
 tr x y z _ _ _ := (lin_upto (size x + size y + size z + 1)).tr x y z (by omega) (by omega) (by omega)
/-- The levels. -/
def depth : S32 → Nat
 | ⟨_, _, _, _, _, k⟩ => 1 + depths k
where depths : List S32 → Nat
 | [] => 0
 | x :: r => max (depth x) (depths r)
/-- Sorted, and each once. -/
def srt (l : List S32) : List S32 := l.mergeSort (fun x y => decide (cF x y ≤ 0))
def dedup : List S32 → List S32
 | [] => []
 | [x] => [x]
 | x :: y :: r => if cF y x = 0 then dedup (x :: r) else x :: dedup (y :: r)
termination_by l => l.length
def eStr : ByteArray := ⟨#[]⟩
def mk0 (op : Int) : S32 := ⟨op, eStr, [], 0, 0, []⟩
def const (b : Bool) : S32 := if b then mk0 1 else mk0 2
def unitOf (op : Int) : Int := if op = 6 then 2 else 1
def zeroOf (op : Int) : Int := if op = 6 then 1 else 2
def flat (op : Int) (l : List S32) : List S32 := l.flatMap fun f => if f.f0 = op then f.f5 else if f.f0 = unitOf op then [] else [f]
def join (op : Int) (l : List S32) : S32 :=
 match (flat op l).find? (fun f => f.f0 == zeroOf op) with
 | some f => f
 | none => match dedup (srt (flat op l)) with
  | [] => mk0 (unitOf op)
  | [x] => x
  | xs => ⟨op, eStr, [], 0, 0, xs⟩
mutual
def each (op : Int) (build : S32 → S32) : S32 → S32
 | ⟨o, n, a, f, t, k⟩ => if o = 1 ∨ o = 2 then ⟨o, n, a, f, t, k⟩ else if o = op then join op (eachs op build k) else build ⟨o, n, a, f, t, k⟩
def eachs (op : Int) (build : S32 → S32) : List S32 → List S32
 | [] => []
 | x :: r => each op build x :: eachs op build r
end
def overF (op : Int) (name : ByteArray) (g : S32) : S32 := each (if op = 9 ∨ op = 12 then 6 else 5) (fun k => ⟨op, name, [], 0, 0, [k]⟩) g
def duringF (frm too : Int) (g : S32) : S32 := if 0 ≤ too ∧ too ≤ frm then const true else each 5 (fun k => ⟨10, eStr, [], frm, too, [k]⟩) g
mutual
def inverseF : S32 → S32
 | ⟨o, n, a, f, t, k⟩ => if o = 1 ∨ o = 2 then const (o == 2) else if o = 5 then join 6 (inverses k) else ⟨4, eStr, [], 0, 0, [⟨o, n, a, f, t, k⟩]⟩
def inverses : List S32 → List S32
 | [] => []
 | x :: r => inverseF x :: inverses r
end
def oppo (op : Int) : Int := if op = 5 then 6 else if op = 6 then 5 else if op = 8 then 9 else if op = 9 then 8 else if op = 11 then 12 else 11
mutual
/-- normalform.normal -/
def nf : S32 → Bool → S32
 | ⟨o, n, a, f, t, k⟩, neg =>
  if o = 1 ∨ o = 2 then const ((o == 1) != neg)
  else if o = 3 then (if neg then ⟨4, eStr, [], 0, 0, [⟨o, n, a, f, t, k⟩]⟩ else ⟨o, n, a, f, t, k⟩)
  else if o = 4 then (nfs k (!neg)).getD 0 z32
  else if o = 7 then join (if neg then 5 else 6) [(nfs k (!neg)).getD 0 z32, (nfs k neg).getD 1 z32]
  else if o = 10 then (if neg then inverseF (duringF f t ((nfs k false).getD 0 z32)) else duringF f t ((nfs k false).getD 0 z32))
  else if (if neg then oppo o else o) = 5 ∨ (if neg then oppo o else o) = 6 then join (if neg then oppo o else o) (nfs k neg)
  else overF (if neg then oppo o else o) n ((nfs k neg).getD 0 z32)
def nfs : List S32 → Bool → List S32
 | [], _ => []
 | x :: r, neg => nf x neg :: nfs r neg
end
end Go.Proofs.YtbahnpdgaoedmaaGreatDoor.Mm
namespace Go.Proofs.YtbahnpdgaoedmaaGreatDoor.PMemoryExact
open Go.RowKit Go.Proofs.YtbahnpdgaoedmaaGreatDoorW.PrintWords Go.Proofs.YtbahnpdgaoedmaaGreatDoorW.PrintLast Go.Proofs.YtbahnpdgaoedmaaGreatDoorW.PrintMore
attribute [local go_sem] max2_int min2_int max_two min_two max_three min_three max_four min_four   -- for this text's walks alone
set_option linter.unusedVariables false
set_option linter.unusedSimpArgs false
/-! ### cmp_Or_int: function 71 -/
def cmp_Or_int.l0 : Nat → Int → List Int → Int → Int → Option (Int)
 | 0, _, _, _, _ => none
 | k + 1, x3, x6, x7, x8 => if x8 < x7 then (if 0 ≤ x8 then (if x8 < (x6.length : Int) then (if (rd x6 x8) = x3 then (cmp_Or_int.l0 k x3 x6 x7 (wrap64 (x8 + 1))) else (some (rd x6 x8))) else (none)) else (none)) else (some x3)
def cmp_Or_int.f (k : Nat) (l0 : List Int) : Option (Int) := cmp_Or_int.l0 k 0 l0 (l0.length : Int) 0
theorem cmp_Or_int.mono_l : ∀ k, (∀ y0 y1 y2 y3, LeO (cmp_Or_int.l0 k y0 y1 y2 y3) (cmp_Or_int.l0 (k + 1) y0 y1 y2 y3))
 | 0 => fun _ _ _ _ r h => by simp [cmp_Or_int.l0] at h
 | k + 1 => by
  have ih0 := cmp_Or_int.mono_l k
  ·intro y0 y1 y2 y3
   unfold cmp_Or_int.l0
   repeat' first
   | (with_reducible exact ih0 _ _ _ _)
   | (with_reducible exact LeO.refl _)
   | (with_reducible exact LeO.none _)
   | (with_reducible refine LeO.ite ?_ ?_)
   | (with_reducible refine LeO.bind ?_ (fun _ => ?_))
   | exact ih0 _ _ _ _
   | exact LeO.none _
   | refine LeO.ite ?_ ?_
   | refine LeO.bind ?_ (fun _ => ?_)
theorem cmp_Or_int.mono : ∀ a0 k, LeO (cmp_Or_int.f k a0) (cmp_Or_int.f (k + 1) a0) := by
 intro a0 k
 have ih0 := cmp_Or_int.mono_l k
 unfold cmp_Or_int.f
 repeat' first
   | (with_reducible exact ih0 _ _ _ _)
   | (with_reducible exact LeO.refl _)
   | (with_reducible exact LeO.none _)
   | (with_reducible refine LeO.ite ?_ ?_)
   | (with_reducible refine LeO.bind ?_ (fun _ => ?_))
   | exact ih0 _ _ _ _
   | exact LeO.none _
   | refine LeO.ite ?_ ?_
   | refine LeO.bind ?_ (fun _ => ?_)
set_option maxHeartbeats 8000000 in
set_option maxRecDepth 100000 in
theorem cmp_Or_int.calls (k : Nat) (A0 : Option Addr) (c0 : Nat) (l0 : List Int) (r : Int) (w : World) (hr0 : Kd.C (Kd.int .i64) w A0 l0.length l0) (hc0 : l0.length ≤ c0) (h : cmp_Or_int.f k l0 = some r) :
  Calls Tryz.prog 71 #[.slice A0 l0.length c0] w fun e w' => e = .returned (.int .i64 r) ∧ Drawn0 w w' := by
 have HR0 := Aside0.mk hr0
 have HC0 := Aside0.mk hc0
 clear hr0 hc0
 have H : (cmp_Or_int.l0 k 0 l0 (l0.length : Int) 0) = some r := h
 clear h
 have H' := Aside0.mk H
 clear H
 go_enter Tryz.func71, Tryz.ntmps71
 go_wp2
 go_loopg [8] k (fun kq v8 w' => ∃ (x8_1 : Int), v8 = .int .i64 x8_1 ∧ Aside0 (cmp_Or_int.l0 kq 0 l0 (l0.length : Int) x8_1 = some r) ∧ Aside0 (kq ≤ k) ∧ Drawn0 w w')
 case atStart => exact ⟨(0), (by first | rfl | (simp; done) | (simp [*]; done)), H', ⟨Nat.le_refl _⟩, by repeat (first | exact Drawn0.refl _ | apply Drawn0.step)⟩
 case round =>
  clear H'
  obtain ⟨x8_1, rfl, HA, HK1, ⟨m1, rfl⟩⟩ := hrel
  cases gk with
  | zero => exact absurd HA.out (by simp [cmp_Or_int.l0])
  | succ k1 =>
   have H := HA.out
   clear HA
   simp only [cmp_Or_int.l0] at H
   by_cases c2 : x8_1 < (l0.length : Int)
   ·rw [if_pos c2] at H
    have c2b0 : decide (x8_1 < (l0.length : Int)) = true := decide_eq_true c2
    clear c2
    by_cases c3 : 0 ≤ x8_1
    ·rw [if_pos c3] at H
     have c3b0 : decide (0 ≤ x8_1) = true := decide_eq_true c3
     clear c3
     by_cases c4 : x8_1 < (l0.length : Int)
     ·rw [if_pos c4] at H
      have c4b0 : decide (x8_1 < (l0.length : Int)) = true := decide_eq_true c4
      clear c4
      by_cases c5 : (rd l0 x8_1) = 0
      ·rw [if_pos c5] at H
       have c5b0 : ((rd l0 x8_1) == 0) = true := beq_iff_eq.mpr c5
       have c5b1 : ((rd l0 x8_1) != 0) = false := bne_eq_false_iff_eq.mpr c5
       clear c5
       have H' := Aside0.mk H
       clear H
       have p142 : 0 ≤ (x8_1 : Int) := of_decide_eq_true (by first | (with_reducible assumption) | assumption)
       have q142 : x8_1 < (l0.length : Int) := of_decide_eq_true (by first | (with_reducible assumption) | assumption)
       obtain ⟨ad142, e142, hx142_0⟩ := Kd.at_int HR0.out x8_1 p142 q142
       cases e142
       replace p142 := eq_true p142
       replace q142 := eq_true q142
       go_wp2
       go_roundg k1
       case measure => have := HK1.out; omega
       case rel => exact ⟨(wrap64 (x8_1 + 1)), (by first | rfl | (simp; done) | (simp [*]; done)), H', ⟨by have := HK1.out; omega⟩, by repeat (first | exact Drawn0.refl _ | apply Drawn0.step)⟩
      ·rw [if_neg c5] at H
       have c5b0 : ((rd l0 x8_1) == 0) = false := beq_eq_false_iff_ne.mpr c5
       have c5b1 : ((rd l0 x8_1) != 0) = true := bne_iff_ne.mpr c5
       obtain rfl := Option.some.inj H
       have p142 : 0 ≤ (x8_1 : Int) := of_decide_eq_true (by first | (with_reducible assumption) | assumption)
       have q142 : x8_1 < (l0.length : Int) := of_decide_eq_true (by first | (with_reducible assumption) | assumption)
       obtain ⟨ad142, e142, hx142_0⟩ := Kd.at_int HR0.out x8_1 p142 q142
       cases e142
       replace p142 := eq_true p142
       replace q142 := eq_true q142
       go_wp2
       go_ret
       exact ⟨by first | rfl | (simp; done) | (simp [*]; done), by repeat (first | exact Drawn0.refl _ | apply Drawn0.step)⟩
     ·rw [if_neg c4] at H
      exact absurd H (by simp)
    ·rw [if_neg c3] at H
     exact absurd H (by simp)
   ·rw [if_neg c2] at H
    have c2b0 : decide (x8_1 < (l0.length : Int)) = false := decide_eq_false c2
    clear c2
    obtain rfl := Option.some.inj H
    go_wp2
    go_ret
    exact ⟨by first | rfl | (simp; done) | (simp [*]; done), by repeat (first | exact Drawn0.refl _ | apply Drawn0.step)⟩
attribute [local go_sem] max2_int min2_int max_two min_two max_three min_three max_four min_four   -- for this text's walks alone
/-! ### cmp_isNaN_int: function 96 -/
def cmp_isNaN_int.f (a0 : Int) : Option (Bool) := some (a0 != a0)
set_option maxHeartbeats 8000000 in
set_option maxRecDepth 100000 in
theorem cmp_isNaN_int.calls (a0 : Int) (r : Bool) (w : World) (h : cmp_isNaN_int.f a0 = some r) :
  Calls Tryz.prog 96 #[.int .i64 a0] w fun e w' => e = .returned (.bool r) ∧ Drawn0 w w' := by
 have H : (some (a0 != a0)) = some r := h
 clear h
 obtain rfl := Option.some.inj H
 go_enter Tryz.func96, Tryz.ntmps96
 go_wp2
 go_ret
 exact ⟨by first | rfl | (simp; done) | (simp [*]; done), by repeat (first | exact Drawn0.refl _ | apply Drawn0.step)⟩
/-! ### cmp_Compare_int: function 72 -/
def cmp_Compare_int.f (a0 : Int) (a1 : Int) : Option (Int) := (cmp_isNaN_int.f a0).bind fun t143 => ((cmp_isNaN_int.f a1).bind fun t144 => (if t143 = true then (if t144 = true then (some 0) else (some (-1))) else (if t144 = true then (some 1) else (if a0 < a1 then (some (-1)) else (if a0 > a1 then (some 1) else (some 0))))))
set_option maxHeartbeats 8000000 in
set_option maxRecDepth 100000 in
theorem cmp_Compare_int.calls (a0 : Int) (a1 : Int) (r : Int) (w : World) (h : cmp_Compare_int.f a0 a1 = some r) :
  Calls Tryz.prog 72 #[.int .i64 a0, .int .i64 a1] w fun e w' => e = .returned (.int .i64 r) ∧ Drawn0 w w' := by
 have H : ((cmp_isNaN_int.f a0).bind fun t143 => ((cmp_isNaN_int.f a1).bind fun t144 => (if t143 = true then (if t144 = true then (some 0) else (some (-1))) else (if t144 = true then (some 1) else (if a0 < a1 then (some (-1)) else (if a0 > a1 then (some 1) else (some 0))))))) = some r := h
 clear h
 replace H := Option.bind_eq_some_iff.mp H
 obtain ⟨t143, A30, H⟩ := H
 replace H : ((cmp_isNaN_int.f a1).bind fun t144 => (if t143 = true then (if t144 = true then (some 0) else (some (-1))) else (if t144 = true then (some 1) else (if a0 < a1 then (some (-1)) else (if a0 > a1 then (some 1) else (some 0)))))) = some r := H
 have A3 := Aside0.mk A30
 clear A30
 replace H := Option.bind_eq_some_iff.mp H
 obtain ⟨t144, A40, H⟩ := H
 replace H : (if t143 = true then (if t144 = true then (some 0) else (some (-1))) else (if t144 = true then (some 1) else (if a0 < a1 then (some (-1)) else (if a0 > a1 then (some 1) else (some 0))))) = some r := H
 have A4 := Aside0.mk A40
 clear A40
 by_cases c5 : t143 = true
 ·subst c5
  have H1 : (if t144 = true then (some 0) else (some (-1))) = some r := by rw [if_pos rfl] at H; exact H
  clear H
  have H := H1
  clear H1
  by_cases c6 : t144 = true
  ·subst c6
   have H1 : (some 0) = some r := by rw [if_pos rfl] at H; exact H
   clear H
   have H := H1
   clear H1
   obtain rfl := Option.some.inj H
   go_enter Tryz.func72, Tryz.ntmps72
   go_wp2_with (first | ((with_reducible refine gate_callee (f := 96) rfl ?_); refine goesL_ (some 8) rfl rfl Tryz.func96 (by kernel_rfl) rfl #[.int .i64 a0] rfl (by (try simp only [List.map_toArray, List.map_cons, List.map_nil]); first | done | rfl | (simp only [List.length_drop, List.length_take]; rfl)) ?_; (with_reducible refine (cmp_isNaN_int.calls a0 true _ A3.out).mono ?_); rintro e w' ⟨rfl, ⟨nd, rfl⟩⟩; refine ⟨_, rfl, ?_⟩) | ((with_reducible refine gate_callee (f := 96) rfl ?_); refine goesL_ (some 10) rfl rfl Tryz.func96 (by kernel_rfl) rfl #[.int .i64 a1] rfl (by (try simp only [List.map_toArray, List.map_cons, List.map_nil]); first | done | rfl | (simp only [List.length_drop, List.length_take]; rfl)) ?_; (with_reducible refine (cmp_isNaN_int.calls a1 true _ A4.out).mono ?_); rintro e w' ⟨rfl, ⟨nd, rfl⟩⟩; refine ⟨_, rfl, ?_⟩))
   go_ret
   exact ⟨by first | rfl | (simp; done) | (simp [*]; done), by repeat (first | exact Drawn0.refl _ | apply Drawn0.step)⟩
  ·replace c6 := Bool.eq_false_iff.mpr c6
   subst c6
   have H1 : (some (-1)) = some r := by rw [if_neg (show ¬ (false = true) by decide)] at H; exact H
   clear H
   have H := H1
   clear H1
   obtain rfl := Option.some.inj H
   go_enter Tryz.func72, Tryz.ntmps72
   go_wp2_with (first | ((with_reducible refine gate_callee (f := 96) rfl ?_); refine goesL_ (some 8) rfl rfl Tryz.func96 (by kernel_rfl) rfl #[.int .i64 a0] rfl (by (try simp only [List.map_toArray, List.map_cons, List.map_nil]); first | done | rfl | (simp only [List.length_drop, List.length_take]; rfl)) ?_; (with_reducible refine (cmp_isNaN_int.calls a0 true _ A3.out).mono ?_); rintro e w' ⟨rfl, ⟨nd, rfl⟩⟩; refine ⟨_, rfl, ?_⟩) | ((with_reducible refine gate_callee (f := 96) rfl ?_); refine goesL_ (some 10) rfl rfl Tryz.func96 (by kernel_rfl) rfl #[.int .i64 a1] rfl (by (try simp only [List.map_toArray, List.map_cons, List.map_nil]); first | done | rfl | (simp only [List.length_drop, List.length_take]; rfl)) ?_; (with_reducible refine (cmp_isNaN_int.calls a1 false _ A4.out).mono ?_); rintro e w' ⟨rfl, ⟨nd, rfl⟩⟩; refine ⟨_, rfl, ?_⟩))
   go_ret
   exact ⟨by first | rfl | (simp; done) | (simp [*]; done), by repeat (first | exact Drawn0.refl _ | apply Drawn0.step)⟩
 ·replace c5 := Bool.eq_false_iff.mpr c5
  subst c5
  have H1 : (if t144 = true then (some 1) else (if a0 < a1 then (some (-1)) else (if a0 > a1 then (some 1) else (some 0)))) = some r := by rw [if_neg (show ¬ (false = true) by decide)] at H; exact H
  clear H
  have H := H1
  clear H1
  by_cases c7 : t144 = true
  ·subst c7
   have H1 : (some 1) = some r := by rw [if_pos rfl] at H; exact H
   clear H
   have H := H1
   clear H1
   obtain rfl := Option.some.inj H
   go_enter Tryz.func72, Tryz.ntmps72
   go_wp2_with (first | ((with_reducible refine gate_callee (f := 96) rfl ?_); refine goesL_ (some 8) rfl rfl Tryz.func96 (by kernel_rfl) rfl #[.int .i64 a0] rfl (by (try simp only [List.map_toArray, List.map_cons, List.map_nil]); first | done | rfl | (simp only [List.length_drop, List.length_take]; rfl)) ?_; (with_reducible refine (cmp_isNaN_int.calls a0 false _ A3.out).mono ?_); rintro e w' ⟨rfl, ⟨nd, rfl⟩⟩; refine ⟨_, rfl, ?_⟩) | ((with_reducible refine gate_callee (f := 96) rfl ?_); refine goesL_ (some 10) rfl rfl Tryz.func96 (by kernel_rfl) rfl #[.int .i64 a1] rfl (by (try simp only [List.map_toArray, List.map_cons, List.map_nil]); first | done | rfl | (simp only [List.length_drop, List.length_take]; rfl)) ?_; (with_reducible refine (cmp_isNaN_int.calls a1 true _ A4.out).mono ?_); rintro e w' ⟨rfl, ⟨nd, rfl⟩⟩; refine ⟨_, rfl, ?_⟩))
   go_ret
   exact ⟨by first | rfl | (simp; done) | (simp [*]; done), by repeat (first | exact Drawn0.refl _ | apply Drawn0.step)⟩
  ·replace c7 := Bool.eq_false_iff.mpr c7
   subst c7
   have H1 : (if a0 < a1 then (some (-1)) else (if a0 > a1 then (some 1) else (some 0))) = some r := by rw [if_neg (show ¬ (false = true) by decide)] at H; exact H
   clear H
   have H := H1
   clear H1
   by_cases c8 : a0 < a1
   ·rw [if_pos c8] at H
    have c8b0 : decide (a0 < a1) = true := decide_eq_true c8
    clear c8
    obtain rfl := Option.some.inj H
    go_enter Tryz.func72, Tryz.ntmps72
    go_wp2_with (first | ((with_reducible refine gate_callee (f := 96) rfl ?_); refine goesL_ (some 8) rfl rfl Tryz.func96 (by kernel_rfl) rfl #[.int .i64 a0] rfl (by (try simp only [List.map_toArray, List.map_cons, List.map_nil]); first | done | rfl | (simp only [List.length_drop, List.length_take]; rfl)) ?_; (with_reducible refine (cmp_isNaN_int.calls a0 false _ A3.out).mono ?_); rintro e w' ⟨rfl, ⟨nd, rfl⟩⟩; refine ⟨_, rfl, ?_⟩) | ((with_reducible refine gate_callee (f := 96) rfl ?_); refine goesL_ (some 10) rfl rfl Tryz.func96 (by kernel_rfl) rfl #[.int .i64 a1] rfl (by (try simp only [List.map_toArray, List.map_cons, List.map_nil]); first | done | rfl | (simp only [List.length_drop, List.length_take]; rfl)) ?_; (with_reducible refine (cmp_isNaN_int.calls a1 false _ A4.out).mono ?_); rintro e w' ⟨rfl, ⟨nd, rfl⟩⟩; refine ⟨_, rfl, ?_⟩))
    go_ret
    exact ⟨by first | rfl | (simp; done) | (simp [*]; done), by repeat (first | exact Drawn0.refl _ | apply Drawn0.step)⟩
   ·rw [if_neg c8] at H
    have c8b0 : decide (a0 < a1) = false := decide_eq_false c8
    clear c8
    by_cases c9 : a0 > a1
    ·rw [if_pos c9] at H
     have c9b0 : decide (a1 < a0) = true := decide_eq_true c9
     clear c9
     obtain rfl := Option.some.inj H
     go_enter Tryz.func72, Tryz.ntmps72
     go_wp2_with (first | ((with_reducible refine gate_callee (f := 96) rfl ?_); refine goesL_ (some 8) rfl rfl Tryz.func96 (by kernel_rfl) rfl #[.int .i64 a0] rfl (by (try simp only [List.map_toArray, List.map_cons, List.map_nil]); first | done | rfl | (simp only [List.length_drop, List.length_take]; rfl)) ?_; (with_reducible refine (cmp_isNaN_int.calls a0 false _ A3.out).mono ?_); rintro e w' ⟨rfl, ⟨nd, rfl⟩⟩; refine ⟨_, rfl, ?_⟩) | ((with_reducible refine gate_callee (f := 96) rfl ?_); refine goesL_ (some 10) rfl rfl Tryz.func96 (by kernel_rfl) rfl #[.int .i64 a1] rfl (by (try simp only [List.map_toArray, List.map_cons, List.map_nil]); first | done | rfl | (simp only [List.length_drop, List.length_take]; rfl)) ?_; (with_reducible refine (cmp_isNaN_int.calls a1 false _ A4.out).mono ?_); rintro e w' ⟨rfl, ⟨nd, rfl⟩⟩; refine ⟨_, rfl, ?_⟩))
     go_ret
     exact ⟨by first | rfl | (simp; done) | (simp [*]; done), by repeat (first | exact Drawn0.refl _ | apply Drawn0.step)⟩
    ·rw [if_neg c9] at H
     have c9b0 : decide (a1 < a0) = false := decide_eq_false c9
     clear c9
     obtain rfl := Option.some.inj H
     go_enter Tryz.func72, Tryz.ntmps72
     go_wp2_with (first | ((with_reducible refine gate_callee (f := 96) rfl ?_); refine goesL_ (some 8) rfl rfl Tryz.func96 (by kernel_rfl) rfl #[.int .i64 a0] rfl (by (try simp only [List.map_toArray, List.map_cons, List.map_nil]); first | done | rfl | (simp only [List.length_drop, List.length_take]; rfl)) ?_; (with_reducible refine (cmp_isNaN_int.calls a0 false _ A3.out).mono ?_); rintro e w' ⟨rfl, ⟨nd, rfl⟩⟩; refine ⟨_, rfl, ?_⟩) | ((with_reducible refine gate_callee (f := 96) rfl ?_); refine goesL_ (some 10) rfl rfl Tryz.func96 (by kernel_rfl) rfl #[.int .i64 a1] rfl (by (try simp only [List.map_toArray, List.map_cons, List.map_nil]); first | done | rfl | (simp only [List.length_drop, List.length_take]; rfl)) ?_; (with_reducible refine (cmp_isNaN_int.calls a1 false _ A4.out).mono ?_); rintro e w' ⟨rfl, ⟨nd, rfl⟩⟩; refine ⟨_, rfl, ?_⟩))
     go_ret
     exact ⟨by first | rfl | (simp; done) | (simp [*]; done), by repeat (first | exact Drawn0.refl _ | apply Drawn0.step)⟩
end Go.Proofs.YtbahnpdgaoedmaaGreatDoor.PMemoryExact
namespace Go.Proofs.YtbahnpdgaoedmaaGreatDoor.Mm
open Go.RowKit Go.Proofs.YtbahnpdgaoedmaaGreatDoorW.PrintWords Go.Proofs.YtbahnpdgaoedmaaGreatDoorW.PrintLast Go.Proofs.YtbahnpdgaoedmaaGreatDoorW.PrintMore Go.Proofs.YtbahnpdgaoedmaaGreatDoor.PMemoryExact
set_option linter.unusedSimpArgs false
set_option linter.unusedVariables false
theorem nan_any (w : World) (a : ByteArray) : Calls Tryz.prog 97 #[.string a] w fun e w' => e = .returned (.bool false) ∧ w = w' := by
 have hn : (a.toList != a.toList) = false := by simp
 go_enter Tryz.func97, Tryz.ntmps97
 go_wp2
 go_ret
 exact ⟨by simp, rfl⟩
theorem cs_any (w : World) (a b : ByteArray) : Calls Tryz.prog 73 #[.string a, .string b] w fun e w' => e = .returned (.int .i64 (cs a b)) ∧ w = w' := by
 have HC := Lib.hid (show cs a b = if Op.bytesLess a.toList b.toList = true then -1 else if Op.bytesLess b.toList a.toList = true then 1 else 0 from rfl)
 cases h1 : Op.bytesLess a.toList b.toList with
 | true =>
  have HC2 := Lib.hid (HC.out.trans (if_pos h1))
  clear HC
  go_enter Tryz.func73, Tryz.ntmps73
  go_wp2_with fail
  refine (nan_any w a).mono ?_
  rintro e w1 ⟨rfl, rfl⟩
  go_wp2_with fail
  refine (nan_any w b).mono ?_
  rintro e w1 ⟨rfl, rfl⟩
  go_wp2
  go_ret
  rw [HC2.out]
  exact ⟨rfl, rfl⟩
 | false =>
  have HC2 := Lib.hid (HC.out.trans (if_neg (by rw [h1]; decide)))
  clear HC
  have HLE := Lib.hid (show (Op.bytesLess a.toList b.toList || a.toList == b.toList) = !(Op.bytesLess b.toList a.toList) from by
   rw [h1, Bool.false_or]
   cases h2 : Op.bytesLess b.toList a.toList with
   | true =>
    have : ¬ a.toList = b.toList := fun e => by rw [e, bl_irrefl] at h2; cases h2
    simpa using this
   | false =>
    have := bl_tri _ _ h1 h2
    simpa using this)
  have hle := HLE.out
  cases h2 : Op.bytesLess b.toList a.toList with
  | true =>
   have HC3 := Lib.hid (HC2.out.trans (if_pos h2))
   clear HC2
   rw [h2] at hle
   go_enter Tryz.func73, Tryz.ntmps73
   go_wp2_with fail
   refine (nan_any w a).mono ?_
   rintro e w1 ⟨rfl, rfl⟩
   go_wp2_with fail
   refine (nan_any w b).mono ?_
   rintro e w1 ⟨rfl, rfl⟩
   rw [h1, Bool.false_or] at hle
   have hne : (a.toList == b.toList) = false := by simpa using hle
   clear hle
   go_wp2
   go_ret
   rw [HC3.out]
   exact ⟨rfl, rfl⟩
  | false =>
   have HC3 := Lib.hid (HC2.out.trans (if_neg (by rw [h2]; decide)))
   clear HC2
   rw [h2] at hle
   go_enter Tryz.func73, Tryz.ntmps73
   go_wp2_with fail
   refine (nan_any w a).mono ?_
   rintro e w1 ⟨rfl, rfl⟩
   go_wp2_with fail
   refine (nan_any w b).mono ?_
   rintro e w1 ⟨rfl, rfl⟩
   rw [h1, Bool.false_or] at hle
   have hne : (a.toList == b.toList) = true := by simpa using hle
   clear hle
   go_wp2
   go_ret
   rw [HC3.out]
   exact ⟨rfl, rfl⟩
theorem ci_f (a b : Int) : cmp_Compare_int.f a b = some (ci a b) := by
 unfold cmp_Compare_int.f cmp_isNaN_int.f ci
 simp
 split
 ·rfl
 ·split <;> simp_all
/-- w' is w with new blocks, and maybe draws. -/
def Gw (w w' : World) : Prop := Below w.heap.size w w' ∧ w.drawn ≤ w'.drawn
theorem Gw.refl (w : World) : Gw w w := ⟨Below.refl _ _, Nat.le_refl _⟩
theorem Gw.trans {a b c : World} (h : Gw a b) (k : Gw b c) : Gw a c := ⟨below_then h.1 h.1.size k.1, Nat.le_trans h.2 k.2⟩
theorem Gw.alloc {a b : World} (h : Gw a b) (o : Obj) : Gw a (b.alloc o) := ⟨h.1.alloc h.1.size o, h.2⟩
theorem Gw.drew {a b : World} (h : Gw a b) : Gw a b.drew := ⟨Below.drew h.1, Nat.le_succ_of_le h.2⟩
theorem Gw.drawn0 {w w' : World} (h : Drawn0 w w') : Gw w w' := by
 refine ⟨h.below, ?_⟩
 obtain ⟨n, rfl⟩ := h.out
 exact Nat.le_add_right _ _
theorem or_l0 : ∀ (l p : List Int) (k : Nat), l.length < k → p.length + l.length < 1000000 → (∀ x ∈ p, x = 0) → cmp_Or_int.l0 k 0 (p ++ l) ((p ++ l).length : Int) (p.length : Int) = some (l.foldr oi 0)
 | [], p, k + 1, _, h, _ => by
  unfold cmp_Or_int.l0
  rw [if_neg (by simp)]
  rfl
 | x :: l, p, k + 1, hk, h, hp => by
  unfold cmp_Or_int.l0
  have hr : rd (p ++ x :: l) (p.length : Int) = x := by simp [rd]
  have hlt : (p.length : Int) < ((p ++ x :: l).length : Int) := by rw [List.length_append, List.length_cons]; omega
  rw [if_pos hlt, if_pos (by omega), if_pos hlt, hr]
  by_cases h0 : x = 0
  ·subst h0
   have hw : wrap64 ((p.length : Int) + 1) = ((p ++ [0]).length : Int) := by
    unfold wrap64
    simp
    simp at h
    omega
   rw [if_pos rfl, hw, show p ++ (0 : Int) :: l = (p ++ [0]) ++ l by simp]
   rw [or_l0 l (p ++ [0]) k (by simp at hk; omega) (by simp at h ⊢; omega) (fun y hy => by
    rcases List.mem_append.1 hy with hy | hy
    ·exact hp y hy
    ·simpa using hy)]
   simp [oi]
  ·rw [if_neg h0]
   simp [oi, h0]
theorem or_f (l : List Int) (h : l.length < 1000) : cmp_Or_int.f 1001 l = some (l.foldr oi 0) := by
 unfold cmp_Or_int.f
 exact or_l0 l [] 1001 (by omega) (by simp; omega) (by simp)
theorem oi_zero (a : Int) : oi a 0 = a := by unfold oi; split <;> omega
theorem ci_any (w : World) (a b : Int) : Calls Tryz.prog 72 #[.int .i64 a, .int .i64 b] w fun e w' => e = .returned (.int .i64 (ci a b)) ∧ Gw w w' :=
 (cmp_Compare_int.calls a b _ w (ci_f a b)).mono fun e w' ⟨he, hd⟩ => ⟨he, Gw.drawn0 hd⟩
theorem or_any {w : World} {A : Option Addr} {l : List Int} {c : Nat} (h : (Kd.int .i64).C w A l.length l) (hc : l.length ≤ c) (hl : l.length < 1000) : Calls Tryz.prog 71 #[.slice A l.length c] w fun e w' => e = .returned (.int .i64 (l.foldr oi 0)) ∧ Gw w w' :=
 (cmp_Or_int.calls 1001 A c l _ w h hc (or_f l hl)).mono fun e w' ⟨he, hd⟩ => ⟨he, Gw.drawn0 hd⟩
theorem two_box (w : World) (X Y : Array Value) (t : Nat) : ((w.alloc (.cells X t)).alloc (.cells Y t)).heap[w.heap.size]? = some (.cells X t (0, 0)) ∧ ((w.alloc (.cells X t)).alloc (.cells Y t)).heap[w.heap.size + 1]? = some (.cells Y t (0, 0)) ∧ Gw w ((w.alloc (.cells X t)).alloc (.cells Y t)) := by
 have hb1 : Gw w (w.alloc (.cells X t)) := (Gw.refl _).alloc _
 have hs : (w.alloc (.cells X t)).heap.size = w.heap.size + 1 := by show (w.heap.push _).size = _; simp
 refine ⟨?_, ?_, hb1.alloc _⟩
 ·exact (Below.heap_alloc _ _ _ (by rw [hs]; omega)).trans (blk_new w _)
 ·have := blk_new (w.alloc (.cells X t)) (.cells Y t)
  rwa [hs] at this
theorem at_blk {w W : World} {b t : Nat} {X : Array Value} {u : Value} (h : w.heap[b]? = some (.cells X t (0, 0))) (hW : Gw w W) (i : Nat) (hu : X[i]? = some u := by rfl) : W.cell? ⟨b, i, none⟩ = some u := by
 have h1 := blk_cell h i
 rw [hu] at h1
 exact (hW.1.cell (World.block_lt_of_cell? w _ h1)).trans h1
theorem lit_C (w : World) (xs : List Int) (hl : xs.length ≤ 9223372036854775807 := by simp) : (Kd.int .i64).C (w.alloc (.cells (nums .i64 xs).toArray 3)) (some ⟨w.heap.size, 0, none⟩) xs.length xs := by
 have := own_lit w w.heap.size 3 .i64 xs (Nat.le_refl _) hl
 have hR : (Kd.int .i64).R 3 (w.alloc (.cells (nums .i64 xs).toArray 3)) w.heap.size (fun _ => True) (.slice (some ⟨w.heap.size, 0, none⟩) xs.length xs.length) xs := Kd.R_of_own (by simpa [nums, encs] using this) (fun _ _ => trivial)
 exact (Kd.R_reads' hR).2.2
/-- The cells of a reference. -/
def rc (x : S84) : Array Value := #[.int .i64 x.f0, .int .i64 x.f1, .string x.f2]
set_option maxRecDepth 1000000 in
set_option maxHeartbeats 4000000 in
theorem cr_any (w : World) (x y : S84) : Calls Tryz.prog 75 #[.agg (rc x), .agg (rc y)] w fun e w' => e = .returned (.int .i64 (cr x y)) ∧ Gw w w' := by
 have h2 := two_box w (rc x) (rc y) 84
 unfold rc at *
 go_enter Tryz.func75, Tryz.ntmps75
 go_wp2
 obtain ⟨w2, hw2⟩ : ∃ w2, (w.alloc (.cells #[.int .i64 x.f0, .int .i64 x.f1, .string x.f2] 84)).alloc (.cells #[.int .i64 y.f0, .int .i64 y.f1, .string y.f2] 84) = w2 := ⟨_, rfl⟩
 rw [hw2] at h2 ⊢
 obtain ⟨hx, hy, hb⟩ := h2
 have HB := Lib.hid hb
 have HK := Lib.hid (show ∀ W, Gw w2 W → W.cell? ⟨w.heap.size, 0, none⟩ = some (.int .i64 x.f0) ∧ W.cell? ⟨w.heap.size, 1, none⟩ = some (.int .i64 x.f1) ∧ W.cell? ⟨w.heap.size, 2, none⟩ = some (.string x.f2) ∧ W.cell? ⟨w.heap.size + 1, 0, none⟩ = some (.int .i64 y.f0) ∧ W.cell? ⟨w.heap.size + 1, 1, none⟩ = some (.int .i64 y.f1) ∧ W.cell? ⟨w.heap.size + 1, 2, none⟩ = some (.string y.f2) from fun W hW =>
  ⟨at_blk hx hW 0, at_blk hx hW 1, at_blk hx hW 2, at_blk hy hW 0, at_blk hy hW 1, at_blk hy hW 2⟩)
 clear hx hy hb hw2
 refine start_ (n := 18) (S := fun w' => Gw w2 w') (ds := []) #[false, false, false, false, false, false, false, false, false, false, false, false, false, false, false, false, false, false] (by kernel_rfl) rfl rfl (Gw.drew (Gw.refl _)) (fun hHeld => ?_)
 generalize w2.drew = w3 at hHeld ⊢
 refine pure_ (i := 0) (N := (some 5)) (v := ?_) (a' := ?_) #[true, false, false, false, false, false, false, false, false, false, false, false, false, false, false, false, false, false] rfl rfl (by kernel_rfl) (fun _ _ _ h => h) (Or.inl ⟨by rfl, ?_⟩) ?_ ?_
 rotate_left
 ·intro w'
  go_simp
  with_reducible rfl
 rotate_left
 ·simp only [Act.put, List.setIfInBounds_toArray, List.set_cons_zero, List.set_cons_succ]
  rfl
 refine take_ (i := 1) (N := (some 6)) (v := ?_) (a' := ?_) #[true, true, false, false, false, false, false, false, false, false, false, false, false, false, false, false, false, false] rfl rfl (by kernel_rfl) (fun _ _ _ h => h) (Or.inl ⟨by rfl, ?_⟩) hHeld ?_ ?_
 rotate_left
 ·rintro w' s0
  obtain ⟨k0, k1, k2, k3, k4, k5⟩ := HK.out _ s0
  go_simp
  with_reducible rfl
 rotate_left
 ·simp only [Act.put, List.setIfInBounds_toArray, List.set_cons_zero, List.set_cons_succ]
  rfl
 refine pure_ (i := 2) (N := (some 7)) (v := ?_) (a' := ?_) #[true, true, true, false, false, false, false, false, false, false, false, false, false, false, false, false, false, false] rfl rfl (by kernel_rfl) (fun _ _ _ h => h) (Or.inl ⟨by rfl, ?_⟩) ?_ ?_
 rotate_left
 ·intro w'
  go_simp
  with_reducible rfl
 rotate_left
 ·simp only [Act.put, List.setIfInBounds_toArray, List.set_cons_zero, List.set_cons_succ]
  rfl
 refine take_ (i := 3) (N := (some 8)) (v := ?_) (a' := ?_) #[true, true, true, true, false, false, false, false, false, false, false, false, false, false, false, false, false, false] rfl rfl (by kernel_rfl) (fun _ _ _ h => h) (Or.inl ⟨by rfl, ?_⟩) hHeld ?_ ?_
 rotate_left
 ·rintro w' s0
  obtain ⟨k0, k1, k2, k3, k4, k5⟩ := HK.out _ s0
  go_simp
  with_reducible rfl
 rotate_left
 ·simp only [Act.put, List.setIfInBounds_toArray, List.set_cons_zero, List.set_cons_succ]
  rfl
 refine pure_ (i := 5) (N := (some 10)) (v := ?_) (a' := ?_) #[true, true, true, true, false, true, false, false, false, false, false, false, false, false, false, false, false, false] rfl rfl (by kernel_rfl) (fun _ _ _ h => h) (Or.inl ⟨by rfl, ?_⟩) ?_ ?_
 rotate_left
 ·intro w'
  go_simp
  with_reducible rfl
 rotate_left
 ·simp only [Act.put, List.setIfInBounds_toArray, List.set_cons_zero, List.set_cons_succ]
  rfl
 refine take_ (i := 6) (N := (some 11)) (v := ?_) (a' := ?_) #[true, true, true, true, false, true, true, false, false, false, false, false, false, false, false, false, false, false] rfl rfl (by kernel_rfl) (fun _ _ _ h => h) (Or.inl ⟨by rfl, ?_⟩) hHeld ?_ ?_
 rotate_left
 ·rintro w' s0
  obtain ⟨k0, k1, k2, k3, k4, k5⟩ := HK.out _ s0
  go_simp
  with_reducible rfl
 rotate_left
 ·simp only [Act.put, List.setIfInBounds_toArray, List.set_cons_zero, List.set_cons_succ]
  rfl
 refine pure_ (i := 7) (N := (some 12)) (v := ?_) (a' := ?_) #[true, true, true, true, false, true, true, true, false, false, false, false, false, false, false, false, false, false] rfl rfl (by kernel_rfl) (fun _ _ _ h => h) (Or.inl ⟨by rfl, ?_⟩) ?_ ?_
 rotate_left
 ·intro w'
  go_simp
  with_reducible rfl
 rotate_left
 ·simp only [Act.put, List.setIfInBounds_toArray, List.set_cons_zero, List.set_cons_succ]
  rfl
 refine take_ (i := 8) (N := (some 13)) (v := ?_) (a' := ?_) #[true, true, true, true, false, true, true, true, true, false, false, false, false, false, false, false, false, false] rfl rfl (by kernel_rfl) (fun _ _ _ h => h) (Or.inl ⟨by rfl, ?_⟩) hHeld ?_ ?_
 rotate_left
 ·rintro w' s0
  obtain ⟨k0, k1, k2, k3, k4, k5⟩ := HK.out _ s0
  go_simp
  with_reducible rfl
 rotate_left
 ·simp only [Act.put, List.setIfInBounds_toArray, List.set_cons_zero, List.set_cons_succ]
  rfl
 refine pure_ (i := 10) (N := (some 15)) (v := ?_) (a' := ?_) #[true, true, true, true, false, true, true, true, true, false, true, false, false, false, false, false, false, false] rfl rfl (by kernel_rfl) (fun _ _ _ h => h) (Or.inl ⟨by rfl, ?_⟩) ?_ ?_
 rotate_left
 ·intro w'
  go_simp
  with_reducible rfl
 rotate_left
 ·simp only [Act.put, List.setIfInBounds_toArray, List.set_cons_zero, List.set_cons_succ]
  rfl
 refine take_ (i := 11) (N := (some 16)) (v := ?_) (a' := ?_) #[true, true, true, true, false, true, true, true, true, false, true, true, false, false, false, false, false, false] rfl rfl (by kernel_rfl) (fun _ _ _ h => h) (Or.inl ⟨by rfl, ?_⟩) hHeld ?_ ?_
 rotate_left
 ·rintro w' s0
  obtain ⟨k0, k1, k2, k3, k4, k5⟩ := HK.out _ s0
  go_simp
  with_reducible rfl
 rotate_left
 ·simp only [Act.put, List.setIfInBounds_toArray, List.set_cons_zero, List.set_cons_succ]
  rfl
 refine pure_ (i := 12) (N := (some 17)) (v := ?_) (a' := ?_) #[true, true, true, true, false, true, true, true, true, false, true, true, true, false, false, false, false, false] rfl rfl (by kernel_rfl) (fun _ _ _ h => h) (Or.inl ⟨by rfl, ?_⟩) ?_ ?_
 rotate_left
 ·intro w'
  go_simp
  with_reducible rfl
 rotate_left
 ·simp only [Act.put, List.setIfInBounds_toArray, List.set_cons_zero, List.set_cons_succ]
  rfl
 refine take_ (i := 13) (N := (some 18)) (v := ?_) (a' := ?_) #[true, true, true, true, false, true, true, true, true, false, true, true, true, true, false, false, false, false] rfl rfl (by kernel_rfl) (fun _ _ _ h => h) (Or.inl ⟨by rfl, ?_⟩) hHeld ?_ ?_
 rotate_left
 ·rintro w' s0
  obtain ⟨k0, k1, k2, k3, k4, k5⟩ := HK.out _ s0
  go_simp
  with_reducible rfl
 rotate_left
 ·simp only [Act.put, List.setIfInBounds_toArray, List.set_cons_zero, List.set_cons_succ]
  rfl
 refine one_ (i := 4) (N := (some 9)) #[true, true, true, true, true, true, true, true, true, false, true, true, true, true, false, false, false, false] rfl rfl (by kernel_rfl) (by decide) (fun K hK => ?_)
 go_simp
 refine (ci_any w3 x.f0 y.f0).mono ?_
 rintro e w4 ⟨rfl, hb4⟩
 refine hK.out _ _ (Gw.trans hHeld hb4) (fun hHeld => ?_)
 clear hK K
 (try simp only [Act.put, List.setIfInBounds_toArray, List.set_cons_zero, List.set_cons_succ])
 refine one_ (i := 9) (N := (some 14)) #[true, true, true, true, true, true, true, true, true, true, true, true, true, true, false, false, false, false] rfl rfl (by kernel_rfl) (by decide) (fun K hK => ?_)
 go_simp
 refine (ci_any w4 x.f1 y.f1).mono ?_
 rintro e w5 ⟨rfl, hb5⟩
 refine hK.out _ _ (Gw.trans hHeld hb5) (fun hHeld => ?_)
 clear hK K
 (try simp only [Act.put, List.setIfInBounds_toArray, List.set_cons_zero, List.set_cons_succ])
 refine one_ (i := 14) (N := (some 19)) #[true, true, true, true, true, true, true, true, true, true, true, true, true, true, true, false, false, false] rfl rfl (by kernel_rfl) (by decide) (fun K hK => ?_)
 go_simp
 refine (cs_any w5 x.f2 y.f2).mono ?_
 rintro e w6 ⟨rfl, rfl⟩
 refine hK.out _ _ hHeld (fun hHeld => ?_)
 clear hK K
 (try simp only [Act.put, List.setIfInBounds_toArray, List.set_cons_zero, List.set_cons_succ])
 refine one_ (i := 15) (N := (some 20)) #[true, true, true, true, true, true, true, true, true, true, true, true, true, true, true, true, false, false] rfl rfl (by kernel_rfl) (by decide) (fun K hK => ?_)
 go_simp
 refine hK.out _ _ (Gw.alloc hHeld _) (fun hHeld => ?_)
 clear hK K
 (try simp only [Act.put, List.setIfInBounds_toArray, List.set_cons_zero, List.set_cons_succ])
 refine one_ (i := 16) (N := (some 21)) #[true, true, true, true, true, true, true, true, true, true, true, true, true, true, true, true, true, false] rfl rfl (by kernel_rfl) (by decide) (fun K hK => ?_)
 have hor := or_any (lit_C w5 [ci x.f0 y.f0, ci x.f1 y.f1, cs x.f2 y.f2]) (c := 3) (Nat.le_refl _) (by simp)
 go_simp
 refine hor.mono ?_
 rintro e w7 ⟨rfl, hb7⟩
 refine hK.out _ _ (Gw.trans hHeld hb7) (fun hHeld => ?_)
 clear hK K
 (try simp only [Act.put, List.setIfInBounds_toArray, List.set_cons_zero, List.set_cons_succ])
 refine pure_ (i := 17) (N := (some 4)) (v := ?_) (a' := ?_) #[true, true, true, true, true, true, true, true, true, true, true, true, true, true, true, true, true, true] rfl rfl (by kernel_rfl) (fun _ _ _ h => h) (Or.inl ⟨by rfl, ?_⟩) ?_ ?_
 rotate_left
 ·intro w'
  go_simp
  with_reducible rfl
 rotate_left
 ·simp only [Act.put, List.setIfInBounds_toArray, List.set_cons_zero, List.set_cons_succ]
  rfl
 refine done_ (by kernel_rfl) ?_
 have HS := Lib.hid hHeld
 clear hHeld
 go_wp2
 go_ret
 refine ⟨?_, Gw.trans HB.out HS.out⟩
 simp only [List.foldr, oi_zero]
 rfl
theorem cl_drop {α : Type} (c : α → α → Int) {a b : List α} {i : Nat} (h : i < a.length) (k : i < b.length) : cl c (a.drop i) (b.drop i) = oi (c a[i] b[i]) (cl c (a.drop (i + 1)) (b.drop (i + 1))) := by
 rw [List.drop_eq_getElem_cons h, List.drop_eq_getElem_cons k]
 rfl
theorem cl_long {α : Type} (c : α → α → Int) {a b : List α} {i : Nat} (h : i < a.length) (k : ¬ i < b.length) : cl c (a.drop i) (b.drop i) = 1 := by
 have hb : b.drop i = [] := List.drop_eq_nil_of_le (by omega)
 rw [hb, List.drop_eq_getElem_cons h]
 rfl
theorem cl_end {α : Type} (c : α → α → Int) {a b : List α} {i : Nat} (h : i = a.length) (k : i ≤ b.length) : cl c (a.drop i) (b.drop i) = if a.length < b.length then -1 else 0 := by
 subst h
 rw [List.drop_length]
 by_cases hlt : a.length < b.length
 ·rw [if_pos hlt, List.drop_eq_getElem_cons hlt]; rfl
 ·rw [if_neg hlt, List.drop_eq_nil_of_le (by omega)]; rfl
def CfRel {α : Type} (c : α → α → Int) (a b : List α) (w : World) (v13 : Value) (wr : World) : Prop :=
 ∃ i : Nat, v13 = .int .i64 i ∧ i ≤ a.length ∧ i ≤ b.length ∧ cl c a b = cl c (a.drop i) (b.drop i) ∧ Gw w wr
theorem ref_at {w : World} {A : Option Addr} {l : List S84} (h : k84.C w A l.length l) (i : Nat) (hi : i < l.length) :
  ∃ ad, A = some ad ∧ w.cell? (ad.add (i * 3)) = some (.int .i64 l[i].f0) ∧ w.cell? ⟨(ad.add (i * 3)).block, (ad.add (i * 3)).off + 1, none⟩ = some (.int .i64 l[i].f1) ∧ w.cell? ⟨(ad.add (i * 3)).block, (ad.add (i * 3)).off + 2, none⟩ = some (.string l[i].f2) := by
 obtain ⟨ad, e, h0, h1, h2⟩ := at_T84 h (i : Int) (by omega) (by omega)
 rw [Int.toNat_natCast] at h0 h1 h2
 have hr : rd_T84 l (i : Int) = l[i] := by simp [rd_T84, hi]
 rw [hr] at h0 h1 h2
 exact ⟨ad, e, h0, h1, h2⟩
set_option maxRecDepth 1000000 in
set_option maxHeartbeats 4000000 in
theorem clr_any {w : World} {A B : Option Addr} {a b : List S84} {c d : Nat} (ha : k84.C w A a.length a) (hb : k84.C w B b.length b) (f : Value) (hf : f = .func (.func 75) #[] #[]) :
  Calls Tryz.prog 74 #[.slice A a.length c, .slice B b.length d, f] w fun e w' => e = .returned (.int .i64 (cl cr a b)) ∧ Gw w w' := by
 subst hf
 have HA := Lib.hid ha
 have HB := Lib.hid hb
 have hma : a.length ≤ 9223372036854775807 := ha.2.1
 have hmb : b.length ≤ 9223372036854775807 := hb.2.1
 clear ha hb
 go_enter Tryz.func74, Tryz.ntmps74
 go_wp2
 go_loopw [13] (fun v13 wr => CfRel cr a b w v13 wr) (fun v13 _ => a.length - (intOf v13).toNat)
 case atStart => exact ⟨0, rfl, Nat.zero_le _, Nat.zero_le _, rfl, Gw.refl _⟩
 case round =>
  obtain ⟨i, rfl, hia, hib, hcl, hbw⟩ := hrel
  have HCL := Lib.hid hcl
  have HW := Lib.hid hbw
  clear hcl hbw
  by_cases hlt : i < a.length
  ·have hi0 : 0 ≤ (i : Int) := by omega
   have hi1 : (i : Int) < (a.length : Int) := by omega
   obtain ⟨ad, e1, q0, q1, q2⟩ := ref_at (Kd.C_below HA.out HW.out.1) i hlt
   subst e1
   by_cases hlb : i < b.length
   ·have hj1 : (i : Int) < (b.length : Int) := by omega
    have gb : decide ((b.length : Int) ≤ (i : Int)) = false := decide_eq_false (by omega)
    have gbn : decide (b.length ≤ i) = false := decide_eq_false (by omega)
    have hal := (Gw.refl wr).alloc (.cells #[.int .i64 a[i].f0, .int .i64 a[i].f1, .string a[i].f2] 84)
    obtain ⟨bd, e2, p0, p1, p2⟩ := ref_at (Kd.C_below (Kd.C_below HB.out HW.out.1) hal.1) i hlb
    subst e2
    have HCD := Lib.hid (cl_drop cr hlt hlb)
    have HS := Lib.hid hal
    clear hal
    go_wp2_with fail
    refine (cr_any _ a[i] b[i]).mono ?_
    rintro e w5 ⟨rfl, hb5⟩
    have HS2 := Lib.hid (HS.out.alloc (.cells #[.int .i64 b[i].f0, .int .i64 b[i].f1, .string b[i].f2] 84))
    have HW5 := Lib.hid (Gw.trans HW.out (Gw.trans HS2.out hb5))
    clear hb5
    obtain ⟨r, hr⟩ : ∃ r, cr a[i] b[i] = r := ⟨_, rfl⟩
    rw [hr] at HCD ⊢
    clear hr q0 q1 q2 p0 p1 p2
    by_cases h0 : r = 0
    ·have HC2 := Lib.hid (show cl cr a b = cl cr (a.drop (i + 1)) (b.drop (i + 1)) by rw [HCL.out, HCD.out, h0]; rfl)
     clear HCL HCD
     subst h0
     go_wp2
     go_roundw
     case rel => exact ⟨i + 1, by go_num, hlt, hlb, HC2.out, HW5.out⟩
     case measure => simp [intOf]; omega
    ·have HC2 := Lib.hid (show cl cr a b = r by rw [HCL.out, HCD.out]; unfold oi; rw [if_neg h0])
     have g0 : (r != 0) = true := by simpa using h0
     clear HCL HCD
     go_wp2
     go_ret
     rw [HC2.out]
     exact ⟨rfl, HW5.out⟩
   ·have gb : decide ((b.length : Int) ≤ (i : Int)) = true := decide_eq_true (by omega)
    have gbn : decide (b.length ≤ i) = true := decide_eq_true (by omega)
    have HC2 := Lib.hid (HCL.out.trans (cl_long cr hlt hlb))
    have HS := Lib.hid ((Gw.refl wr).alloc (.cells #[.int .i64 a[i].f0, .int .i64 a[i].f1, .string a[i].f2] 84))
    clear HCL
    go_wp2
    go_ret
    rw [HC2.out]
    exact ⟨rfl, Gw.trans HW.out HS.out⟩
  ·have HC2 := Lib.hid (HCL.out.trans (cl_end cr (by omega) hib))
   have g14 : decide ((i : Int) < (a.length : Int)) = false := decide_eq_false (by omega)
   clear HCL
   by_cases hab : a.length < b.length
   ·have HC3 := Lib.hid (HC2.out.trans (if_pos hab))
    have g38 : decide ((a.length : Int) < (b.length : Int)) = true := decide_eq_true (by omega)
    clear HC2
    go_wp2
    go_ret
    rw [HC3.out]
    exact ⟨rfl, HW.out⟩
   ·have HC3 := Lib.hid (HC2.out.trans (if_neg hab))
    have g38 : decide ((a.length : Int) < (b.length : Int)) = false := decide_eq_false (by omega)
    clear HC2
    go_wp2
    go_ret
    rw [HC3.out]
    exact ⟨rfl, HW.out⟩
end Go.Proofs.YtbahnpdgaoedmaaGreatDoor.Mm
