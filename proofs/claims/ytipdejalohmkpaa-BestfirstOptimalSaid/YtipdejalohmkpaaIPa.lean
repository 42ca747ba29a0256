/- The states of an entry's path, from the start on. -/
import Derived.Test.YtipdejalohmkpaaISc
import Derived.Test.YtipdejalohmkpaaRv
import Derived.Test.YtipdejalohmkpaaPBestfirstDistancesx1
import Derived.Deep.LoopGhost
namespace Go.Proofs.Ytipdejalohmkpaa.I
open Go.RowKit Hp Go.Proofs.YtipdejalohmkpaaW.PrintWords Go.Proofs.YtipdejalohmkpaaW.PrintLast

theorem rev_f (xs : List ST) (hx : xs.length < 1000000000) : PBestfirstDistances.slices_Reverse_int_int.f (xs.length + 1) xs = some xs.reverse :=
  Gr.rev_all 0 PBestfirstDistances.slices_Reverse_int_int.l0 (fun k x i j => rfl) xs hx
def PaRel (w : World) (rp : List ST) (n : Nat) (a v : Value) (wr : World) : Prop :=
  ∃ (d r : List ST) (ad : Option Addr), a = .pointer ad ∧ rp = d ++ r ∧ r.length = n ∧ EPath w r ad ∧ (Kd.int .i64).R 3 wr w.heap.size (fun _ => True) v d ∧ Below w.heap.size w wr
theorem app_len {α : Type} {rp d r : List α} (h : rp = d ++ r) : d.length ≤ rp.length := by rw [h]; simp
theorem path_cell {w w1 : World} {e : Nat} {dd : EntD} {v u : Value} {d : List ST} {B : Nat} (hc : w.cell? ⟨e, 1, none⟩ = some v) (hw : EntAt w e dd) (hg : w.grownBy w1 u.ownBlock) (hr : (Kd.int .i64).R 3 w B (fun _ => True) u d) : w1.cell? ⟨e, 1, none⟩ = some v := by
  refine (World.cell?_of_block (hg.block e hw.lt ?_)).trans hc
  intro hk
  obtain ⟨inner, ho⟩ := Kd.R_own hr
  obtain ⟨cells, hcl⟩ := own_typed ho e hk.symm
  unfold EntAt at hw
  rw [hcl] at hw
  injection hw with hw
  injection hw with _ ht
  exact absurd ht (by decide)
set_option maxHeartbeats 1000000 in
theorem path_any (w : World) (rp : List ST) (a : Option Addr) (hp : EPath w rp a) (hl : rp.length < 1000000000) :
    Calls Try.prog 36 #[.pointer a] w fun e w' => ∃ v : Value, e = .returned v ∧ (Kd.int .i64).R 3 w' w.heap.size (fun _ => True) v rp.reverse ∧ Below w.heap.size w w' := by
  have HR : PaRel w rp rp.length (.pointer a) (.slice none 0 0) w := ⟨[], rp, a, rfl, rfl, rfl, hp, Kd.R_nil _ _ _ _ _, Below.refl _ _⟩
  clear hp
  go_enter Try.func36, Try.ntmps36
  go_wp2
  go_loopg [0, 3] rp.length (fun n a v wr => PaRel w rp n a v wr)
  case atStart => exact HR
  case round =>
    clear HR
    obtain ⟨d, r, ad, rfl, hd, hr, hpath, hv, hb⟩ := hrel
    have HD := Lib.hid hd
    have HV := Lib.hid hv
    have HB := Lib.hid hb
    have hdl := app_len hd
    clear hd hv hb
    cases r with
    | nil =>
      have h1 : ad = none := hpath
      subst h1
      have HC := Lib.hid (PBestfirstDistances.slices_Reverse_int_int.calls (rp.length + 1) (fun _ => True) _ rp rp.reverse w wr HB.out (by have := HV.out; rw [show d = rp from by rw [HD.out]; simp] at this; exact this) (rev_f rp hl))
      clear hpath hr
      go_wp2_with (go_at_call 44; refine HC.out.mono ?_; rintro e w2 ⟨rfl, hr2, hb2, _⟩; have HR2 := Lib.hid hr2; have HB2 := Lib.hid hb2; clear hr2 hb2)
      go_ret
      exact ⟨_, rfl, Kd.R_mono HR2.out (fun _ _ => trivial), HB2.out⟩
    | cons s r =>
      obtain ⟨e, dd, h1, h2, h3, h4⟩ := hpath
      subst h1
      have hw := EK.below HB.out e dd h2
      have hc0 := hw.c0
      have hc1 := hw.c1
      rw [h3] at hc0
      simp only [stV] at hc0
      obtain ⟨bf, hbf⟩ : ∃ bf, dd.bf = bf := ⟨_, rfl⟩
      rw [hbf] at hc1 h4
      have H4 := Lib.hid h4
      have HW := Lib.hid hw
      clear hw h2 h3 h4 hbf
      have HRN := Lib.hid hr
      clear hr
      go_wp2_with (first | (at_builtin; refine Kd.R_append (Kd.int .i64) (w0 := w) w.heap.size rfl (.tmp 10) (.tmp 15) 24 3 (.int .i64 0) 8 rfl Try.underlying24 info_st rfl (by decide) (by decide) _ d s [Value.int .i64 s] (fun _ => True) (fun _ => False) rfl rfl rfl (fun _ h => h.elim) (fun _ _ => trivial) HV.out HB.out HB.out.size (by omega) ?_; intro v1 w1 hR1 hB1 hg1 _; have HP : PaRel w rp r.length (.pointer bf) v1 w1 := ⟨d ++ [s], r, bf, rfl, by rw [HD.out]; simp, rfl, H4.out, hR1, hB1⟩; have hc1' : w1.cell? ⟨e, 1, none⟩ = some (.pointer bf) := path_cell hc1 HW.out hg1 HV.out; clear hR1 hB1 hg1) | fail)
      go_roundg r.length
      case measure => have := HRN.out; simp at this; omega
      case rel => exact HP
end Go.Proofs.Ytipdejalohmkpaa.I
