/- Part 2 of the proof of JournalDoes: Jf, Jg, Jh, Rd, Ji. -/
import Derived.Test.YtiacjbandhedhaaBJournalDoes1
import Derived.Deep.QuietTactic
import Derived.BigQuiet
import Derived.Outline
import Derived.Test.YtiacjbandhedhaaWMore
import Derived.ChangeArms
import Derived.DataReads
import Derived.ChangeSame
import Derived.Deep.Strs
import Derived.ProofKit
import Derived.SizedLaws
import Derived.Lib.SmallJoins
/- The program's device: Write, Sync, Truncate, Crash, Fail, Down, Bytes, NewDevice. -/
namespace Go.Proofs.Ytiacjbandhedhaa.Jn
open Go.RowKit Go.Proofs.YtiacjbandhedhaaW.PrintWords Go.Proofs.YtiacjbandhedhaaW.PrintLast Go.Proofs.YtiacjbandhedhaaW.PrintMore
attribute [local go_sem] max2_int min2_int max_two min_two
set_option linter.unusedSimpArgs false
set_option linter.unusedVariables false

theorem cell_chg {w w' : World} {S : Nat → Prop} {p : Addr} {u : Value} (h : w.cell? p = some u) (hc : Chg w w' S) (hn : ¬ S p.block) : w'.cell? p = some u := by
  have hb := hc.block p.block (World.block_lt_of_cell? w p h) hn
  unfold World.cell? at h ⊢
  rw [hb]
  exact h
theorem add_block (ad : Addr) (k : Nat) : (ad.add k).block = ad.block := by unfold Addr.add; split <;> rfl
theorem BC.chg {w w' : World} {S : Nat → Prop} {A : Option Addr} {b : List UInt8} (h : BC w A b) (hc : Chg w w' S) (hn : ∀ ad, A = some ad → 0 < b.length → ¬ S ad.block) : BC w' A b := by
  refine ⟨h.1, h.2.1, fun hp => ?_⟩
  obtain ⟨ad, e, hj⟩ := h.2.2 hp
  refine ⟨ad, e, fun j p hjp => ?_⟩
  obtain ⟨c, h1, h2, h3⟩ := hj j p hjp
  exact ⟨c, h1, h2, fun i u hu => cell_chg (h3 i u hu) hc (by rw [add_block]; exact hn ad e hp)⟩
theorem info5b : (Try.prog.info? 5).map (fun i => (i.zero, i.size, i.bytes)) = some (some (.int .u8 0), 1, 1) := by kernel_rfl
theorem bo_of_R {w : World} {base : Nat} {ok : Nat → Prop} {v : Value} {a b : List UInt8} (h : (Kd.int .u8).R 5 w base ok v (ib a ++ ib b)) : BO w base v (a ++ b) := by
  have := Kd.own_of_R h
  rw [← ib_append, encs_ib, ib_length] at this
  exact this
/-- Bytes that are apart from a device. -/
def Far (A : Option Addr) (b : List UInt8) (g : Nat) : Prop := ∀ ad, A = some ad → 0 < b.length → ad.block ≠ g

set_option maxRecDepth 1000000 in
set_option maxHeartbeats 4000000 in
theorem write_any {w : World} {base g : Nat} {v : Value} {d : Dv} {A : Option Addr} {b : List UInt8} {c : Nat} (h : DAt 65 w base g v d) (hC : BC w A b) (hc : b.length ≤ c) (hb : b.length < 1000000000) (hf : Far A b g) (hbase : base ≤ w.heap.size) :
    Calls Try.prog 22 #[.pointer (some ⟨g, 0, none⟩), .slice A b.length c] w (DRes 65 base g v w (d.write b).1 (d.write b).2) := by
  have H := Lib.hid h
  obtain ⟨a0, a1, a2, a3, a4⟩ := h.cells
  obtain ⟨Av, cv, hv, hlv, hCv⟩ := h.row.reads
  have hok := h.ok
  unfold Dv.ok at hok
  have HD := Lib.hid (show d.write b = if d.off = true then (13, d) else if d.size - d.data.length < b.length then (12, d) else if d.op.1 = true then (0, { d.op.2 with data := d.data ++ b }) else (13, d.op.2) from rfl)
  have HOK := Lib.hid (Dv.write_ok h.ok b)
  clear h hCv
  cases hoff : d.off with
  | true =>
    have HD2 := Lib.hid (HD.out.trans (if_pos hoff))
    rw [hoff] at a3
    rw [HD2.out]
    clear HD HD2 hoff hv
    go_enter Try.func22, Try.ntmps22
    go_wp2
    go_ret
    exact ⟨rfl, DPost.refl H.out⟩
  | false =>
    have HD2 := Lib.hid (HD.out.trans (if_neg (by simp [hoff])))
    rw [hoff] at a3
    have HV := Lib.hid hv
    rw [hv] at a1
    clear HD hoff hv
    by_cases hfull : d.size - d.data.length < b.length
    · have HD3 := Lib.hid (HD2.out.trans (if_pos hfull))
      rw [HD3.out]
      have g1 : decide ((d.size : Int) - (d.data.length : Int) < (b.length : Int)) = true := decide_eq_true (by omega)
      have hwr : IntKind.i64.wrap ((d.size : Int) - (d.data.length : Int)) = (d.size : Int) - (d.data.length : Int) := i64w (by omega) (by omega)
      clear HD2 HD3 hfull
      go_enter Try.func22, Try.ntmps22
      go_wp2
      go_quiet (fail)
      go_wp2
      go_ret
      exact ⟨rfl, H.out |>.below (pw_below_drewN (Below.refl _ _) _) |> fun h => ⟨v, h, Chg.of_below (pw_below_drewN (Below.refl _ _) _) _, .inl rfl⟩⟩
    · have HD3 := Lib.hid (HD2.out.trans (if_neg hfull))
      have g1 : decide ((d.size : Int) - (d.data.length : Int) < (b.length : Int)) = false := decide_eq_false (by omega)
      have hwr : IntKind.i64.wrap ((d.size : Int) - (d.data.length : Int)) = (d.size : Int) - (d.data.length : Int) := i64w (by omega) (by omega)
      clear HD2 hfull
      go_enter Try.func22, Try.ntmps22
      go_wp2
      go_quiet (fail)
      clear g1 hwr
      go_wp2_with fail
      have HBq := Lib.hid (pw_below_drewN (Below.refl w.heap.size w) nq)
      have HCq := Lib.hid (show BC (w.drewN nq) A b from hC.below HBq.out)
      refine (op_any (H.out.below HBq.out)).mono ?_
      rintro e w2 ⟨rfl, ha2, hc2⟩
      have HC2 := Lib.hid ((hC.below HBq.out).chg hc2 (fun ad e hp hS => hf ad e hp hS))
      have HCH := Lib.hid ((Chg.of_below HBq.out (Ft g v)).trans (hc2.mono (S' := Ft g v) (fun _ _ e => .inl e)) (fun _ _ e => e))
      have HA2 := Lib.hid ha2
      clear a0 a1 a2 a3 a4 hc2 hC HCq
      cases hop : d.op.1 with
      | false =>
        have HD4 := Lib.hid (HD3.out.trans (if_neg (by simp [hop])))
        clear HD3 hop ha2
        go_wp2
        go_ret
        rw [HD4.out]
        exact ⟨rfl, v, HA2.out, HCH.out, .inl rfl⟩
      | true =>
        have HD4 := Lib.hid (HD3.out.trans (if_pos hop))
        rw [HD4.out] at HOK
        obtain ⟨s1, s2, s3⟩ := d.op_same
        have HS := Lib.hid s2
        clear HD3 hop s1 s2 s3
        obtain ⟨a0, a1, a2, a3, a4⟩ := ha2.cells
        have f1 := ha2.frozen 1
        have HNE := Lib.hid (ha2.ne (by decide))
        have HR2 := Lib.hid (ha2.row.R (fun _ => True) (fun _ _ => trivial))
        have HB2 := Lib.hid (Nat.le_trans hbase HCH.out.size)
        have HL2 := Lib.hid (show (ib d.op.2.data).length + b.length ≤ 2000000000 by rw [ib_length, HS.out]; omega)
        rw [HV.out] at a1 HR2
        clear ha2
        go_wp2_with (first | (at_builtin; refine Kd.R_append_row (Value.int .u8) 0 (w0 := w2) base rfl (.tmp 34) (.tmp 35) 22 5 _ 1 rfl Try.underlying22 info5b rfl (by decide) (.slice Av d.data.length cv) (ib d.op.2.data) (ib b) A b.length c (fun _ => True) rfl rfl (fun _ _ => trivial) HR2.out HC2.out (Below.refl base w2) HB2.out (by have := HL2.out; omega) ?_; intro v9 w9 hr9 hb9 hg9 hat9; obtain ⟨A9, c9, hv9⟩ := Kd.R_slice hr9; generalize hm9 : (ib d.op.2.data ++ ib b).length = m9 at hv9; subst hv9; clear hm9; have HR9 := Lib.hid hr9; have HG9 := Lib.hid hg9; have HAT9 := Lib.hid hat9; have hk9 := (hg9.block g HA2.out.lt (fun e => HNE.out (by rw [HV.out]; exact e.symm))).trans HA2.out.blk; have HK9 := Lib.hid hk9; have a1' := blk_cell hk9 1; have f1' := blk_frozen hk9 1; simp only [List.getElem?_toArray, List.getElem?_cons_succ, List.getElem?_cons_zero] at a1'; clear hk9 hr9 hb9 hg9 hat9 a0 a1 a2 a3 a4 f1))
        go_ret
        rw [HD4.out]
        have hb9 := bo_of_R HR9.out
        have hblk := blk_set HK9.out 1 (.slice A9 m9 c9)
        have hcg := chg_set w9 g 1 (.slice A9 m9 c9)
        have hne : ∀ k, (Value.slice A9 m9 c9).ownBlock = some k → ¬ k = g := by
          intro k hk e
          subst e
          rcases HAT9.out with h1 | ⟨b1, h1, h2⟩
          · exact HNE.out (by rw [HV.out, ← h1, hk])
          · rw [hk] at h1
            injection h1 with h1
            have := HA2.out.lt
            omega
        refine ⟨rfl, .slice A9 m9 c9, ⟨by simpa using hblk, ?_, H.out.hb, HOK.out⟩, ?_, ?_⟩
        · show BO _ base _ (d.data ++ b)
          rw [← HS.out]
          exact hb9.chg hcg hne
        · have h1 := Chg.of_grown HG9.out (S := Ft g v) (fun k hk => .inr (by rw [HV.out]; exact hk))
          exact HCH.out.trans (h1.trans (hcg.mono (S' := Ft g v) (fun _ _ e => .inl e)) (fun _ _ e => e)) (fun _ _ e => e)
        · rcases HAT9.out with h1 | ⟨b1, h1, h2⟩
          · exact .inl (by rw [HV.out]; exact h1)
          · exact .inr ⟨b1, h1, Nat.le_trans HCH.out.size h2⟩
set_option maxRecDepth 1000000 in
set_option maxHeartbeats 4000000 in
theorem sync_any {w : World} {base g : Nat} {v : Value} {d : Dv} (h : DAt 65 w base g v d) :
    Calls Try.prog 23 #[.pointer (some ⟨g, 0, none⟩)] w (DRes 65 base g v w d.sync.1 d.sync.2) := by
  have H := Lib.hid h
  obtain ⟨a0, a1, a2, a3, a4⟩ := h.cells
  obtain ⟨Av, cv, hv, hlv, hCv⟩ := h.row.reads
  have HD := Lib.hid (show d.sync = if d.off = true then (13, d) else if d.op.1 = true then (0, { d.op.2 with safe := d.data.length }) else (13, d.op.2) from rfl)
  have HOK := Lib.hid (Dv.sync_ok h.ok)
  clear h hCv
  cases hoff : d.off with
  | true =>
    have HD2 := Lib.hid (HD.out.trans (if_pos hoff))
    rw [hoff] at a3
    clear HD hoff hv
    go_enter Try.func23, Try.ntmps23
    go_wp2
    go_ret
    rw [HD2.out]
    exact ⟨rfl, DPost.refl H.out⟩
  | false =>
    have HD2 := Lib.hid (HD.out.trans (if_neg (by simp [hoff])))
    rw [hoff] at a3
    have HV := Lib.hid hv
    rw [hv] at a1
    clear HD hoff hv
    go_enter Try.func23, Try.ntmps23
    go_wp2_with fail
    refine (op_any H.out).mono ?_
    rintro e w2 ⟨rfl, ha2, hc2⟩
    have HCH := Lib.hid (hc2.mono (S' := Ft g v) (fun _ _ e => .inl e))
    have HA2 := Lib.hid ha2
    clear a0 a1 a2 a3 a4 hc2
    cases hop : d.op.1 with
    | false =>
      have HD4 := Lib.hid (HD2.out.trans (if_neg (by simp [hop])))
      clear HD2 hop ha2
      go_wp2
      go_ret
      rw [HD4.out]
      exact ⟨rfl, v, HA2.out, HCH.out, .inl rfl⟩
    | true =>
      have HD4 := Lib.hid (HD2.out.trans (if_pos hop))
      rw [HD4.out] at HOK
      obtain ⟨s1, s2, s3⟩ := d.op_same
      have HS := Lib.hid s2
      clear HD2 hop s1 s2 s3
      obtain ⟨a0, a1, a2, a3, a4⟩ := ha2.cells
      have f2 := ha2.frozen 2
      rw [HV.out] at a1
      clear ha2
      go_wp2
      go_ret
      rw [HD4.out]
      have hp := DPost.same HA2.out (d' := { d.op.2 with safe := d.data.length }) (by decide) (chg_set w2 g 2 (.int .i64 d.data.length)) (by simpa using blk_set HA2.out.blk 2 (.int .i64 d.data.length)) rfl HOK.out
      exact ⟨rfl, DPost.trans HA2.out HCH.out (.inl rfl) hp⟩
theorem fail_any {w : World} {base g : Nat} {v : Value} {d : Dv} (h : DAt 65 w base g v d) (n : Int) (hn : n ≤ 9223372036854775807) :
    Calls Try.prog 32 #[.pointer (some ⟨g, 0, none⟩), .int .i64 n] w fun e w' => e = .returned (.tuple #[]) ∧ DPost 65 base g v w (d.fail n) w' := by
  have H := Lib.hid h
  have f4 := h.frozen 4
  obtain ⟨a0, a1, a2, a3, a4⟩ := h.cells
  have HOK := Lib.hid (Dv.fail_ok h.ok hn)
  clear h
  by_cases h0 : n < 0
  · have HF := Lib.hid (show d.fail n = { d with armed := 0 } by unfold Dv.fail; rw [if_pos h0])
    rw [HF.out] at HOK
    go_enter Try.func32, Try.ntmps32
    go_wp2
    go_end0
    rw [HF.out]
    exact ⟨rfl, DPost.same H.out (by decide) (chg_set w g 4 _) (by simpa using blk_set H.out.blk 4 (.int .i64 0)) rfl HOK.out⟩
  · have HF := Lib.hid (show d.fail n = { d with armed := n } by unfold Dv.fail; rw [if_neg h0])
    rw [HF.out] at HOK
    go_enter Try.func32, Try.ntmps32
    go_wp2
    go_end0
    rw [HF.out]
    exact ⟨rfl, DPost.same H.out (by decide) (chg_set w g 4 _) (by simpa using blk_set H.out.blk 4 (.int .i64 n)) rfl HOK.out⟩
theorem down_any {w : World} {base g : Nat} {v : Value} {d : Dv} (h : DAt 65 w base g v d) :
    Calls Try.prog 26 #[.pointer (some ⟨g, 0, none⟩)] w fun e w' => e = .returned (.bool d.off) ∧ w = w' := by
  obtain ⟨a0, a1, a2, a3, a4⟩ := h.cells
  clear h
  go_enter Try.func26, Try.ntmps26
  go_wp2
  go_ret
  exact ⟨rfl, rfl⟩
theorem BO.take {w : World} {base n c m : Nat} {A : Option Addr} {b : List UInt8} (h : BO w base (.slice A n c) b) (hn : b.length = n) (hm : m ≤ n) : BO w base (.slice A m c) (b.take m) := by
  unfold BO at h ⊢
  rw [hn] at h
  have := own_take h hm
  rw [Nat.mul_one] at this
  rw [List.length_take, hn, Nat.min_eq_left hm]
  have e : u8s (b.take m) = (u8s b).take m := by simp [u8s, List.map_take]
  rw [e]
  exact this
/-- The row is cut, other cells of the device are set. -/
theorem DPost.cut {T : Nat} {w w' : World} {base g n c m : Nat} {A : Option Addr} {d d' : Dv} (h : DAt T w base g (.slice A n c) d) (hn : d.data.length = n) (hm : m ≤ n) (hT : 5 ≠ T) (hc : Chg w w' (fun i => i = g))
    (hb : w'.heap[g]? = some (.cells #[.int .i64 d'.size, .slice A m c, .int .i64 d'.safe, .bool d'.off, .int .i64 d'.armed] T (0, 0))) (hd : d'.data = d.data.take m) (ho : d'.ok) : DPost T base g (.slice A n c) w d' w' := by
  have e : (Value.slice A m c).ownBlock = (Value.slice A n c).ownBlock := by cases A <;> rfl
  exact ⟨_, ⟨hb, by rw [hd]; exact (h.row.take hn hm).chg hc (fun k hk e2 => h.ne hT (by rw [← e, hk, e2])), h.hb, ho⟩, hc.mono (fun i _ e => .inl e), .inl e⟩
set_option maxRecDepth 1000000 in
set_option maxHeartbeats 4000000 in
theorem trunc_any {w : World} {base g : Nat} {v : Value} {d : Dv} (h : DAt 65 w base g v d) (n : Int) :
    Calls Try.prog 42 #[.pointer (some ⟨g, 0, none⟩), .int .i64 n] w (DRes 65 base g v w (d.trunc n).1 (d.trunc n).2) := by
  have H := Lib.hid h
  obtain ⟨a0, a1, a2, a3, a4⟩ := h.cells
  obtain ⟨Av, cv, hv, hlv, hCv⟩ := h.row.reads
  have hok := h.ok
  unfold Dv.ok at hok
  have HD := Lib.hid (show d.trunc n = if d.off = true then (13, d) else if n < 0 ∨ (d.data.length : Int) < n then (1, d) else if d.op.1 = true then (0, { d.op.2 with data := d.data.take n.toNat, safe := n.toNat }) else (13, d.op.2) from rfl)
  have HOK := Lib.hid (Dv.trunc_ok h.ok n)
  clear h hCv
  cases hoff : d.off with
  | true =>
    have HD2 := Lib.hid (HD.out.trans (if_pos hoff))
    rw [hoff] at a3
    clear HD hoff hv
    go_enter Try.func42, Try.ntmps42
    go_wp2
    go_ret
    rw [HD2.out]
    exact ⟨rfl, DPost.refl H.out⟩
  | false =>
    have HD2 := Lib.hid (HD.out.trans (if_neg (by simp [hoff])))
    rw [hoff] at a3
    have HV := Lib.hid hv
    rw [hv] at a1
    clear HD hoff hv
    by_cases c1 : n < 0
    · have HD3 := Lib.hid (HD2.out.trans (if_pos (.inl c1)))
      clear HD2
      go_enter Try.func42, Try.ntmps42
      go_wp2
      go_ret
      rw [HD3.out]
      exact ⟨rfl, DPost.refl H.out⟩
    · by_cases c2 : (d.data.length : Int) < n
      · have HD3 := Lib.hid (HD2.out.trans (if_pos (.inr c2)))
        clear HD2
        go_enter Try.func42, Try.ntmps42
        go_wp2
        go_ret
        rw [HD3.out]
        exact ⟨rfl, DPost.refl H.out⟩
      · have HD3 := Lib.hid (HD2.out.trans (if_neg (by rintro (h | h); exact c1 h; exact c2 h)))
        clear HD2
        go_enter Try.func42, Try.ntmps42
        go_wp2_with fail
        refine (op_any H.out).mono ?_
        rintro e w2 ⟨rfl, ha2, hc2⟩
        have HCH := Lib.hid (hc2.mono (S' := Ft g v) (fun _ _ e => .inl e))
        have HA2 := Lib.hid ha2
        clear a0 a1 a2 a3 a4 hc2
        cases hop : d.op.1 with
        | false =>
          have HD4 := Lib.hid (HD3.out.trans (if_neg (by simp [hop])))
          clear HD3 hop ha2
          go_wp2
          go_ret
          rw [HD4.out]
          exact ⟨rfl, v, HA2.out, HCH.out, .inl rfl⟩
        | true =>
          have HD4 := Lib.hid (HD3.out.trans (if_pos hop))
          rw [HD4.out] at HOK
          obtain ⟨s1, s2, s3⟩ := d.op_same
          have HS := Lib.hid s2
          clear HD3 hop s1 s2 s3
          obtain ⟨m, rfl⟩ : ∃ m : Nat, n = (m : Int) := ⟨n.toNat, by omega⟩
          have hm : m ≤ d.data.length := by omega
          have hcut := cut_to_b Av d.data.length cv m (m : Int) rfl hm hlv
          rw [HV.out] at ha2
          obtain ⟨a0, a1, a2, a3, a4⟩ := ha2.cells
          have f1 := ha2.frozen 1
          have f2 := ha2.frozen 2
          have HA3 := Lib.hid ha2
          clear ha2 HA2
          go_wp2
          go_ret
          rw [HD4.out]
          have hb2 := blk_set (blk_set HA3.out.blk 1 (.slice Av m cv)) 2 (.int .i64 (m : Int))
          have hp := DPost.cut (d' := { d.op.2 with data := d.data.take (m : Int).toNat, safe := (m : Int).toNat }) HA3.out (by rw [HS.out]) hm (by decide) ((chg_set w2 g 1 _).trans (chg_set _ g 2 _) (fun _ _ e => e)) (by simpa using hb2) (by rw [HS.out, Int.toNat_natCast]) HOK.out
          rw [HV.out] at HCH ⊢
          exact ⟨rfl, DPost.trans HA3.out HCH.out (.inl rfl) hp⟩
set_option maxRecDepth 1000000 in
set_option maxHeartbeats 4000000 in
theorem crash_any {w : World} {base g : Nat} {v : Value} {d : Dv} (h : DAt 65 w base g v d) (keep : Int) :
    Calls Try.prog 24 #[.pointer (some ⟨g, 0, none⟩), .int .i64 keep] w fun e w' => e = .returned (.tuple #[]) ∧ DPost 65 base g v w (d.crash keep) w' := by
  obtain ⟨Av, cv, hv, hlv, hCv⟩ := h.row.reads
  have H := Lib.hid h
  have HV := Lib.hid hv
  have hok := h.ok
  unfold Dv.ok at hok
  have HOK := Lib.hid (Dv.crash_ok h.ok keep)
  have HLE := Lib.hid (Dv.left_le h.ok keep)
  rw [hv] at h
  obtain ⟨a0, a1, a2, a3, a4⟩ := h.cells
  clear h hCv hv
  have hwr : IntKind.i64.wrap ((d.data.length : Int) - (d.safe : Int)) = (d.data.length : Int) - (d.safe : Int) := i64w (by omega) (by omega)
  obtain ⟨m, hm⟩ : ∃ m : Nat, d.left keep = m := ⟨_, rfl⟩
  have HM := Lib.hid hm
  rw [hm] at HLE
  obtain ⟨kk, e1⟩ : ∃ kk : Int, (if keep < 0 then (0 : Int) else keep) = kk := ⟨_, rfl⟩
  obtain ⟨mm, e2⟩ : ∃ mm : Int, (if (d.data.length : Int) - (d.safe : Int) < kk then (d.data.length : Int) - (d.safe : Int) else kk) = mm := ⟨_, rfl⟩
  have hmm : (d.safe : Int) + mm = (m : Int) := by
    unfold Dv.left at hm
    split at e1 <;> split at e2 <;> omega
  have hle := HLE.out
  have e3 : IntKind.i64.wrap ((d.safe : Int) + mm) = (m : Int) := by rw [hmm]; exact i64w (by omega) (by omega)
  have hcut := cut_to_b Av d.data.length cv m (m : Int) rfl hle hlv
  have HCUT := Lib.hid hcut
  have HE1 := Lib.hid e1
  have HE2 := Lib.hid e2
  have HE3 := Lib.hid e3
  clear hm hmm hcut e1 e2 e3
  go_enter Try.func24, Try.ntmps24
  go_wp2
  go_quiet (fail)
  clear hwr
  go_wp2
  have HAq := Lib.hid (show DAt 65 (w.drewN nq).drew base g v d from H.out.below (Below.drew (pw_below_drewN (Below.refl _ _) _)))
  have HCq := Lib.hid (show Chg w (w.drewN nq).drew (fun i => i = g) from Chg.of_below (Below.drew (pw_below_drewN (Below.refl _ _) _)) _)
  rw [HV.out] at HAq
  have b1 := HAq.out.cells.2.1
  have b2 := HAq.out.cells.2.2.1
  clear a0 a1 a2 a3 a4
  have hcut := HCUT.out
  have e1 := HE1.out
  have e2 := HE2.out
  have e3 := HE3.out
  refine start_ (n := 18) (S := fun w' => w'.cell? ⟨g, 1, none⟩ = some (.slice Av d.data.length cv) ∧ w'.cell? ⟨g, 2, none⟩ = some (.int .i64 d.safe)) (ds := [17]) #[false, false, false, false, false, false, false, false, false, false, false, false, false, false, false, false, false, false] (by kernel_rfl) rfl rfl ⟨b1, b2⟩ (fun hHeld => ?_)
  clear b1 b2
  generalize (w.drewN nq).drew = w3 at HAq HCq hHeld ⊢
  obtain ⟨a0, a1, a2, a3, a4⟩ := HAq.out.cells
  have f1 := HAq.out.frozen 1
  refine pure_ (i := 0) (N := (some 15)) (v := ?_) (a' := ?_) #[true, false, false, false, false, false, false, false, false, false, false, false, false, false, false, false, false, false] rfl rfl (by kernel_rfl) (fun _ _ _ h => h) (Or.inl ⟨by rfl, ?_⟩) ?_ ?_
  rotate_left
  · intro w'
    go_simp
    with_reducible rfl
  rotate_left
  · simp only [Act.put, List.setIfInBounds_toArray, List.set_cons_zero, List.set_cons_succ]
    rfl
  refine pure_ (i := 1) (N := (some 16)) (v := ?_) (a' := ?_) #[true, true, false, false, false, false, false, false, false, false, false, false, false, false, false, false, false, false] rfl rfl (by kernel_rfl) (fun _ _ _ h => h) (Or.inl ⟨by rfl, ?_⟩) ?_ ?_
  rotate_left
  · intro w'
    go_simp
    with_reducible rfl
  rotate_left
  · simp only [Act.put, List.setIfInBounds_toArray, List.set_cons_zero, List.set_cons_succ]
    rfl
  refine pure_ (i := 2) (N := (some 17)) (v := ?_) (a' := ?_) #[true, true, true, false, false, false, false, false, false, false, false, false, false, false, false, false, false, false] rfl rfl (by kernel_rfl) (fun _ _ _ h => h) (Or.inl ⟨by rfl, ?_⟩) ?_ ?_
  rotate_left
  · intro w'
    go_simp
    with_reducible rfl
  rotate_left
  · simp only [Act.put, List.setIfInBounds_toArray, List.set_cons_zero, List.set_cons_succ]
    rfl
  refine pure_ (i := 3) (N := (some 18)) (v := ?_) (a' := ?_) #[true, true, true, true, false, false, false, false, false, false, false, false, false, false, false, false, false, false] rfl rfl (by kernel_rfl) (fun _ _ _ h => h) (Or.inl ⟨by rfl, ?_⟩) ?_ ?_
  rotate_left
  · intro w'
    go_simp
    with_reducible rfl
  rotate_left
  · simp only [Act.put, List.setIfInBounds_toArray, List.set_cons_zero, List.set_cons_succ]
    rfl
  refine take_ (i := 4) (N := (some 19)) (v := ?_) (a' := ?_) #[true, true, true, true, true, false, false, false, false, false, false, false, false, false, false, false, false, false] rfl rfl (by kernel_rfl) (fun _ _ _ h => h) (Or.inl ⟨by rfl, ?_⟩) hHeld ?_ ?_
  rotate_left
  · rintro w' ⟨s0, s1⟩
    go_simp
    with_reducible rfl
  rotate_left
  · simp only [Act.put, List.setIfInBounds_toArray, List.set_cons_zero, List.set_cons_succ]
    rfl
  refine pure_ (i := 5) (N := (some 20)) (v := ?_) (a' := ?_) #[true, true, true, true, true, true, false, false, false, false, false, false, false, false, false, false, false, false] rfl rfl (by kernel_rfl) (fun _ _ _ h => h) (Or.inl ⟨by rfl, ?_⟩) ?_ ?_
  rotate_left
  · intro w'
    go_simp
    with_reducible rfl
  rotate_left
  · simp only [Act.put, List.setIfInBounds_toArray, List.set_cons_zero, List.set_cons_succ]
    rfl
  refine pure_ (i := 6) (N := (some 21)) (v := ?_) (a' := ?_) #[true, true, true, true, true, true, true, false, false, false, false, false, false, false, false, false, false, false] rfl rfl (by kernel_rfl) (fun _ _ _ h => h) (Or.inl ⟨by rfl, ?_⟩) ?_ ?_
  rotate_left
  · intro w'
    go_simp
    with_reducible rfl
  rotate_left
  · simp only [Act.put, List.setIfInBounds_toArray, List.set_cons_zero, List.set_cons_succ]
    rfl
  refine pure_ (i := 7) (N := (some 22)) (v := ?_) (a' := ?_) #[true, true, true, true, true, true, true, true, false, false, false, false, false, false, false, false, false, false] rfl rfl (by kernel_rfl) (fun _ _ _ h => h) (Or.inl ⟨by rfl, ?_⟩) ?_ ?_
  rotate_left
  · intro w'
    go_simp
    with_reducible rfl
  rotate_left
  · simp only [Act.put, List.setIfInBounds_toArray, List.set_cons_zero, List.set_cons_succ]
    rfl
  refine take_ (i := 8) (N := (some 23)) (v := ?_) (a' := ?_) #[true, true, true, true, true, true, true, true, true, false, false, false, false, false, false, false, false, false] rfl rfl (by kernel_rfl) (fun _ _ _ h => h) (Or.inl ⟨by rfl, ?_⟩) hHeld ?_ ?_
  rotate_left
  · rintro w' ⟨s0, s1⟩
    go_simp
    with_reducible rfl
  rotate_left
  · simp only [Act.put, List.setIfInBounds_toArray, List.set_cons_zero, List.set_cons_succ]
    rfl
  refine pure_ (i := 9) (N := (some 24)) (v := ?_) (a' := ?_) #[true, true, true, true, true, true, true, true, true, true, false, false, false, false, false, false, false, false] rfl rfl (by kernel_rfl) (fun _ _ _ h => h) (Or.inl ⟨by rfl, ?_⟩) ?_ ?_
  rotate_left
  · intro w'
    go_simp
    with_reducible rfl
  rotate_left
  · simp only [Act.put, List.setIfInBounds_toArray, List.set_cons_zero, List.set_cons_succ]
    rfl
  refine pure_ (i := 10) (N := (some 25)) (v := ?_) (a' := ?_) #[true, true, true, true, true, true, true, true, true, true, true, false, false, false, false, false, false, false] rfl rfl (by kernel_rfl) (fun _ _ _ h => h) (Or.inl ⟨by rfl, ?_⟩) ?_ ?_
  rotate_left
  · intro w'
    go_simp
    with_reducible rfl
  rotate_left
  · simp only [Act.put, List.setIfInBounds_toArray, List.set_cons_zero, List.set_cons_succ]
    rfl
  refine pure_ (i := 11) (N := (some 26)) (v := ?_) (a' := ?_) #[true, true, true, true, true, true, true, true, true, true, true, true, false, false, false, false, false, false] rfl rfl (by kernel_rfl) (fun _ _ _ h => h) (Or.inl ⟨by rfl, ?_⟩) ?_ ?_
  rotate_left
  · intro w'
    go_simp
    with_reducible rfl
  rotate_left
  · simp only [Act.put, List.setIfInBounds_toArray, List.set_cons_zero, List.set_cons_succ]
    rfl
  refine pure_ (i := 12) (N := (some 27)) (v := ?_) (a' := ?_) #[true, true, true, true, true, true, true, true, true, true, true, true, true, false, false, false, false, false] rfl rfl (by kernel_rfl) (fun _ _ _ h => h) (Or.inl ⟨by rfl, ?_⟩) ?_ ?_
  rotate_left
  · intro w'
    go_simp
    with_reducible rfl
  rotate_left
  · simp only [Act.put, List.setIfInBounds_toArray, List.set_cons_zero, List.set_cons_succ]
    rfl
  refine pure_ (i := 13) (N := (some 28)) (v := ?_) (a' := ?_) #[true, true, true, true, true, true, true, true, true, true, true, true, true, true, false, false, false, false] rfl rfl (by kernel_rfl) (fun _ _ _ h => h) (Or.inl ⟨by rfl, ?_⟩) ?_ ?_
  rotate_left
  · intro w'
    go_simp
    with_reducible rfl
  rotate_left
  · simp only [Act.put, List.setIfInBounds_toArray, List.set_cons_zero, List.set_cons_succ]
    rfl
  refine pure_ (i := 14) (N := (some 29)) (v := ?_) (a' := ?_) #[true, true, true, true, true, true, true, true, true, true, true, true, true, true, true, false, false, false] rfl rfl (by kernel_rfl) (fun _ _ _ h => h) (Or.inl ⟨by rfl, ?_⟩) ?_ ?_
  rotate_left
  · intro w'
    go_simp
    with_reducible rfl
  rotate_left
  · simp only [Act.put, List.setIfInBounds_toArray, List.set_cons_zero, List.set_cons_succ]
    rfl
  refine pure_ (i := 15) (N := (some 30)) (v := ?_) (a' := ?_) #[true, true, true, true, true, true, true, true, true, true, true, true, true, true, true, true, false, false] rfl rfl (by kernel_rfl) (fun _ _ _ h => h) (Or.inl ⟨by rfl, ?_⟩) ?_ ?_
  rotate_left
  · intro w'
    go_simp
    with_reducible rfl
  rotate_left
  · simp only [Act.put, List.setIfInBounds_toArray, List.set_cons_zero, List.set_cons_succ]
    rfl
  refine pure_ (i := 16) (N := (some 31)) (v := ?_) (a' := ?_) #[true, true, true, true, true, true, true, true, true, true, true, true, true, true, true, true, true, false] rfl rfl (by kernel_rfl) (fun _ _ _ h => h) (Or.inl ⟨by rfl, ?_⟩) ?_ ?_
  rotate_left
  · intro w'
    go_simp
    with_reducible rfl
  rotate_left
  · simp only [Act.put, List.setIfInBounds_toArray, List.set_cons_zero, List.set_cons_succ]
    rfl
  refine last_ (i := 17) (N := none) #[true, true, true, true, true, true, true, true, true, true, true, true, true, true, true, true, true, true] rfl rfl (by kernel_rfl) (by decide) (fun K hK => ?_)
  go_simp
  refine hK.out _ _ ?_
  clear hK K
  (try simp only [Act.put, List.setIfInBounds_toArray, List.set_cons_zero, List.set_cons_succ])
  refine done_ (by kernel_rfl) ?_
  clear e1 e2 e3 hcut hHeld
  have f2 := HAq.out.frozen 2
  have f3 := HAq.out.frozen 3
  have f4 := HAq.out.frozen 4
  go_wp2
  go_end0
  have hb2 := blk_set (blk_set (blk_set (blk_set HAq.out.blk 1 (.slice Av m cv)) 2 (.int .i64 (m : Int))) 3 (.bool false)) 4 (.int .i64 0)
  have hcg := (((chg_set w3 g 1 (.slice Av m cv)).trans (chg_set _ g 2 (.int .i64 (m : Int))) (fun _ _ e => e)).trans (chg_set _ g 3 (.bool false)) (fun _ _ e => e)).trans (chg_set _ g 4 (.int .i64 0)) (fun _ _ e => e)
  have hd : d.crash keep = { d with data := d.data.take m, safe := m, off := false, armed := 0 } := by unfold Dv.crash; rw [HM.out]
  rw [hd] at HOK ⊢
  have hp := DPost.cut (d' := { d with data := d.data.take m, safe := m, off := false, armed := 0 }) HAq.out rfl hle (by decide) hcg (by simpa using hb2) rfl HOK.out
  rw [HV.out]
  exact ⟨rfl, DPost.trans HAq.out (HCq.out.mono (fun _ _ e => .inl e)) (.inl rfl) hp⟩
/-- NewDevice. -/
def NewRes (T base : Nat) (w : World) (d : Dv) (e : Ending) (w' : World) : Prop := ∃ g v, e = .returned (.pointer (some ⟨g, 0, none⟩)) ∧ DAt T w' base g v d ∧ Below w.heap.size w w' ∧ w.heap.size ≤ g ∧ (∀ k, v.ownBlock ≠ some k)
set_option maxRecDepth 1000000 in
set_option maxHeartbeats 4000000 in
theorem newdev_any (w : World) (base : Nat) (hb : base ≤ w.heap.size) (n : Int) (hn : n ≤ 9223372036854775807) :
    Calls Try.prog 18 #[.int .i64 n] w (NewRes 65 base w (dv0 n)) := by
  obtain ⟨m, hm⟩ : ∃ m : Nat, min n.toNat 1048576 = m := ⟨_, rfl⟩
  have HM := Lib.hid hm
  obtain ⟨kk, e1⟩ : ∃ kk : Int, (if n < 0 then (0 : Int) else n) = kk := ⟨_, rfl⟩
  have e2 : (if 1048576 < kk then (1048576 : Int) else kk) = (m : Int) := by
    split at e1 <;> split <;> omega
  clear hm
  go_enter Try.func18, Try.ntmps18
  go_wp2
  go_ret
  refine ⟨w.heap.size, .slice none 0 0, rfl, ⟨?_, BO.nil _ _, hb, dv0_ok n⟩, (Below.refl _ _).alloc (Nat.le_refl _) _, Nat.le_refl _, fun k h => by cases h⟩
  show _ = some (Obj.cells #[.int .i64 ((min n.toNat 1048576 : Nat) : Int), _, _, _, _] 65 (0, 0))
  rw [HM.out]
  exact blk_new w _
theorem clip_any {w : World} {A : Option Addr} {n c : Nat} (hc : n ≤ c) : Calls Try.prog 45 #[.slice A n c] w fun e w' => e = .returned (.slice A n n) ∧ w = w' := by
  have hok : (n : Int) ≤ (c : Int) := by omega
  go_enter Try.func45, Try.ntmps45
  go_wp2
  go_ret
  exact ⟨rfl, rfl⟩
set_option maxRecDepth 1000000 in
set_option maxHeartbeats 4000000 in
theorem clone_any {w : World} {A : Option Addr} {b : List UInt8} {c : Nat} (h : BC w A b) (hc : b.length ≤ c) (hb : b.length < 1000000000) :
    Calls Try.prog 46 #[.slice A b.length c] w fun e w' => ∃ v, e = .returned v ∧ BO w' w.heap.size v b ∧ Below w.heap.size w w' := by
  have HC := Lib.hid h
  clear h
  have hnil := fun (W : World) => Lib.run_eql_slice_nil (P := Try.prog) W 22 5 A b.length c 0 0 Try.underlying22
  cases A with
  | none =>
    have hb0 : b = [] := by
      have h1 := HC.out.2.2
      by_cases hp : 0 < b.length
      · obtain ⟨ad, e, _⟩ := h1 hp
        cases e
      · exact List.eq_nil_of_length_eq_zero (by omega)
    have HB0 := Lib.hid hb0
    clear hb0
    go_enter Try.func46, Try.ntmps46
    go_wp2
    go_ret
    exact ⟨_, rfl, by rw [HB0.out]; exact BO.nil _ _, Below.refl _ _⟩
  | some ad =>
    have hl0 := own_lit w w.heap.size 5 .u8 [] (Nat.le_refl _) (by simp)
    have HL0 := Lib.hid hl0
    clear hl0
    go_enter Try.func46, Try.ntmps46
    go_wp2_with (first | (at_builtin; go_loud (refine Kd.R_append_row (Value.int .u8) 0 (w0 := w) w.heap.size rfl (.tmp 5) (.tmp 6) 22 5 _ 1 rfl Try.underlying22 info5b rfl (by decide) (.slice (some ⟨w.heap.size, 0, none⟩) 0 0) (ib []) (ib b) (some ad) b.length c (fun _ => True) rfl rfl (fun _ _ => trivial) (Kd.R_of_own (by simpa [nums, encs, ib] using HL0.out) (fun _ _ => trivial)) (HC.out.below ((Below.refl _ _).alloc (Nat.le_refl _) _)) ((Below.refl _ _).alloc (Nat.le_refl _) _) (by simp) (by simp [ib]; omega) ?_); intro v9 w9 hr9 hb9 hg9 hat9; have HR9 := Lib.hid hr9; have HB9 := Lib.hid hb9; clear hr9 hb9 hg9 hat9))
    go_ret
    exact ⟨_, rfl, bo_of_R HR9.out, HB9.out⟩
set_option maxRecDepth 1000000 in
set_option maxHeartbeats 4000000 in
theorem bytes_any {w : World} {base g : Nat} {v : Value} {d : Dv} (h : DAt 65 w base g v d) :
    Calls Try.prog 25 #[.pointer (some ⟨g, 0, none⟩)] w fun e w' => ∃ A, e = .returned (.slice A d.data.length d.data.length) ∧ BC w' A d.data ∧ Below w.heap.size w w' := by
  obtain ⟨Av, cv, hv, hlv, hCv⟩ := h.row.reads
  have hok := h.ok
  unfold Dv.ok at hok
  rw [hv] at h
  obtain ⟨a0, a1, a2, a3, a4⟩ := h.cells
  have HC := Lib.hid hCv
  clear h hCv hv
  go_enter Try.func25, Try.ntmps25
  go_wp2_with fail
  refine (clone_any HC.out hlv (by omega)).mono ?_
  rintro e w2 ⟨v2, rfl, hbo, hb2⟩
  obtain ⟨A2, c2, rfl, hl2, hC2⟩ := hbo.reads
  have HB2 := Lib.hid hb2
  have HC2 := Lib.hid hC2
  clear hbo hb2 hC2
  go_wp2_with fail
  refine (clip_any hl2).mono ?_
  rintro e w3 ⟨rfl, rfl⟩
  go_wp2
  go_ret
  exact ⟨A2, rfl, HC2.out, HB2.out⟩
end Go.Proofs.Ytiacjbandhedhaa.Jn

/- The program's journal: Open, Append, Len. -/
namespace Go.Proofs.Ytiacjbandhedhaa.Jn
open Go.RowKit Go.Proofs.YtiacjbandhedhaaW.PrintWords Go.Proofs.YtiacjbandhedhaaW.PrintLast Go.Proofs.YtiacjbandhedhaaW.PrintMore
set_option linter.unusedSimpArgs false
set_option linter.unusedVariables false

theorem R_chg {α : Type} {k : Kd α} {e base : Nat} {w w' : World} {ok : Nat → Prop} {v : Value} {xs : List α} {S : Nat → Prop} (h : k.R e w base ok v xs) (hc : Chg w w' S) (hS : ∀ i, base ≤ i → i < w.heap.size → ¬ S i) : k.R e w' base ok v xs :=
  Kd.R_mono (Kd.R_move (Kd.R_bound h) (fun i hi => hc.block i hi.2.2.1 (hS i hi.2.1 hi.2.2.1))) (fun _ hk => hk.1)

/-- Open: the error, and what it leaves. -/
def Dv.open_ (d : Dv) : Int × Dv := if d.off = true then (13, d) else if (scanAll d.data).2 < d.data.length then d.trunc ((scanAll d.data).2 : Int) else (0, d)
/-- Append: the error, and what it leaves. -/
def Dv.app (d : Dv) (ended : Bool) (b : List UInt8) : Int × Dv :=
  if (ended || d.off) = true then (13, d) else if validB b = true then (if (d.write (frame b)).1 = 0 then (d.write (frame b)).2.sync else d.write (frame b)) else (1, d)
/-- A journal in block j on the device in block g. -/
def JAt (T : Nat) (w : World) (j g n : Nat) (ended : Bool) : Prop := w.heap[j]? = some (.cells #[.pointer (some ⟨g, 0, none⟩), .int .i64 n, .bool ended] T (0, 0))
theorem JAt.cells {T : Nat} {w : World} {j g n : Nat} {ended : Bool} (h : JAt T w j g n ended) : w.cell? ⟨j, 0, none⟩ = some (.pointer (some ⟨g, 0, none⟩)) ∧ w.cell? ⟨j, 1, none⟩ = some (.int .i64 n) ∧ w.cell? ⟨j, 2, none⟩ = some (.bool ended) :=
  ⟨blk_cell h 0, blk_cell h 1, blk_cell h 2⟩
theorem JAt.lt {T : Nat} {w : World} {j g n : Nat} {ended : Bool} (h : JAt T w j g n ended) : j < w.heap.size := blk_lt h
theorem JAt.chg {T : Nat} {w w' : World} {j g n : Nat} {ended : Bool} {S : Nat → Prop} (h : JAt T w j g n ended) (hc : Chg w w' S) (hn : ¬ S j) : JAt T w' j g n ended := (hc.block j h.lt hn).trans h

theorem scan_le : ∀ (k : Nat) (b : List UInt8), (scan k b).2 ≤ b.length ∧ (scan k b).1.length ≤ b.length
  | 0, b => ⟨Nat.zero_le _, Nat.zero_le _⟩
  | k + 1, b => by
    unfold scan
    split
    · exact ⟨Nat.zero_le _, Nat.zero_le _⟩
    · split
      · exact ⟨Nat.zero_le _, Nat.zero_le _⟩
      · split
        · have := scan_le k (b.drop (8 + num4 b))
          rw [List.length_drop] at this
          simp only [List.length_cons]
          omega
        · exact ⟨Nat.zero_le _, Nat.zero_le _⟩

/-- What Open hands back. -/
def OpRet (TJ T base g : Nat) (v : Value) (w : World) (rs : List (List UInt8)) (r : Int) (d' : Dv) (e : Ending) (w' : World) : Prop :=
  DPost T base g v w d' w' ∧ ∃ vj vl, e = .returned (.tuple #[vj, vl, .int .i64 r]) ∧
    ((r = 0 ∧ ∃ j, vj = .pointer (some ⟨j, 0, none⟩) ∧ JAt TJ w' j g rs.length false ∧ w.heap.size ≤ j ∧ kbs.R 22 w' w.heap.size (fun _ => True) vl (rs.map ib)) ∨ (r ≠ 0 ∧ vj = .pointer none ∧ vl = .slice none 0 0))

set_option maxRecDepth 1000000 in
set_option maxHeartbeats 4000000 in
theorem open_any {w : World} {base g : Nat} {v : Value} {d : Dv} (h : DAt 65 w base g v d) :
    Calls Try.prog 19 #[.pointer (some ⟨g, 0, none⟩)] w (OpRet 68 65 base g v w (scanAll d.data).1 d.open_.1 d.open_.2) := by
  obtain ⟨Av, cv, hv, hlv, hCv⟩ := h.row.reads
  have H := Lib.hid h
  have HV := Lib.hid hv
  have HC := Lib.hid hCv
  have hok := h.ok
  unfold Dv.ok at hok
  have HD := Lib.hid (show d.open_ = if d.off = true then (13, d) else if (scanAll d.data).2 < d.data.length then d.trunc ((scanAll d.data).2 : Int) else (0, d) from rfl)
  obtain ⟨a0, a1, a2, a3, a4⟩ := h.cells
  rw [hv] at a1
  clear h hCv hv
  cases hoff : d.off with
  | true =>
    have HD2 := Lib.hid (HD.out.trans (if_pos hoff))
    rw [hoff] at a3
    clear HD hoff
    go_enter Try.func19, Try.ntmps19
    go_wp2
    go_ret3
    rw [HD2.out]
    exact ⟨DPost.refl H.out, _, _, rfl, .inr ⟨by simp, rfl, rfl⟩⟩
  | false =>
    have HD2 := Lib.hid (HD.out.trans (if_neg (by simp [hoff])))
    rw [hoff] at a3
    have HSC := Lib.hid (scan_any HC.out hlv (by omega))
    have hsle := scan_le (d.data.length + 1) d.data
    clear HD hoff
    go_enter Try.func19, Try.ntmps19
    go_wp2_with fail
    refine HSC.out.mono ?_
    rintro e w2 ⟨vl, rfl, hR2, hB2⟩
    have HA2 := Lib.hid (H.out.below hB2)
    have HR2 := Lib.hid hR2
    have HB2 := Lib.hid hB2
    have HRL := Lib.hid hsle.2
    have hsle1 := hsle.1
    clear a0 a1 a2 a3 a4 hR2 hB2 HSC hsle
    obtain ⟨a0, a1, a2, a3, a4⟩ := HA2.out.cells
    rw [HV.out] at a1
    obtain ⟨rs, hrs⟩ : ∃ rs, (scanAll d.data).1 = rs := ⟨_, rfl⟩
    obtain ⟨n, hn⟩ : ∃ n, (scanAll d.data).2 = n := ⟨_, rfl⟩
    have HSCN := Lib.hid (show scanAll d.data = (rs, n) by rw [← hrs, ← hn])
    obtain ⟨Al, cl, hvl, hll, hCl⟩ := Kd.R_reads HR2.out
    rw [List.length_map, hrs] at hvl hll
    rw [hrs] at HR2
    subst hvl
    have HRL2 := Lib.hid (show rs.length ≤ d.data.length by have := HRL.out; rw [show (scan (d.data.length + 1) d.data).1 = rs from hrs] at this; exact this)
    rw [show (scan (d.data.length + 1) d.data).2 = n from hn] at hsle1
    rw [show (scanAll d.data).2 = n from hn] at HD2
    have HRS := Lib.hid hrs
    rw [hn]
    clear hCl HRL hrs hn
    by_cases c1 : n < d.data.length
    · have HD3 := Lib.hid (HD2.out.trans (if_pos c1))
      clear HD2
      go_wp2_with fail
      refine (trunc_any HA2.out (n : Int)).mono ?_
      rintro e w3 ⟨rfl, v3, ha3, hc3, hv3⟩
      have HA3 := Lib.hid ha3
      have HC3 := Lib.hid hc3
      have HV3 := Lib.hid hv3
      have HF3 := Lib.hid (show ∀ i, w.heap.size ≤ i → i < w2.heap.size → ¬ Ft g v i from fun i h1 _ h2 => by have := H.out.ftlt i h2; omega)
      have HR3 := Lib.hid (R_chg HR2.out hc3 HF3.out)
      have HCH3 := Lib.hid ((Chg.of_below HB2.out (Ft g v)).trans hc3 (fun _ _ e => e))
      have HV4 := Lib.hid (show v3.ownBlock = v.ownBlock ∨ ∃ b, v3.ownBlock = some b ∧ w.heap.size ≤ b from hv3.imp id (fun ⟨b, e1, e2⟩ => ⟨b, e1, Nat.le_trans HB2.out.size e2⟩))
      clear a0 a1 a2 a3 a4 ha3 hc3 hv3 HR2 HA2
      obtain ⟨r, d3, htr⟩ : ∃ r d3, d.trunc (n : Int) = (r, d3) := ⟨_, _, rfl⟩
      have HTR := Lib.hid htr
      rw [htr] at HA3 HD3 ⊢
      clear htr
      by_cases c2 : r = 0
      · have g2 : (r != 0) = false := by simpa using c2
        have HR0 := Lib.hid c2
        clear c2
        go_wp2
        go_ret3
        have hal : Below w3.heap.size w3 (w3.alloc (.cells #[.pointer (some ⟨g, 0, none⟩), .int .i64 (rs.length : Int), .bool false] 68)) := (Below.refl _ _).alloc (Nat.le_refl _) _
        rw [HD3.out, HRS.out]
        refine ⟨⟨v3, HA3.out.below hal, HCH3.out.trans (Chg.of_below hal (Ft g v)) (fun _ _ e => e), HV4.out⟩, _, .slice Al rs.length cl, by rw [HR0.out]; rfl, .inl ⟨HR0.out, w3.heap.size, rfl, blk_new w3 _, HCH3.out.size, Kd.R_alloc HR3.out _⟩⟩
      · have g2 : (r != 0) = true := by simpa using c2
        have HR0 := Lib.hid c2
        clear c2
        go_wp2
        go_ret3
        rw [HD3.out]
        exact ⟨⟨v3, HA3.out, HCH3.out, HV4.out⟩, _, _, rfl, .inr ⟨HR0.out, rfl, rfl⟩⟩
    · have HD3 := Lib.hid (HD2.out.trans (if_neg c1))
      have g1 : decide ((n : Int) < (d.data.length : Int)) = false := decide_eq_false (by omega)
      clear HD2
      go_wp2
      go_ret3
      have hal : Below w2.heap.size w2 (w2.alloc (.cells #[.pointer (some ⟨g, 0, none⟩), .int .i64 (rs.length : Int), .bool false] 68)) := (Below.refl _ _).alloc (Nat.le_refl _) _
      rw [HD3.out, HRS.out]
      refine ⟨⟨v, HA2.out.below hal, Chg.of_below (HB2.out.trans (hal.mono HB2.out.size)) _, .inl rfl⟩, _, .slice Al rs.length cl, rfl, .inl ⟨rfl, w2.heap.size, rfl, blk_new w2 _, HB2.out.size, Kd.R_alloc HR2.out _⟩⟩
theorem frame_len (b : List UInt8) : (frame b).length ≤ b.length + 8 := by
  unfold frame
  split
  · simp [be4_length]; omega
  · simp
theorem far_of_own {w : World} {base g : Nat} {A : Option Addr} {n c : Nat} {b : List UInt8} (h : BO w base (.slice A n c) b) (hg : g < base) : Far A b g := by
  intro ad e _ e2
  subst e
  have := own_base h ad.block rfl
  omega
theorem len_any {w : World} {j g n : Nat} {ended : Bool} (h : JAt 68 w j g n ended) : Calls Try.prog 21 #[.pointer (some ⟨j, 0, none⟩)] w fun e w' => e = .returned (.int .i64 n) ∧ w = w' := by
  obtain ⟨b0, b1, b2⟩ := h.cells
  clear h
  go_enter Try.func21, Try.ntmps21
  go_wp2
  go_ret
  exact ⟨rfl, rfl⟩
/-- What append leaves: the error, the device, the journal's number. -/
def ApRet (TJ T base g : Nat) (v : Value) (w : World) (j n : Nat) (en : Bool) (r : Int) (d' : Dv) (e : Ending) (w' : World) : Prop :=
  e = .returned (.int .i64 r) ∧ ∃ v', DAt T w' base g v' d' ∧ JAt TJ w' j g (if r = 0 then n + 1 else n) en ∧ Chg w w' (fun i => Ft g v i ∨ i = j) ∧ (v'.ownBlock = v.ownBlock ∨ ∃ b, v'.ownBlock = some b ∧ w.heap.size ≤ b)
set_option maxRecDepth 1000000 in
set_option maxHeartbeats 4000000 in
theorem app_any {w : World} {base g : Nat} {v : Value} {d : Dv} {j n : Nat} {ended : Bool} {A : Option Addr} {b : List UInt8} {c : Nat} (h : DAt 65 w base g v d) (hj : JAt 68 w j g n ended) (hjg : v.ownBlock ≠ some j) (hC : BC w A b) (hc : b.length ≤ c) (hb : b.length < 900000000) (hn : n < 1000000000) (hbase : base ≤ w.heap.size) :
    Calls Try.prog 43 #[.pointer (some ⟨j, 0, none⟩), .slice A b.length c] w (ApRet 68 65 base g v w j n ended (d.app ended b).1 (d.app ended b).2) := by
  have H := Lib.hid h
  have HJ := Lib.hid hj
  have HC := Lib.hid hC
  have hne : j ≠ g := blk_ne hj h.blk (by decide)
  have HNE := Lib.hid hne
  have HVJ := Lib.hid hjg
  obtain ⟨b0, b1, b2⟩ := hj.cells
  obtain ⟨a0, a1, a2, a3, a4⟩ := h.cells
  have HD := Lib.hid (show d.app ended b = if (ended || d.off) = true then (13, d) else if validB b = true then (if (d.write (frame b)).1 = 0 then (d.write (frame b)).2.sync else d.write (frame b)) else (1, d) from rfl)
  clear h hj hC hne hjg
  by_cases ho : (ended || d.off) = true
  · have HD2 := Lib.hid (HD.out.trans (if_pos ho))
    clear HD
    cases ended with
    | true =>
      clear ho
      go_enter Try.func43, Try.ntmps43
      go_wp2
      go_ret
      rw [HD2.out]
      exact ⟨rfl, v, H.out, HJ.out, Chg.refl _ _, .inl rfl⟩
    | false =>
      have ho2 : d.off = true := by simpa using ho
      rw [ho2] at a3
      clear ho ho2
      go_enter Try.func43, Try.ntmps43
      go_wp2
      go_ret
      rw [HD2.out]
      exact ⟨rfl, v, H.out, HJ.out, Chg.refl _ _, .inl rfl⟩
  · have HD2 := Lib.hid (HD.out.trans (if_neg ho))
    have he : ended = false := by cases ended <;> simp_all
    have ho2 : d.off = false := by simpa [he] using ho
    subst he
    rw [ho2] at a3
    clear HD ho ho2
    cases hv : validB b with
    | false =>
      have HD3 := Lib.hid (HD2.out.trans (if_neg (by simp [hv])))
      go_enter Try.func43, Try.ntmps43
      go_wp2_with fail
      refine (valid_any HC.out hc false hv).mono ?_
      rintro e w2 ⟨rfl, hd2⟩
      have HB2 := Lib.hid hd2.below
      clear hd2 hv HD2 a0 a1 a2 a3 a4 b0 b1 b2
      go_wp2
      go_ret
      rw [HD3.out]
      exact ⟨rfl, v, H.out.below HB2.out, (HJ.out.chg (Chg.of_below HB2.out (fun _ => False)) (fun h => h)), Chg.of_below HB2.out _, .inl rfl⟩
    | true =>
      have HD3 := Lib.hid (HD2.out.trans (if_pos hv))
      go_enter Try.func43, Try.ntmps43
      go_wp2_with fail
      refine (valid_any HC.out hc true hv).mono ?_
      rintro e w2 ⟨rfl, hd2⟩
      have HB2 := Lib.hid hd2.below
      clear hd2 hv HD2 a0 a1 a2 a3 a4 b0 b1 b2
      have HB2d := Lib.hid (Below.drew HB2.out)
      have HA3 := Lib.hid (show DAt 65 w2.drew base g v d from H.out.below HB2d.out)
      have HJ3 := Lib.hid (show JAt 68 w2.drew j g n false from HJ.out.chg (Chg.of_below HB2d.out (fun _ => False)) (fun h => h))
      have HC3 := Lib.hid (HC.out.below HB2d.out)
      have hfl := frame_len b
      have p0 := HJ3.out.cells.1
      go_wp2
      refine start_ (n := 8) (S := fun w' => w'.cell? ⟨j, 0, none⟩ = some (.pointer (some ⟨g, 0, none⟩))) (ds := [6]) #[false, false, false, false, false, false, false, false] (by kernel_rfl) rfl rfl p0 (fun hHeld => ?_)
      clear p0 HB2
      generalize w2.drew = w3 at HB2d HA3 HJ3 HC3 hHeld ⊢
      refine pure_ (i := 0) (N := (some 25)) (v := ?_) (a' := ?_) #[true, false, false, false, false, false, false, false] rfl rfl (by kernel_rfl) (fun _ _ _ h => h) (Or.inl ⟨by rfl, ?_⟩) ?_ ?_
      rotate_left
      · intro w'
        go_simp
        with_reducible rfl
      rotate_left
      · simp only [Act.put, List.setIfInBounds_toArray, List.set_cons_zero, List.set_cons_succ]
        rfl
      refine pure_ (i := 1) (N := (some 26)) (v := ?_) (a' := ?_) #[true, true, false, false, false, false, false, false] rfl rfl (by kernel_rfl) (fun _ _ _ h => h) (Or.inl ⟨by rfl, ?_⟩) ?_ ?_
      rotate_left
      · intro w'
        go_simp
        with_reducible rfl
      rotate_left
      · simp only [Act.put, List.setIfInBounds_toArray, List.set_cons_zero, List.set_cons_succ]
        rfl
      refine pure_ (i := 2) (N := (some 27)) (v := ?_) (a' := ?_) #[true, true, true, false, false, false, false, false] rfl rfl (by kernel_rfl) (fun _ _ _ h => h) (Or.inl ⟨by rfl, ?_⟩) ?_ ?_
      rotate_left
      · intro w'
        go_simp
        with_reducible rfl
      rotate_left
      · simp only [Act.put, List.setIfInBounds_toArray, List.set_cons_zero, List.set_cons_succ]
        rfl
      refine take_ (i := 3) (N := (some 28)) (v := ?_) (a' := ?_) #[true, true, true, true, false, false, false, false] rfl rfl (by kernel_rfl) (fun _ _ _ h => h) (Or.inl ⟨by rfl, ?_⟩) hHeld ?_ ?_
      rotate_left
      · rintro w' s0
        go_simp
        with_reducible rfl
      rotate_left
      · simp only [Act.put, List.setIfInBounds_toArray, List.set_cons_zero, List.set_cons_succ]
        rfl
      refine pure_ (i := 4) (N := (some 29)) (v := ?_) (a' := ?_) #[true, true, true, true, true, false, false, false] rfl rfl (by kernel_rfl) (fun _ _ _ h => h) (Or.inl ⟨by rfl, ?_⟩) ?_ ?_
      rotate_left
      · intro w'
        go_simp
        with_reducible rfl
      rotate_left
      · simp only [Act.put, List.setIfInBounds_toArray, List.set_cons_zero, List.set_cons_succ]
        rfl
      refine one_ (i := 5) (N := (some 30)) #[true, true, true, true, true, true, false, false] rfl rfl (by kernel_rfl) (by decide) (fun K hK => ?_)
      go_simp
      refine (frame_any HC3.out hc).mono ?_
      rintro e w4 ⟨vf, rfl, hbo, hb4⟩
      obtain ⟨Af, cf, hvf, hlf, hCf⟩ := hbo.reads
      subst hvf
      have HB4 := Lib.hid hb4
      have HFAR := Lib.hid (far_of_own hbo HA3.out.lt)
      have HA4 := Lib.hid (HA3.out.below hb4)
      have HJ4 := Lib.hid (HJ3.out.chg (Chg.of_below hb4 (fun _ => False)) (fun h => h))
      have HCf := Lib.hid hCf
      have HW4 := Lib.hid (below_then HB2d.out HB2d.out.size hb4)
      clear hbo hb4 hCf
      refine hK.out _ _ HJ4.out.cells.1 (fun hHeld => ?_)
      clear hK K
      (try simp only [Act.put, List.setIfInBounds_toArray, List.set_cons_zero, List.set_cons_succ])
      refine last_ (i := 6) (N := (some 31)) #[true, true, true, true, true, true, true, false] rfl rfl (by kernel_rfl) (by decide) (fun K hK => ?_)
      go_simp
      refine (write_any HA4.out HCf.out hlf (by omega) HFAR.out (Nat.le_trans hbase HW4.out.size)).mono ?_
      rintro e w5 ⟨rfl, v5, ha5, hc5, hv5⟩
      have HA5 := Lib.hid ha5
      have HC5 := Lib.hid ((Chg.of_below HW4.out (Ft g v)).trans hc5 (fun _ _ e => e))
      have HV5 := Lib.hid (show v5.ownBlock = v.ownBlock ∨ ∃ b, v5.ownBlock = some b ∧ w.heap.size ≤ b from hv5.imp id (fun ⟨b, e1, e2⟩ => ⟨b, e1, Nat.le_trans HW4.out.size e2⟩))
      have HJ5 := Lib.hid (HJ4.out.chg hc5 (by rintro (e | e); exact HNE.out e; exact HVJ.out e))
      clear ha5 hc5 hv5
      refine hK.out _ _ ?_
      clear hK K
      (try simp only [Act.put, List.setIfInBounds_toArray, List.set_cons_zero, List.set_cons_succ])
      refine pure_ (i := 7) (N := (some 5)) (v := ?_) (a' := ?_) #[true, true, true, true, true, true, true, true] rfl rfl (by kernel_rfl) (fun _ _ _ h => h) (Or.inl ⟨by rfl, ?_⟩) ?_ ?_
      rotate_left
      · intro w'
        go_simp
        with_reducible rfl
      rotate_left
      · simp only [Act.put, List.setIfInBounds_toArray, List.set_cons_zero, List.set_cons_succ]
        rfl
      refine done_ (by kernel_rfl) ?_
      clear hHeld
      obtain ⟨r1, d1, hw1⟩ : ∃ r1 d1, d.write (frame b) = (r1, d1) := ⟨_, _, rfl⟩
      rw [hw1] at HD3 HA5
      rw [hw1]
      have HW1 := Lib.hid hw1
      clear hw1
      by_cases hr1 : r1 = 0
      · have g1 : (r1 != 0) = false := by simpa using hr1
        have HD4 := Lib.hid (HD3.out.trans (if_pos hr1))
        obtain ⟨b0, b1, b2⟩ := HJ5.out.cells
        have f1 : ∀ W, JAt 68 W j g n false → W.frozen? ⟨j, 1, none⟩ = false := fun W h => blk_frozen h 1
        have HF1 := Lib.hid f1
        clear HD3 hr1 f1
        go_wp2_with fail
        refine (sync_any HA5.out).mono ?_
        rintro e w6 ⟨rfl, v6, ha6, hc6, hv6⟩
        have HA6 := Lib.hid ha6
        have HJ6 := Lib.hid (HJ5.out.chg hc6 (by
          rintro (e | e)
          · exact HNE.out e
          · rcases HV5.out with h1 | ⟨b1, h1, h2⟩
            · exact HVJ.out (by rw [← h1]; exact e)
            · rw [h1] at e; injection e with e; have := HJ.out.lt; omega))
        have HC6 := Lib.hid (show Chg w w6 (Ft g v) from HC5.out.trans hc6 (by
          rintro i hi (e | e)
          · exact .inl e
          · rcases HV5.out with h1 | ⟨b1, h1, h2⟩
            · exact .inr (by rw [← h1]; exact e)
            · rw [h1] at e; injection e with e; omega))
        have HV6 := Lib.hid (show v6.ownBlock = v.ownBlock ∨ ∃ b, v6.ownBlock = some b ∧ w.heap.size ≤ b from by
          rcases hv6 with h1 | ⟨b1, h1, h2⟩
          · rw [h1]; exact HV5.out
          · exact .inr ⟨b1, h1, Nat.le_trans HC5.out.size h2⟩)
        clear b0 b1 b2 ha6 hc6 hv6
        obtain ⟨r2, d2, hs2⟩ : ∃ r2 d2, d1.sync = (r2, d2) := ⟨_, _, rfl⟩
        rw [show ((r1, d1).2.sync) = (r2, d2) from hs2] at HD4
        rw [hs2] at HA6 ⊢
        clear hs2
        by_cases hr2 : r2 = 0
        · have g2 : (r2 != 0) = false := by simpa using hr2
          have HR2 := Lib.hid hr2
          obtain ⟨b0, b1, b2⟩ := HJ6.out.cells
          have f1 := HF1.out _ HJ6.out
          clear hr2
          go_wp2
          go_ret
          rw [HD4.out]
          have hset := blk_set HJ6.out 1 (.int .i64 ((n : Int) + 1))
          have hcs : Chg w6 (w6.setCell ⟨j, 1, none⟩ (.int .i64 ((n : Int) + 1))) (fun i => i = j) := chg_set _ _ _ _
          refine ⟨by rw [HR2.out]; rfl, v6, HA6.out.chg hcs (fun e => HNE.out e.symm) ?_, ?_, (HC6.out.mono (fun _ _ e => .inl e)).trans hcs (fun _ _ e => .inr e), HV6.out⟩
          · intro k hk e
            subst e
            rcases HV6.out with h1 | ⟨b1, h1, h2⟩
            · exact HVJ.out (by rw [← h1]; exact hk)
            · rw [h1] at hk; injection hk with hk; have := HJ.out.lt; omega
          · rw [if_pos HR2.out]
            unfold JAt
            rw [hset]
            simp
        · have g2 : (r2 != 0) = true := by simpa using hr2
          have HR2 := Lib.hid hr2
          clear hr2
          go_wp2
          go_ret
          rw [HD4.out]
          exact ⟨rfl, v6, HA6.out, by rw [if_neg HR2.out]; exact HJ6.out, HC6.out.mono (fun _ _ e => .inl e), HV6.out⟩
      · have g1 : (r1 != 0) = true := by simpa using hr1
        have HD4 := Lib.hid (HD3.out.trans (if_neg hr1))
        have HR1 := Lib.hid hr1
        clear HD3 hr1
        go_wp2
        go_ret
        rw [HD4.out]
        exact ⟨rfl, v5, HA5.out, by rw [if_neg HR1.out]; exact HJ5.out, HC5.out.mono (fun _ _ e => .inl e), HV5.out⟩
set_option maxRecDepth 1000000 in
set_option maxHeartbeats 4000000 in
theorem append_any {w : World} {base g : Nat} {v : Value} {d : Dv} {j n : Nat} {ended : Bool} {A : Option Addr} {b : List UInt8} {c : Nat} (h : DAt 65 w base g v d) (hj : JAt 68 w j g n ended) (hjg : v.ownBlock ≠ some j) (hC : BC w A b) (hc : b.length ≤ c) (hb : b.length < 900000000) (hn : n < 1000000000) (hbase : base ≤ w.heap.size) :
    Calls Try.prog 20 #[.pointer (some ⟨j, 0, none⟩), .slice A b.length c] w (ApRet 68 65 base g v w j n (ended || (d.app ended b).1 == 13) (d.app ended b).1 (d.app ended b).2) := by
  have HNE := Lib.hid (show j ≠ g from blk_ne hj h.blk (by decide))
  have HVJ := Lib.hid hjg
  have HLT := Lib.hid hj.lt
  have HC := Lib.hid (app_any h hj hjg hC hc hb hn hbase)
  clear h hj hjg hC
  obtain ⟨r, d2, hr⟩ : ∃ r d2, d.app ended b = (r, d2) := ⟨_, _, rfl⟩
  rw [hr] at HC ⊢
  clear hr
  go_enter Try.func20, Try.ntmps20
  go_wp2_with fail
  refine HC.out.mono ?_
  rintro e w2 ⟨rfl, v2, ha2, hj2, hc2, hv2⟩
  have HA2 := Lib.hid ha2
  have HJ2 := Lib.hid hj2
  have HC2 := Lib.hid hc2
  have HV2 := Lib.hid hv2
  clear ha2 hc2 hv2 HC
  by_cases h13 : r = 13
  · have HR := Lib.hid h13
    subst h13
    have f2 := blk_frozen hj2 2
    obtain ⟨b0, b1, b2⟩ := hj2.cells
    clear hj2
    go_wp2
    go_ret
    have hset := blk_set HJ2.out 2 (.bool true)
    have hcs : Chg w2 (w2.setCell ⟨j, 2, none⟩ (.bool true)) (fun i => i = j) := chg_set _ _ _ _
    refine ⟨rfl, v2, HA2.out.chg hcs (fun e => HNE.out e.symm) ?_, ?_, HC2.out.trans hcs (fun _ _ e => .inr e), HV2.out⟩
    · intro k hk e
      subst e
      rcases HV2.out with h1 | ⟨b1, h1, h2⟩
      · exact HVJ.out (by rw [← h1]; exact hk)
      · rw [h1] at hk; injection hk with hk; have := HLT.out; omega
    · have e1 : (ended || ((13 : Int) == 13)) = true := by simp
      rw [e1]
      unfold JAt
      rw [hset]
      simp
  · have g1 : (r == 13) = false := by simpa using h13
    have HR := Lib.hid g1
    clear h13 hj2
    go_wp2
    go_ret
    have e1 : (ended || (r == 13)) = ended := by rw [HR.out]; simp
    rw [e1]
    exact ⟨rfl, v2, HA2.out, HJ2.out, HC2.out, HV2.out⟩
end Go.Proofs.Ytiacjbandhedhaa.Jn

/- The chapter's examples hold: awake answers true. -/
namespace Go.Proofs.Ytiacjbandhedhaa.Jn
open Go.RowKit Go.Proofs.YtiacjbandhedhaaW.PrintWords Go.Proofs.YtiacjbandhedhaaW.PrintLast Go.Proofs.YtiacjbandhedhaaW.PrintMore
set_option linter.unusedSimpArgs false
set_option linter.unusedVariables false

def str (b : List UInt8) : ByteArray := ⟨b.toArray⟩
/-- string(b) -/
theorem conv_b {w : World} {A : Option Addr} {b : List UInt8} {c : Nat} (h : BC w A b) : (convert 22 9 (.slice A b.length c)).run Try.prog w = .ok (.string (str b)) w := by
  have := Kd.C_string (P := Try.prog) (c := c) (dst := 9) Try.underlying22 Try.underlying5 Try.underlying9 h
  rw [str_ib] at this
  exact this
theorem ex_open : (dv0 100).open_ = (0, dv0 100) := by kernel_rfl
theorem ex_scan : (scanAll (dv0 100).data).1 = [] := by kernel_rfl
def exd : Dv := ⟨100, [0, 0, 0, 1, 0, 98, 0, 98, 97], 9, false, 0⟩
theorem ex_app : (dv0 100).app false [97] = (0, exd) := by kernel_rfl
theorem ex_frame : frame [97] = exd.data := by kernel_rfl
theorem lit_b (w : World) (b : List UInt8) (hb : b.length < 1000000000) : BO (w.alloc (.cells (u8s b).toArray 5)) w.heap.size (.slice (some ⟨w.heap.size, 0, none⟩) b.length b.length) b :=
  bo_of_blk (blk_new w _) (Nat.le_refl _) (by omega)

theorem conv_ex {w : World} {A : Option Addr} {c : Nat} (h : BC w A exd.data) : (convert 22 9 (.slice A exd.data.length c)).run Try.prog w = .ok (.string ⟨#[0, 0, 0, 1, 0, 98, 0, 98, 97]⟩) w := conv_b h
set_option maxRecDepth 1000000 in
set_option maxHeartbeats 8000000 in
theorem awake_any (w : World) : Calls Try.prog 12 #[] w fun e w' => e = .returned (.bool true) ∧ Below w.heap.size w w' := by
  go_enter Try.func12, Try.ntmps12
  go_wp2_with fail
  refine (newdev_any w w.heap.size (Nat.le_refl _) 100 (by decide)).mono ?_
  rintro e w1 ⟨g, v, rfl, ha1, hb1, hg1, hv1⟩
  have HA1 := Lib.hid ha1
  have HB1 := Lib.hid hb1
  have HG := Lib.hid hg1
  have HV := Lib.hid hv1
  clear ha1 hb1 hg1 hv1
  go_wp2_with fail
  refine (open_any HA1.out).mono ?_
  rw [ex_open, ex_scan]
  rintro e w2 ⟨⟨v2, ha2, hc2, hv2⟩, vj, vl, rfl, hr⟩
  obtain ⟨_, j, rfl, hj2, hjlt, hR2⟩ : (0 : Int) = 0 ∧ ∃ j, vj = .pointer (some ⟨j, 0, none⟩) ∧ JAt 68 w2 j g 0 false ∧ w1.heap.size ≤ j ∧ kbs.R 22 w2 w1.heap.size (fun _ => True) vl [] := by
    rcases hr with h | ⟨h, _⟩
    · exact h
    · exact absurd rfl h
  obtain ⟨Al, cl, rfl, hll, hCl⟩ := Kd.R_reads hR2
  have HA2 := Lib.hid ha2
  have HJ2 := Lib.hid hj2
  have HB2 := Lib.hid (hc2.below HB1.out HB1.out.size (fun i _ hi => HA1.out.ft i hi))
  have HLT2 := Lib.hid (Nat.le_trans HB1.out.size hc2.size)
  clear ha2 hj2 hc2 hv2 hR2 hCl hll HA1 hr
  have HLIT := Lib.hid (lit_b w2 [97] (by decide))
  have HBL := Lib.hid ((Below.refl w2.heap.size w2).alloc (Nat.le_refl _) (.cells (u8s [97]).toArray 5))
  go_wp2_with fail
  have HA3 := Lib.hid (HA2.out.below HBL.out)
  have HJ3 := Lib.hid (HJ2.out.chg (Chg.of_below HBL.out (fun _ => False)) (fun h => h))
  have HB3 := Lib.hid (below_then HB2.out HLT2.out HBL.out)
  have HCL := Lib.hid (show BC (w2.alloc (.cells #[.int .u8 97] 5)) (some ⟨w2.heap.size, 0, none⟩) [97] from by
    obtain ⟨A, c, e, _, hC⟩ := HLIT.out.reads
    injection e with e1
    subst e1
    exact hC)
  have HLT3 := Lib.hid (show w.heap.size ≤ (w2.alloc (.cells #[.int .u8 97] 5)).heap.size from Nat.le_trans HLT2.out HBL.out.size)
  have HAP := Lib.hid (append_any HA3.out HJ3.out ((own_ne HA3.out.row HJ3.out (by decide)).symm) HCL.out (c := 1) (Nat.le_refl _) (by decide) (by decide) HLT3.out)
  rw [ex_app] at HAP
  refine HAP.out.mono ?_
  rintro e w4 ⟨rfl, v4, ha4, hj4, hc4, hv4⟩
  have HA4 := Lib.hid ha4
  have HJ4 := Lib.hid (show JAt 68 w4 j g 1 false from hj4)
  have HB4 := Lib.hid (hc4.below HB3.out HLT3.out (fun i _ hi => by
    rcases hi with hi | rfl
    · exact HA3.out.ft i hi
    · exact Nat.le_trans HB1.out.size hjlt))
  have HLT4 := Lib.hid (Nat.le_trans HLT3.out hc4.size)
  clear ha4 hj4 hc4 hv4 HAP HA3 HJ3 HB3 HCL HLT3 HLIT HBL
  have HLIT := Lib.hid (lit_b w4 [97] (by decide))
  have HBL := Lib.hid ((Below.refl w4.heap.size w4).alloc (Nat.le_refl _) (.cells (u8s [97]).toArray 5))
  go_wp2_with fail
  have HA5 := Lib.hid (HA4.out.below HBL.out)
  have HJ5 := Lib.hid (HJ4.out.chg (Chg.of_below HBL.out (fun _ => False)) (fun h => h))
  have HB5 := Lib.hid (below_then HB4.out HLT4.out HBL.out)
  have HCL := Lib.hid (show BC (w4.alloc (.cells #[.int .u8 97] 5)) (some ⟨w4.heap.size, 0, none⟩) [97] from by
    obtain ⟨A, c, e, _, hC⟩ := HLIT.out.reads
    injection e with e1
    subst e1
    exact hC)
  refine (frame_any HCL.out (c := 1) (Nat.le_refl _)).mono ?_
  rintro e w6 ⟨vf, rfl, hbo6, hb6⟩
  rw [ex_frame] at hbo6
  obtain ⟨Af, cf, hvf, hlf, hCf⟩ := hbo6.reads
  subst hvf
  have HA6 := Lib.hid (HA5.out.below hb6)
  have HJ6 := Lib.hid (HJ5.out.chg (Chg.of_below hb6 (fun _ => False)) (fun h => h))
  have HB6 := Lib.hid (below_then HB5.out HB5.out.size hb6)
  have HC6 := Lib.hid hCf
  clear hbo6 hb6 hCf HLIT HBL HA5 HJ5 HB5 HCL HA4 HJ4 HB4 HLT4 hlf
  go_wp2
  have HA7 := Lib.hid (show DAt 65 w6.drew w.heap.size g v4 exd from HA6.out.below (Below.drew (Below.refl _ _)))
  have HJ7 := Lib.hid (show JAt 68 w6.drew j g 1 false from HJ6.out)
  have HB7 := Lib.hid (Below.drew HB6.out)
  have HC7 := Lib.hid (HC6.out.below (Below.drew (Below.refl w6.heap.size w6)))
  refine start_ (n := 23) (S := fun w' => BC w' Af exd.data) (ds := []) #[false, false, false, false, false, false, false, false, false, false, false, false, false, false, false, false, false, false, false, false, false, false, false] (by kernel_rfl) rfl rfl HC7.out (fun hHeld => ?_)
  generalize w6.drew = w7 at HA7 HJ7 HB7 HC7 hHeld ⊢
  refine pure_ (i := 0) (N := (some 32)) (v := ?_) (a' := ?_) #[true, false, false, false, false, false, false, false, false, false, false, false, false, false, false, false, false, false, false, false, false, false, false] rfl rfl (by kernel_rfl) (fun _ _ _ h => h) (Or.inl ⟨by rfl, ?_⟩) ?_ ?_
  rotate_left
  · intro w'
    go_simp
    with_reducible rfl
  rotate_left
  · simp only [Act.put, List.setIfInBounds_toArray, List.set_cons_zero, List.set_cons_succ]
    rfl
  refine one_ (i := 1) (N := (some 33)) #[true, true, false, false, false, false, false, false, false, false, false, false, false, false, false, false, false, false, false, false, false, false, false] rfl rfl (by kernel_rfl) (by decide) (fun K hK => ?_)
  go_simp
  refine (bytes_any HA7.out).mono ?_
  rintro e w8 ⟨A8, rfl, hC8, hb8⟩
  have HA8 := Lib.hid (HA7.out.below hb8)
  have HJ8 := Lib.hid (HJ7.out.chg (Chg.of_below hb8 (fun _ => False)) (fun h => h))
  have HB8 := Lib.hid (below_then HB7.out HB7.out.size hb8)
  have HC8 := Lib.hid hC8
  have HCf8 := Lib.hid (HC7.out.below hb8)
  clear hb8 hC8
  refine hK.out _ _ HCf8.out (fun hHeld => ?_)
  clear hK K
  (try simp only [Act.put, List.setIfInBounds_toArray, List.set_cons_zero, List.set_cons_succ])
  refine one_ (i := 2) (N := (some 34)) #[true, true, true, false, false, false, false, false, false, false, false, false, false, false, false, false, false, false, false, false, false, false, false] rfl rfl (by kernel_rfl) (by decide) (fun K hK => ?_)
  have hcv := conv_ex (c := exd.data.length) HC8.out
  go_simp
  clear hcv
  refine hK.out _ _ HCf8.out (fun hHeld => ?_)
  clear hK K
  (try simp only [Act.put, List.setIfInBounds_toArray, List.set_cons_zero, List.set_cons_succ])
  refine pure_ (i := 3) (N := (some 35)) (v := ?_) (a' := ?_) #[true, true, true, true, false, false, false, false, false, false, false, false, false, false, false, false, false, false, false, false, false, false, false] rfl rfl (by kernel_rfl) (fun _ _ _ h => h) (Or.inl ⟨by rfl, ?_⟩) ?_ ?_
  rotate_left
  · intro w'
    go_simp
    with_reducible rfl
  rotate_left
  · simp only [Act.put, List.setIfInBounds_toArray, List.set_cons_zero, List.set_cons_succ]
    rfl
  refine pure_ (i := 4) (N := (some 36)) (v := ?_) (a' := ?_) #[true, true, true, true, true, false, false, false, false, false, false, false, false, false, false, false, false, false, false, false, false, false, false] rfl rfl (by kernel_rfl) (fun _ _ _ h => h) (Or.inl ⟨by rfl, ?_⟩) ?_ ?_
  rotate_left
  · intro w'
    go_simp
    with_reducible rfl
  rotate_left
  · simp only [Act.put, List.setIfInBounds_toArray, List.set_cons_zero, List.set_cons_succ]
    rfl
  refine pure_ (i := 5) (N := (some 37)) (v := ?_) (a' := ?_) #[true, true, true, true, true, true, false, false, false, false, false, false, false, false, false, false, false, false, false, false, false, false, false] rfl rfl (by kernel_rfl) (fun _ _ _ h => h) (Or.inl ⟨by rfl, ?_⟩) ?_ ?_
  rotate_left
  · intro w'
    go_simp
    with_reducible rfl
  rotate_left
  · simp only [Act.put, List.setIfInBounds_toArray, List.set_cons_zero, List.set_cons_succ]
    rfl
  refine take_ (i := 6) (N := (some 38)) (v := ?_) (a' := ?_) #[true, true, true, true, true, true, true, false, false, false, false, false, false, false, false, false, false, false, false, false, false, false, false] rfl rfl (by kernel_rfl) (fun _ _ _ h => h) (Or.inl ⟨by rfl, ?_⟩) hHeld ?_ ?_
  rotate_left
  · rintro w' s0
    have hcv := conv_ex (c := cf) s0
    go_simp
    with_reducible rfl
  rotate_left
  · simp only [Act.put, List.setIfInBounds_toArray, List.set_cons_zero, List.set_cons_succ]
    rfl
  refine pure_ (i := 7) (N := (some 39)) (v := ?_) (a' := ?_) #[true, true, true, true, true, true, true, true, false, false, false, false, false, false, false, false, false, false, false, false, false, false, false] rfl rfl (by kernel_rfl) (fun _ _ _ h => h) (Or.inl ⟨by rfl, ?_⟩) ?_ ?_
  rotate_left
  · intro w'
    go_simp
    with_reducible rfl
  rotate_left
  · simp only [Act.put, List.setIfInBounds_toArray, List.set_cons_zero, List.set_cons_succ]
    rfl
  refine one_ (i := 8) (N := (some 40)) #[true, true, true, true, true, true, true, true, true, false, false, false, false, false, false, false, false, false, false, false, false, false, false] rfl rfl (by kernel_rfl) (by decide) (fun K hK => ?_)
  go_simp
  refine (bytes_any HA8.out).mono ?_
  rintro e w9 ⟨A9, rfl, hC9, hb9⟩
  have HA9 := Lib.hid (HA8.out.below hb9)
  have HJ9 := Lib.hid (HJ8.out.chg (Chg.of_below hb9 (fun _ => False)) (fun h => h))
  have HB9 := Lib.hid (below_then HB8.out HB8.out.size hb9)
  have HC9 := Lib.hid hC9
  have HCf9 := Lib.hid (HCf8.out.below hb9)
  clear hb9 hC9
  refine hK.out _ _ HCf9.out (fun hHeld => ?_)
  clear hK K
  (try simp only [Act.put, List.setIfInBounds_toArray, List.set_cons_zero, List.set_cons_succ])
  refine one_ (i := 9) (N := (some 41)) #[true, true, true, true, true, true, true, true, true, true, false, false, false, false, false, false, false, false, false, false, false, false, false] rfl rfl (by kernel_rfl) (by decide) (fun K hK => ?_)
  have hcv := conv_ex (c := exd.data.length) HC9.out
  go_simp
  clear hcv
  refine hK.out _ _ HCf9.out (fun hHeld => ?_)
  clear hK K
  (try simp only [Act.put, List.setIfInBounds_toArray, List.set_cons_zero, List.set_cons_succ])
  refine pure_ (i := 10) (N := (some 42)) (v := ?_) (a' := ?_) #[true, true, true, true, true, true, true, true, true, true, true, false, false, false, false, false, false, false, false, false, false, false, false] rfl rfl (by kernel_rfl) (fun _ _ _ h => h) (Or.inl ⟨by rfl, ?_⟩) ?_ ?_
  rotate_left
  · intro w'
    go_simp
    with_reducible rfl
  rotate_left
  · simp only [Act.put, List.setIfInBounds_toArray, List.set_cons_zero, List.set_cons_succ]
    rfl
  refine pure_ (i := 11) (N := (some 43)) (v := ?_) (a' := ?_) #[true, true, true, true, true, true, true, true, true, true, true, true, false, false, false, false, false, false, false, false, false, false, false] rfl rfl (by kernel_rfl) (fun _ _ _ h => h) (Or.inl ⟨by rfl, ?_⟩) ?_ ?_
  rotate_left
  · intro w'
    go_simp
    with_reducible rfl
  rotate_left
  · simp only [Act.put, List.setIfInBounds_toArray, List.set_cons_zero, List.set_cons_succ]
    rfl
  refine pure_ (i := 12) (N := (some 44)) (v := ?_) (a' := ?_) #[true, true, true, true, true, true, true, true, true, true, true, true, true, false, false, false, false, false, false, false, false, false, false] rfl rfl (by kernel_rfl) (fun _ _ _ h => h) (Or.inl ⟨by rfl, ?_⟩) ?_ ?_
  rotate_left
  · intro w'
    go_simp
    with_reducible rfl
  rotate_left
  · simp only [Act.put, List.setIfInBounds_toArray, List.set_cons_zero, List.set_cons_succ]
    rfl
  refine pure_ (i := 13) (N := (some 45)) (v := ?_) (a' := ?_) #[true, true, true, true, true, true, true, true, true, true, true, true, true, true, false, false, false, false, false, false, false, false, false] rfl rfl (by kernel_rfl) (fun _ _ _ h => h) (Or.inl ⟨by rfl, ?_⟩) ?_ ?_
  rotate_left
  · intro w'
    go_simp
    with_reducible rfl
  rotate_left
  · simp only [Act.put, List.setIfInBounds_toArray, List.set_cons_zero, List.set_cons_succ]
    rfl
  refine one_ (i := 14) (N := (some 46)) #[true, true, true, true, true, true, true, true, true, true, true, true, true, true, true, false, false, false, false, false, false, false, false] rfl rfl (by kernel_rfl) (by decide) (fun K hK => ?_)
  go_simp
  refine (len_any HJ9.out).mono ?_
  rintro e w10 ⟨rfl, rfl⟩
  refine hK.out _ _ HCf9.out (fun hHeld => ?_)
  clear hK K
  (try simp only [Act.put, List.setIfInBounds_toArray, List.set_cons_zero, List.set_cons_succ])
  refine pure_ (i := 15) (N := (some 47)) (v := ?_) (a' := ?_) #[true, true, true, true, true, true, true, true, true, true, true, true, true, true, true, true, false, false, false, false, false, false, false] rfl rfl (by kernel_rfl) (fun _ _ _ h => h) (Or.inl ⟨by rfl, ?_⟩) ?_ ?_
  rotate_left
  · intro w'
    go_simp
    with_reducible rfl
  rotate_left
  · simp only [Act.put, List.setIfInBounds_toArray, List.set_cons_zero, List.set_cons_succ]
    rfl
  refine pure_ (i := 16) (N := (some 48)) (v := ?_) (a' := ?_) #[true, true, true, true, true, true, true, true, true, true, true, true, true, true, true, true, true, false, false, false, false, false, false] rfl rfl (by kernel_rfl) (fun _ _ _ h => h) (Or.inl ⟨by rfl, ?_⟩) ?_ ?_
  rotate_left
  · intro w'
    go_simp
    with_reducible rfl
  rotate_left
  · simp only [Act.put, List.setIfInBounds_toArray, List.set_cons_zero, List.set_cons_succ]
    rfl
  refine pure_ (i := 17) (N := (some 49)) (v := ?_) (a' := ?_) #[true, true, true, true, true, true, true, true, true, true, true, true, true, true, true, true, true, true, false, false, false, false, false] rfl rfl (by kernel_rfl) (fun _ _ _ h => h) (Or.inl ⟨by rfl, ?_⟩) ?_ ?_
  rotate_left
  · intro w'
    go_simp
    with_reducible rfl
  rotate_left
  · simp only [Act.put, List.setIfInBounds_toArray, List.set_cons_zero, List.set_cons_succ]
    rfl
  refine pure_ (i := 18) (N := (some 50)) (v := ?_) (a' := ?_) #[true, true, true, true, true, true, true, true, true, true, true, true, true, true, true, true, true, true, true, false, false, false, false] rfl rfl (by kernel_rfl) (fun _ _ _ h => h) (Or.inl ⟨by rfl, ?_⟩) ?_ ?_
  rotate_left
  · intro w'
    go_simp
    with_reducible rfl
  rotate_left
  · simp only [Act.put, List.setIfInBounds_toArray, List.set_cons_zero, List.set_cons_succ]
    rfl
  refine one_ (i := 19) (N := (some 51)) #[true, true, true, true, true, true, true, true, true, true, true, true, true, true, true, true, true, true, true, true, false, false, false] rfl rfl (by kernel_rfl) (by decide) (fun K hK => ?_)
  go_simp
  refine (down_any HA9.out).mono ?_
  rintro e w11 ⟨rfl, rfl⟩
  refine hK.out _ _ HCf9.out (fun hHeld => ?_)
  clear hK K
  (try simp only [Act.put, List.setIfInBounds_toArray, List.set_cons_zero, List.set_cons_succ])
  refine pure_ (i := 20) (N := (some 52)) (v := ?_) (a' := ?_) #[true, true, true, true, true, true, true, true, true, true, true, true, true, true, true, true, true, true, true, true, true, false, false] rfl rfl (by kernel_rfl) (fun _ _ _ h => h) (Or.inl ⟨by rfl, ?_⟩) ?_ ?_
  rotate_left
  · intro w'
    go_simp
    with_reducible rfl
  rotate_left
  · simp only [Act.put, List.setIfInBounds_toArray, List.set_cons_zero, List.set_cons_succ]
    rfl
  refine pure_ (i := 21) (N := (some 53)) (v := ?_) (a' := ?_) #[true, true, true, true, true, true, true, true, true, true, true, true, true, true, true, true, true, true, true, true, true, true, false] rfl rfl (by kernel_rfl) (fun _ _ _ h => h) (Or.inl ⟨by rfl, ?_⟩) ?_ ?_
  rotate_left
  · intro w'
    go_simp
    with_reducible rfl
  rotate_left
  · simp only [Act.put, List.setIfInBounds_toArray, List.set_cons_zero, List.set_cons_succ]
    rfl
  refine pure_ (i := 22) (N := (some 0)) (v := ?_) (a' := ?_) #[true, true, true, true, true, true, true, true, true, true, true, true, true, true, true, true, true, true, true, true, true, true, true] rfl rfl (by kernel_rfl) (fun _ _ _ h => h) (Or.inl ⟨by rfl, ?_⟩) ?_ ?_
  rotate_left
  · intro w'
    go_simp
    with_reducible rfl
  rotate_left
  · simp only [Act.put, List.setIfInBounds_toArray, List.set_cons_zero, List.set_cons_succ]
    rfl
  refine done_ (by kernel_rfl) ?_
  clear hHeld
  go_wp2
  go_ret
  exact ⟨rfl, HB9.out⟩
end Go.Proofs.Ytiacjbandhedhaa.Jn

/- Reading an argument's data as lists and numbers, kind by kind. -/
namespace Go.Proofs.Ytiacjbandhedhaa.Rd
open Go.RowKit Go.ChangeShapes Go.Deep Go.Proofs.YtiacjbandhedhaaW.PrintWords

variable {P : Program}
/-- Whatever reads as a datum of type t is of the kind d. -/
def Opens {α : Type} (P : Program) (t : TypeId) (d : Kd α) : Prop :=
  ∀ (H : Type) (enc : TypeId × Value → H) (w : World) (fuel : Nat) (cs : List Value) (x : DataW H × List MemPlace), DataW.trod enc P w 0 (fun _ => true) true fuel t cs = some x → ∃ y : α, d.K w y cs

theorem op_int {t : TypeId} {k : IntKind} (ht : P.underlying t = some (.int k)) : Opens P t (Kd.int k) := by
  intro H enc w fuel cs x h
  cases fuel with
  | zero => simp [DataW.trod] at h
  | succ n =>
    unfold DataW.trod at h
    rw [ht] at h
    split at h <;> simp_all
    exact ⟨_, rfl⟩
theorem op_string {t : TypeId} (ht : P.underlying t = some .string) : Opens P t Kd.string := by
  intro H enc w fuel cs x h
  cases fuel with
  | zero => simp [DataW.trod] at h
  | succ n =>
    unfold DataW.trod at h
    rw [ht] at h
    split at h <;> simp_all
    exact ⟨_, rfl⟩
theorem choose_list {α : Type} {Q : Nat → α → Prop} : ∀ n, (∀ i, i < n → ∃ y, Q i y) → ∃ ys : List α, ys.length = n ∧ ∀ i y, ys[i]? = some y → Q i y
  | 0, _ => ⟨[], rfl, fun i y h => by simp at h⟩
  | n + 1, h => by
    obtain ⟨ys, hl, hy⟩ := choose_list n (fun i hi => h i (by omega))
    obtain ⟨z, hz⟩ := h n (by omega)
    refine ⟨ys ++ [z], by simp [hl], fun i y hi => ?_⟩
    by_cases c : i < n
    · rw [List.getElem?_append_left (by omega)] at hi; exact hy i y hi
    · have : i = n := by
        have := (List.getElem?_eq_some_iff.1 hi).1
        simp at this; omega
      subst this
      rw [List.getElem?_append_right (by omega)] at hi
      simp [hl] at hi
      subst hi; exact hz
theorem op_slice {α : Type} {t e : TypeId} {d : Kd α} (ht : P.underlying t = some (.slice e)) (hc : P.cellsOf e = d.sz) (hd : Opens P e d) : Opens P t (Kd.slice e d) := by
  intro H enc w fuel cs x h
  rcases DataW.trod_slice ht h with ⟨rfl, _⟩ | ⟨a, len, cap, elems, rest, n, _, rfl, _, _, hl, hm, hlen, hel, _⟩
  · exact ⟨[], none, 0, rfl, Nat.le_refl _, Kd.C_nil d w⟩
  · have hQ : ∀ i, i < len → ∃ y : α, ∃ c : List Value, c.length = d.sz ∧ d.K w y c ∧ ∀ j u, c[j]? = some u → w.cell? (a.add (i * d.sz + j)) = some u := by
      intro i hi
      have h1 := hel i hi
      rw [List.getElem?_eq_getElem (by omega), Option.bind_eq_some_iff] at h1
      obtain ⟨c, hc1, hc2⟩ := h1
      obtain ⟨y, hy⟩ := hd H enc w n c _ hc2
      obtain ⟨_, hcl, hcell⟩ := World.cells?_some hc1
      refine ⟨y, c, by rw [hcl, hc], hy, fun j u hj => ?_⟩
      have := hcell j (by rw [← hcl]; exact (List.getElem?_eq_some_iff.1 hj).1)
      rw [← hc]
      rw [Addr.add_add] at this
      rw [this, hj]
    obtain ⟨ys, hyl, hys⟩ := choose_list len hQ
    subst hyl
    refine ⟨ys, some a, cap, rfl, hl, rfl, by unfold maxLen at hm; omega, fun _ => ⟨a, rfl, fun j p hj => hys j p hj⟩⟩
theorem op_struct2 {α β : Type} {t : TypeId} {f0 f1 : Field} {a : Kd α} {b : Kd β} (ht : P.underlying t = some (.struct #[f0, f1])) (h0 : Opens P f0.type a) (h1 : Opens P f1.type b) (o0 : f0.offset = 0) (c0 : P.cellsOf f0.type = a.sz) (o1 : f1.offset = a.sz) (c1 : P.cellsOf f1.type = b.sz) (ct : P.cellsOf t = a.sz + b.sz) : Opens P t (Kd.pair a b) := by
  intro H enc w fuel cs x h
  obtain ⟨y0, y1, n, _, hl, g0, g1⟩ := trod_struct2 ht h
  obtain ⟨z0, k0⟩ := h0 H enc w n _ _ g0
  obtain ⟨z1, k1⟩ := h1 H enc w n _ _ g1
  rw [o0, c0, List.drop_zero] at k0
  rw [o1, c1] at k1
  refine ⟨(z0, z1), cs.take a.sz, cs.drop a.sz, ?_, k0, ?_⟩
  · exact (List.take_append_drop _ _).symm
  · rw [List.take_of_length_le (by simp; omega)] at k1
    exact k1
theorem op_struct3 {α β γ : Type} {t : TypeId} {f0 f1 f2 : Field} {a : Kd α} {b : Kd β} {c : Kd γ} (ht : P.underlying t = some (.struct #[f0, f1, f2])) (h0 : Opens P f0.type a) (h1 : Opens P f1.type b) (h2 : Opens P f2.type c) (o0 : f0.offset = 0) (c0 : P.cellsOf f0.type = a.sz) (o1 : f1.offset = a.sz) (c1 : P.cellsOf f1.type = b.sz) (o2 : f2.offset = a.sz + b.sz) (c2 : P.cellsOf f2.type = c.sz) (ct : P.cellsOf t = a.sz + (b.sz + c.sz)) : Opens P t (Kd.pair a (Kd.pair b c)) := by
  intro H enc w fuel cs x h
  obtain ⟨y0, y1, y2, n, _, hl, g0, g1, g2⟩ := trod_struct3 ht h
  obtain ⟨z0, k0⟩ := h0 H enc w n _ _ g0
  obtain ⟨z1, k1⟩ := h1 H enc w n _ _ g1
  obtain ⟨z2, k2⟩ := h2 H enc w n _ _ g2
  rw [o0, c0, List.drop_zero] at k0
  rw [o1, c1] at k1
  rw [o2, c2] at k2
  refine ⟨(z0, z1, z2), cs.take a.sz, cs.drop a.sz, (List.take_append_drop _ _).symm, k0, (cs.drop a.sz).take b.sz, (cs.drop a.sz).drop b.sz, (List.take_append_drop _ _).symm, k1, ?_⟩
  rw [List.drop_drop]
  rw [List.take_of_length_le (by simp; omega)] at k2
  exact k2
theorem op_iso {α β : Type} {t : TypeId} {d : Kd α} (f : β → α) (g : α → β) (hfg : ∀ x, f (g x) = x) (h : Opens P t d) : Opens P t (Kd.iso d f) := by
  intro H enc w fuel cs x hx
  obtain ⟨y, hy⟩ := h H enc w fuel cs x hx
  exact ⟨g y, by show d.K w (f (g y)) cs; rw [hfg]; exact hy⟩

end Go.Proofs.Ytiacjbandhedhaa.Rd

/- Frame returns length, checksum and record: the statement's function answers true; opening of bytes. -/
namespace Go.Proofs.Ytiacjbandhedhaa.Jn
open Go.RowKit Go.Proofs.YtiacjbandhedhaaW.PrintWords Go.Proofs.YtiacjbandhedhaaW.PrintLast Go.Proofs.YtiacjbandhedhaaW.PrintMore Rd
set_option linter.unusedSimpArgs false
set_option linter.unusedVariables false

/-- A byte. -/
def kb : Kd UInt8 := Kd.iso (Kd.int .u8) (fun b : UInt8 => (b.toNat : Int))
theorem op_byte : Opens Try.prog 5 kb := by
  intro H enc w fuel cs x h
  cases fuel with
  | zero => simp [DataW.trod] at h
  | succ n =>
    unfold DataW.trod at h
    rw [Try.underlying5] at h
    split at h <;> simp_all
    rename_i k n heq
    subst heq
    have h2 := h.1
    refine ⟨UInt8.ofNat n.toNat, ?_⟩
    have h3 : 0 ≤ n ∧ n ≤ 255 := by
      have := h2.2
      simp [Lit.wf, IntKind.min, IntKind.max, IntKind.bits, IntKind.signed] at this
      omega
    show _ = [Value.int .u8 ((UInt8.ofNat n.toNat).toNat : Int)]
    rw [UInt8.toNat_ofNat']
    have : ((n.toNat % 2 ^ 8 : Nat) : Int) = n := by omega
    rw [this]
theorem op_bs : Opens Try.prog 22 (Kd.slice 5 kb) := op_slice Try.underlying22 (by kernel_rfl) op_byte
theorem op_bss : Opens Try.prog 26 (Kd.slice 22 (Kd.slice 5 kb)) := op_slice Try.underlying26 (by kernel_rfl) op_bs
theorem C_map {α β : Type} {d : Kd α} {d' : Kd β} {f : α → β} (hs : d.sz = d'.sz) (hK : ∀ w x cs, d.K w x cs → d'.K w (f x) cs) {w : World} {A : Option Addr} {n : Nat} {xs : List α} (h : d.C w A n xs) : d'.C w A n (xs.map f) := by
  refine ⟨by rw [List.length_map]; exact h.1, h.2.1, fun hp => ?_⟩
  obtain ⟨ad, e, hc⟩ := h.2.2 hp
  refine ⟨ad, e, fun j p hj => ?_⟩
  rw [List.getElem?_map, Option.map_eq_some_iff] at hj
  obtain ⟨x, hx, rfl⟩ := hj
  obtain ⟨c, h1, h2, h3⟩ := hc j x hx
  exact ⟨c, by rw [← hs]; exact h1, hK _ _ _ h2, by rw [← hs]; exact h3⟩
theorem bc_of {w : World} {A : Option Addr} {b : List UInt8} (h : kb.C w A b.length b) : BC w A b := C_map (d := kb) (d' := Kd.int .u8) (f := fun b : UInt8 => (b.toNat : Int)) rfl (fun _ _ _ h => h) h
theorem K_bs (w : World) (x : List UInt8) (cs : List Value) (h : (Kd.slice 5 kb).K w x cs) : kbs.K w (ib x) cs := by
  obtain ⟨A, c, rfl, hl, hC⟩ := h
  exact ⟨A, c, by rw [ib_length], by rw [ib_length]; exact hl, by rw [ib_length]; exact bc_of hC⟩
theorem cells_slice (A : Option Addr) (n c : Nat) : (Value.slice A n c).cells.toList = [.slice A n c] := rfl
theorem open_b {H : Type} {enc : TypeId × Value → H} {W : World} {r : Reach} {b0 : Nat} {v : Value} {d : DataW H} {p : List MemPlace} (hv : Value.okWide Try.prog W r b0 22 v) (h : DataW.Trod enc Try.prog W 0 (fun _ => true) true 22 v d p) :
    ∃ (b : List UInt8) (A : Option Addr) (c : Nat), v = .slice A b.length c ∧ b.length ≤ c ∧ BC W A b := by
  obtain ⟨A, n, c, rfl⟩ := Go.WideShapes.okWide_slice Try.underlying22 hv
  obtain ⟨m, hm⟩ := h
  obtain ⟨b, A', c', e, hl, hC⟩ := op_bs H enc W m _ _ hm
  rw [cells_slice] at e
  injection e with e
  injection e with e1 e2 e3
  subst e1 e2 e3
  exact ⟨b, A, c, rfl, hl, bc_of hC⟩
theorem open_bb {H : Type} {enc : TypeId × Value → H} {W : World} {r : Reach} {b0 : Nat} {v : Value} {d : DataW H} {p : List MemPlace} (hv : Value.okWide Try.prog W r b0 26 v) (h : DataW.Trod enc Try.prog W 0 (fun _ => true) true 26 v d p) :
    ∃ (l : List (List UInt8)) (A : Option Addr) (c : Nat), v = .slice A l.length c ∧ l.length ≤ c ∧ kbs.C W A l.length (l.map ib) := by
  obtain ⟨A, n, c, rfl⟩ := Go.WideShapes.okWide_slice Try.underlying26 hv
  obtain ⟨m, hm⟩ := h
  obtain ⟨b, A', c', e, hl, hC⟩ := op_bss H enc W m _ _ hm
  rw [cells_slice] at e
  injection e with e
  injection e with e1 e2 e3
  subst e1 e2 e3
  exact ⟨b, A, c, rfl, hl, C_map (d := Kd.slice 5 kb) (d' := kbs) (f := ib) rfl K_bs hC⟩

section
open PJournalFrame
theorem fchecksum_l0 (b : List UInt8) (hb : b.length < 1000000000) : ∀ (d k i a s : Nat), b.length - i = d → i ≤ b.length → d < k → a < 65521 → s < 65521 →
    pentaglotref53_checksum.l0 k a s (ib b) ((ib b).length : Int) i = some (((adl (b.drop i) a s).2 * 65536 + (adl (b.drop i) a s).1 : Nat) : Int) := by
  intro d
  induction d with
  | zero =>
    intro k i a s hd hi hk ha hs
    obtain ⟨k, rfl⟩ : ∃ m, k = m + 1 := ⟨k - 1, by omega⟩
    rw [pentaglotref53_checksum.l0, if_neg (by rw [ib_length]; omega), List.drop_eq_nil_of_le (by omega)]
    simp only [adl]
    congr 1
    rw [w64 (n := (s : Int) * 65536) (by omega) (by omega), w64 (by omega) (by omega)]
    omega
  | succ d ih =>
    intro k i a s hd hi hk ha hs
    obtain ⟨k, rfl⟩ : ∃ m, k = m + 1 := ⟨k - 1, by omega⟩
    have hlt : i < b.length := by omega
    have hw : wrap64 ((i : Int) + 1) = ((i + 1 : Nat) : Int) := by rw [w64 (by omega) (by omega)]; omega
    have hx := (b[i]).toNat_lt
    rw [pentaglotref53_checksum.l0, if_pos (by rw [ib_length]; omega), if_pos (by omega), if_pos (by rw [ib_length]; omega), rd_ib b i hlt, hw]
    have e1 : Int.tmod (wrap64 ((a : Int) + wrap64 (b[i].toNat : Int))) 65521 = (((a + b[i].toNat) % 65521 : Nat) : Int) := by
      rw [w64 (n := (b[i].toNat : Int)) (by omega) (by omega), w64 (by omega) (by omega), Int.tmod_eq_emod_of_nonneg (by omega)]; omega
    rw [e1]
    have e2 : Int.tmod (wrap64 ((s : Int) + (((a + b[i].toNat) % 65521 : Nat) : Int))) 65521 = (((s + (a + b[i].toNat) % 65521) % 65521 : Nat) : Int) := by
      rw [w64 (by omega) (by omega), Int.tmod_eq_emod_of_nonneg (by omega)]; omega
    rw [e2, ih k (i + 1) _ _ (by omega) (by omega) (by omega) (Nat.mod_lt _ (by omega)) (Nat.mod_lt _ (by omega)), List.drop_eq_getElem_cons hlt]
    rfl
theorem four_f (n : Nat) (hn : n < 4294967296) : pentaglotref53_four.f (n : Int) = some (ib (be4 n)) := by
  unfold pentaglotref53_four.f be4 ib
  have t1 : Int.tdiv (n : Int) 16777216 = ((n / 16777216 : Nat) : Int) := by rw [Int.tdiv_eq_ediv_of_nonneg (by omega)]; omega
  have t2 : Int.tdiv (n : Int) 65536 = ((n / 65536 : Nat) : Int) := by rw [Int.tdiv_eq_ediv_of_nonneg (by omega)]; omega
  have t3 : Int.tdiv (n : Int) 256 = ((n / 256 : Nat) : Int) := by rw [Int.tdiv_eq_ediv_of_nonneg (by omega)]; omega
  rw [t1, t2, t3, w64 (n := ((n / 16777216 : Nat) : Int)) (by omega) (by omega), w64 (n := ((n / 65536 : Nat) : Int)) (by omega) (by omega), w64 (n := ((n / 256 : Nat) : Int)) (by omega) (by omega)]
  simp only [byte_mod, List.map_cons, List.map_nil]
theorem rframe_f (b : List UInt8) (hb : b.length < 1000000000) : pentaglotref53_Frame.f (b.length + 2) (ib b) = some (ib (frame b)) := by
  have hck : pentaglotref53_checksum.f (b.length + 1) (ib b) = some (chk b : Int) := fchecksum_l0 b hb b.length (b.length + 1) 0 1 0 (by omega) (by omega) (by omega) (by omega) (by omega)
  have hcl := chk_lt b
  unfold pentaglotref53_Frame.f frame
  rw [ib_length]
  by_cases h1 : b.length < 1
  · rw [if_pos (by omega), if_neg (by omega), pentaglotref53_Frame.j0, if_pos rfl, ib_nil]
  · rw [if_neg (by omega)]
    by_cases h2 : 8192 < b.length
    · rw [if_neg (by omega), pentaglotref53_Frame.j0, if_pos (by rw [decide_eq_true_iff]; omega), ib_nil]
    · rw [if_pos (by omega), pentaglotref53_Frame.j0, if_neg (by rw [decide_eq_true_iff]; omega), ib_length, four_f _ (by omega)]
      simp only [Option.bind_some]
      rw [hck]
      simp only [Option.bind_some]
      rw [four_f _ hcl]
      simp only [Option.bind_some]
      rw [if_pos (by simp [ib_length, be4_length])]
      rw [if_pos (by simp [ib_length, be4_length]; omega)]
      rw [ib_append, ib_append]
theorem rframe_any {w : World} {A : Option Addr} {b : List UInt8} {c : Nat} (h : BC w A b) (hc : b.length ≤ c) (hb : b.length < 1000000000) :
    Calls Try.prog 14 #[.slice A b.length c] w fun e w' => ∃ v, e = .returned v ∧ BO w' w.heap.size v (frame b) ∧ Below w.heap.size w w' := by
  have := pentaglotref53_Frame.calls (b.length + 2) A c (ib b) (ib (frame b)) w (by rw [ib_length]; exact h) (by rw [ib_length]; exact hc) (rframe_f b hb)
  rw [ib_length] at this
  refine this.mono ?_
  rintro e w' ⟨v, rfl, hR, hB⟩
  refine ⟨v, rfl, ?_, hB⟩
  have := Kd.own_of_R hR
  rw [encs_ib, ib_length] at this
  exact this
end
end Go.Proofs.Ytiacjbandhedhaa.Jn
