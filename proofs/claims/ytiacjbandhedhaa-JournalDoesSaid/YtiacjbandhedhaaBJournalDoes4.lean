/- Part 4 of the proof of JournalDoes: Ju, Jv, Jw, Jx, Jy. -/
import Derived.Test.YtiacjbandhedhaaBJournalDoes3
import Derived.Test.YtiacjbandhedhaaBJournalDoes2
/- The reference's device: Write, Truncate, Crash. -/
namespace Go.Proofs.Ytiacjbandhedhaa.Jn
open Go.RowKit Go.Proofs.YtiacjbandhedhaaW.PrintWords Go.Proofs.YtiacjbandhedhaaW.PrintLast Go.Proofs.YtiacjbandhedhaaW.PrintMore
attribute [local go_sem] max2_int min2_int max_two min_two
set_option linter.unusedSimpArgs false
set_option linter.unusedVariables false
theorem at_new {w : World} {v9 v10 : Value} {w9 : World} (hb : w.heap.size ≤ w9.heap.size) (h9 : ∃ b, v9.ownBlock = some b ∧ w.heap.size ≤ b) (h : v10.ownBlock = v9.ownBlock ∨ ∃ b, v10.ownBlock = some b ∧ w9.heap.size ≤ b) : ∃ b, v10.ownBlock = some b ∧ w.heap.size ≤ b := by
  rcases h with h | ⟨b, e, hb2⟩
  · rw [h]; exact h9
  · exact ⟨b, e, Nat.le_trans hb hb2⟩
theorem lit_own2 {w : World} {o : Obj} {v : Value} {n c : Nat} (h : v.ownBlock = (Value.slice (some ⟨w.heap.size, 0, none⟩) n c).ownBlock ∨ ∃ b, v.ownBlock = some b ∧ (w.alloc o).heap.size ≤ b) : ∃ b, v.ownBlock = some b ∧ w.heap.size ≤ b :=
  lit_own (h.imp id (fun ⟨b, e, hb⟩ => ⟨b, e, Nat.le_trans ((Below.refl w.heap.size w).alloc (Nat.le_refl _) o).size hb⟩))
theorem bo_of_R1 {w : World} {base : Nat} {ok : Nat → Prop} {v : Value} {b : List UInt8} (h : (Kd.int .u8).R 5 w base ok v (ib b)) : BO w base v b := by
  have := Kd.own_of_R h
  rw [encs_ib, ib_length] at this
  exact this
set_option maxRecDepth 1000000 in
set_option maxHeartbeats 4000000 in
theorem rwrite_any {w : World} {base g : Nat} {v : Value} {d : Dv} {A : Option Addr} {b : List UInt8} {c : Nat} (h : DAt 57 w base g v d) (hC : BC w A b) (hc : b.length ≤ c) (hb : b.length < 1000000000) (hf : Far A b g) (hbase : base ≤ w.heap.size) :
    Calls Try.prog 49 #[.pointer (some ⟨g, 0, none⟩), .slice A b.length c] w (DRes 57 base g v w (d.write b).1 (d.write b).2) := by
  have H := Lib.hid h
  obtain ⟨a0, a1, a2, a3, a4⟩ := h.cells
  obtain ⟨Av, cv, hv, hlv, hCv⟩ := h.row.reads
  have hok := h.ok
  unfold Dv.ok at hok
  have HD := Lib.hid (show d.write b = if d.off = true then (13, d) else if d.size - d.data.length < b.length then (12, d) else if d.op.1 = true then (0, { d.op.2 with data := d.data ++ b }) else (13, d.op.2) from rfl)
  have HOK := Lib.hid (Dv.write_ok h.ok b)
  have HBD := Lib.hid (show d.data.length ≤ 1048576 ∧ b.length < 1000000000 by omega)
  clear h hCv
  cases hoff : d.off with
  | true =>
    have HD2 := Lib.hid (HD.out.trans (if_pos hoff))
    rw [hoff] at a3
    rw [HD2.out]
    clear HD HD2 hoff hv
    go_enter Try.func49, Try.ntmps49
    go_wp2
    go_ret
    exact ⟨rfl, DPost.refl H.out⟩
  | false =>
    have HD2 := Lib.hid (HD.out.trans (if_neg (by simp [hoff])))
    rw [hoff] at a3
    have HV := Lib.hid hv
    rw [hv] at a1
    clear HD hoff hv
    by_cases hfull : d.size - d.data.length < b.length
    · have HD3 := Lib.hid (HD2.out.trans (if_pos hfull))
      rw [HD3.out]
      have g1 : decide ((d.size : Int) - (d.data.length : Int) < (b.length : Int)) = true := decide_eq_true (by omega)
      have hwr : IntKind.i64.wrap ((d.size : Int) - (d.data.length : Int)) = (d.size : Int) - (d.data.length : Int) := i64w (by omega) (by omega)
      clear HD2 HD3 hfull
      go_enter Try.func49, Try.ntmps49
      go_wp2
      go_quiet (fail)
      go_wp2
      go_ret
      exact ⟨rfl, H.out |>.below (pw_below_drewN (Below.refl _ _) _) |> fun h => ⟨v, h, Chg.of_below (pw_below_drewN (Below.refl _ _) _) _, .inl rfl⟩⟩
    · have HD3 := Lib.hid (HD2.out.trans (if_neg hfull))
      have g1 : decide ((d.size : Int) - (d.data.length : Int) < (b.length : Int)) = false := decide_eq_false (by omega)
      have hwr : IntKind.i64.wrap ((d.size : Int) - (d.data.length : Int)) = (d.size : Int) - (d.data.length : Int) := i64w (by omega) (by omega)
      clear HD2 hfull
      go_enter Try.func49, Try.ntmps49
      go_wp2
      go_quiet (fail)
      clear g1 hwr
      go_wp2_with fail
      have HBq := Lib.hid (pw_below_drewN (Below.refl w.heap.size w) nq)
      refine (rop_any (H.out.below HBq.out)).mono ?_
      rintro e w2 ⟨rfl, ha2, hc2⟩
      have HC2 := Lib.hid ((hC.below HBq.out).chg hc2 (fun ad e hp hS => hf ad e hp hS))
      have HCH := Lib.hid ((Chg.of_below HBq.out (Ft g v)).trans (hc2.mono (S' := Ft g v) (fun _ _ e => .inl e)) (fun _ _ e => e))
      have HA2 := Lib.hid ha2
      clear a0 a1 a2 a3 a4 hc2 hC
      cases hop : d.op.1 with
      | false =>
        have HD4 := Lib.hid (HD3.out.trans (if_neg (by simp [hop])))
        clear HD3 hop ha2
        go_wp2
        go_ret
        rw [HD4.out]
        exact ⟨rfl, v, HA2.out, HCH.out, .inl rfl⟩
      | true =>
        have HD4 := Lib.hid (HD3.out.trans (if_pos hop))
        rw [HD4.out] at HOK
        obtain ⟨s1, s2, s3⟩ := d.op_same
        clear HD3 hop s1 s3
        have HCD := Lib.hid (show BC w2 Av d.data from by
          obtain ⟨A0, c0, e0, _, hC0⟩ := ha2.row.reads
          rw [HV.out] at e0
          injection e0 with e0
          subst e0
          rwa [s2] at hC0)
        have HS2 := Lib.hid s2
        obtain ⟨a0, a1, a2, a3, a4⟩ := ha2.cells
        rw [HV.out] at a1
        clear ha2 s2
        have hl0 := own_lit w2 w2.heap.size 5 .u8 [] (Nat.le_refl _) (by simp)
        have HL0 := Lib.hid hl0
        have HA0 := Lib.hid ((Below.refl w2.heap.size w2).alloc (Nat.le_refl _) (.cells #[] 5))
        clear hl0
        have a1 := (HA2.out.below HA0.out).cells.2.1
        rw [HV.out] at a1
        go_wp2_with (first | (at_builtin; (refine Kd.R_append_row (Value.int .u8) 0 (w0 := w2) w2.heap.size rfl (.tmp 26) (.tmp 30) 22 5 _ 1 rfl Try.underlying22 info5b rfl (by decide) (.slice (some ⟨w2.heap.size, 0, none⟩) 0 0) (ib []) (ib d.data) Av d.data.length cv (fun _ => True) rfl rfl (fun _ _ => trivial) (Kd.R_of_own (by simpa [nums, encs, ib] using HL0.out) (fun _ _ => trivial)) (HCD.out.below HA0.out) HA0.out HA0.out.size (by have := HBD.out; simp [ib]; omega) ?_); (intro v9 w9 hr9 hb9 hg9 hat9; have HR9 := Lib.hid (show (Kd.int .u8).R 5 w9 w2.heap.size (fun _ => True) v9 (ib d.data) from hr9); have HB9 := Lib.hid hb9; have HN9 := Lib.hid (lit_own2 hat9); clear hr9 hb9 hg9 hat9)) | (at_builtin; (refine Kd.R_append_row (Value.int .u8) 0 (w0 := w2) w2.heap.size rfl (.tmp 31) (.tmp 32) 22 5 _ 1 rfl Try.underlying22 info5b rfl (by decide) v9 (ib d.data) (ib b) A b.length c (fun _ => True) rfl rfl (fun _ _ => trivial) HR9.out (HC2.out.below HB9.out) HB9.out HB9.out.size (by have := HBD.out; rw [ib_length]; omega) ?_); (intro v10 w10 hr10 hb10 hg10 hat10; obtain ⟨A9, c9, hv9⟩ := Kd.R_slice hr10; generalize hm9 : (ib d.data ++ ib b).length = m9 at hv9; subst hv9; clear hm9; have HAT9 := Lib.hid (at_new HB9.out.size HN9.out hat10); clear HR9; have HR9 := Lib.hid hr10; clear HB9; have HB9 := Lib.hid hb10; have hk9 := (hb10.block g HA2.out.lt).trans HA2.out.blk; have HK9 := Lib.hid hk9; have a1' := blk_cell hk9 1; have f1' := blk_frozen hk9 1; have a2' := blk_cell hk9 2; have f2' := blk_frozen hk9 2; have a3' := blk_cell hk9 3; have f3' := blk_frozen hk9 3; have a4' := blk_cell hk9 4; have f4' := blk_frozen hk9 4; simp only [List.getElem?_toArray, List.getElem?_cons_succ, List.getElem?_cons_zero] at a1' a2' a3' a4'; clear hk9 hr10 hb10 hg10 hat10)))
        go_ret
        rw [HD4.out]
        have hb9 := bo_of_R HR9.out
        have hp := DPost.fresh HA2.out (d' := { d.op.2 with data := d.data ++ b }) HB9.out hb9 HAT9.out (chg_set w10 g 1 (.slice A9 m9 c9)) (by simpa using blk_set HK9.out 1 (.slice A9 m9 c9)) rfl HOK.out
        exact ⟨rfl, DPost.trans HA2.out HCH.out (.inl rfl) hp⟩
set_option maxRecDepth 1000000 in
set_option maxHeartbeats 4000000 in
theorem rtrunc_any {w : World} {base g : Nat} {v : Value} {d : Dv} (h : DAt 57 w base g v d) (n : Int) :
    Calls Try.prog 48 #[.pointer (some ⟨g, 0, none⟩), .int .i64 n] w (DRes 57 base g v w (d.trunc n).1 (d.trunc n).2) := by
  have H := Lib.hid h
  obtain ⟨a0, a1, a2, a3, a4⟩ := h.cells
  obtain ⟨Av, cv, hv, hlv, hCv⟩ := h.row.reads
  have hok := h.ok
  unfold Dv.ok at hok
  have HD := Lib.hid (show d.trunc n = if d.off = true then (13, d) else if n < 0 ∨ (d.data.length : Int) < n then (1, d) else if d.op.1 = true then (0, { d.op.2 with data := d.data.take n.toNat, safe := n.toNat }) else (13, d.op.2) from rfl)
  have HOK := Lib.hid (Dv.trunc_ok h.ok n)
  have HBD := Lib.hid (show d.data.length ≤ 1048576 by omega)
  clear h hCv
  cases hoff : d.off with
  | true =>
    have HD2 := Lib.hid (HD.out.trans (if_pos hoff))
    rw [hoff] at a3
    clear HD hoff hv
    go_enter Try.func48, Try.ntmps48
    go_wp2
    go_ret
    rw [HD2.out]
    exact ⟨rfl, DPost.refl H.out⟩
  | false =>
    have HD2 := Lib.hid (HD.out.trans (if_neg (by simp [hoff])))
    rw [hoff] at a3
    have HV := Lib.hid hv
    rw [hv] at a1
    clear HD hoff hv
    by_cases c1 : n < 0
    · have HD3 := Lib.hid (HD2.out.trans (if_pos (.inl c1)))
      clear HD2
      go_enter Try.func48, Try.ntmps48
      go_wp2
      go_ret
      rw [HD3.out]
      exact ⟨rfl, DPost.refl H.out⟩
    · by_cases c2 : (d.data.length : Int) < n
      · have HD3 := Lib.hid (HD2.out.trans (if_pos (.inr c2)))
        clear HD2
        go_enter Try.func48, Try.ntmps48
        go_wp2
        go_ret
        rw [HD3.out]
        exact ⟨rfl, DPost.refl H.out⟩
      · have HD3 := Lib.hid (HD2.out.trans (if_neg (by rintro (h | h); exact c1 h; exact c2 h)))
        clear HD2
        go_enter Try.func48, Try.ntmps48
        go_wp2_with fail
        refine (rop_any H.out).mono ?_
        rintro e w2 ⟨rfl, ha2, hc2⟩
        have HCH := Lib.hid (hc2.mono (S' := Ft g v) (fun _ _ e => .inl e))
        have HA2 := Lib.hid ha2
        clear a0 a1 a2 a3 a4 hc2
        cases hop : d.op.1 with
        | false =>
          have HD4 := Lib.hid (HD3.out.trans (if_neg (by simp [hop])))
          clear HD3 hop ha2
          go_wp2
          go_ret
          rw [HD4.out]
          exact ⟨rfl, v, HA2.out, HCH.out, .inl rfl⟩
        | true =>
          have HD4 := Lib.hid (HD3.out.trans (if_pos hop))
          rw [HD4.out] at HOK
          obtain ⟨s1, s2, s3⟩ := d.op_same
          have HS2 := Lib.hid s2
          clear HD3 hop s1 s3
          obtain ⟨m, rfl⟩ : ∃ m : Nat, n = (m : Int) := ⟨n.toNat, by omega⟩
          have hm : m ≤ d.data.length := by omega
          have hcut := cut_to_b Av d.data.length cv m (m : Int) rfl hm hlv
          have HCD := Lib.hid (show BC w2 Av (d.data.take m) from by
            obtain ⟨A0, c0, e0, _, hC0⟩ := ha2.row.reads
            rw [HV.out] at e0
            injection e0 with e0
            subst e0
            rw [s2] at hC0
            exact hC0.take hm)
          have hml : (d.data.take m).length = m := by rw [List.length_take]; omega
          obtain ⟨x, hx⟩ : ∃ x, d.data.take m = x := ⟨_, rfl⟩
          rw [hx] at HCD hml
          have HX := Lib.hid hx
          have HML := Lib.hid hml
          have HHM := Lib.hid hm
          clear ha2 s2 hx hml hm
          have hl0 := own_lit w2 w2.heap.size 5 .u8 [] (Nat.le_refl _) (by simp)
          have HL0 := Lib.hid hl0
          have HA0 := Lib.hid ((Below.refl w2.heap.size w2).alloc (Nat.le_refl _) (.cells #[] 5))
          clear hl0
          have HCE := Lib.hid (show (Kd.int .u8).C (w2.alloc (.cells #[] 5)) Av m (ib x) from by
            have := HCD.out.below HA0.out
            unfold BC at this
            rwa [HML.out] at this)
          have a1 := (HA2.out.below HA0.out).cells.2.1
          rw [HV.out] at a1
          go_wp2_with (first | (at_builtin; (refine Kd.R_append_row (Value.int .u8) 0 (w0 := w2) w2.heap.size rfl (.tmp 24) (.tmp 30) 22 5 _ 1 rfl Try.underlying22 info5b rfl (by decide) (.slice (some ⟨w2.heap.size, 0, none⟩) 0 0) (ib []) (ib x) Av m cv (fun _ => True) rfl rfl (fun _ _ => trivial) (Kd.R_of_own (by simpa [nums, encs, ib] using HL0.out) (fun _ _ => trivial)) HCE.out HA0.out HA0.out.size (by have := HBD.out; have := HHM.out; simp [ib]; omega) ?_); (intro v9 w9 hr9 hb9 hg9 hat9; obtain ⟨A9, c9, hv9⟩ := Kd.R_slice hr9; generalize hm9 : (ib [] ++ ib x).length = m9 at hv9; subst hv9; clear hm9; have HAT9 := Lib.hid (lit_own2 hat9); have HR9 := Lib.hid hr9; have HB9 := Lib.hid hb9; have hk9 := (hb9.block g HA2.out.lt).trans HA2.out.blk; have HK9 := Lib.hid hk9; have a1' := blk_cell hk9 1; have f1' := blk_frozen hk9 1; have a2' := blk_cell hk9 2; have f2' := blk_frozen hk9 2; have a3' := blk_cell hk9 3; have f3' := blk_frozen hk9 3; have a4' := blk_cell hk9 4; have f4' := blk_frozen hk9 4; simp only [List.getElem?_toArray, List.getElem?_cons_succ, List.getElem?_cons_zero] at a1' a2' a3' a4'; clear hk9 hr9 hb9 hg9 hat9 a1 hcut)))
          go_ret
          rw [HD4.out]
          have hb9 := bo_of_R1 (show (Kd.int .u8).R 5 w9 w2.heap.size (fun _ => True) (.slice A9 m9 c9) (ib x) from HR9.out)
          have hb2 := blk_set (blk_set HK9.out 1 (.slice A9 m9 c9)) 2 (.int .i64 (m : Int))
          have hp := DPost.fresh HA2.out (d' := { d.op.2 with data := d.data.take (m : Int).toNat, safe := (m : Int).toNat }) HB9.out hb9 HAT9.out ((chg_set w9 g 1 _).trans (chg_set _ g 2 _) (fun _ _ e => e)) (by simpa using hb2) (by rw [Int.toNat_natCast]; exact HX.out) HOK.out
          exact ⟨rfl, DPost.trans HA2.out HCH.out (.inl rfl) hp⟩
set_option maxRecDepth 1000000 in
set_option maxHeartbeats 4000000 in
theorem rcrash_any {w : World} {base g : Nat} {v : Value} {d : Dv} (h : DAt 57 w base g v d) (keep : Int) :
    Calls Try.prog 31 #[.pointer (some ⟨g, 0, none⟩), .int .i64 keep] w fun e w' => e = .returned (.tuple #[]) ∧ DPost 57 base g v w (d.crash keep) w' := by
  obtain ⟨Av, cv, hv, hlv, hCv⟩ := h.row.reads
  have H := Lib.hid h
  have HV := Lib.hid hv
  have hok := h.ok
  unfold Dv.ok at hok
  have HOK := Lib.hid (Dv.crash_ok h.ok keep)
  have HLE := Lib.hid (Dv.left_le h.ok keep)
  have HBD := Lib.hid (show d.data.length ≤ 1048576 by omega)
  rw [hv] at h
  obtain ⟨a0, a1, a2, a3, a4⟩ := h.cells
  clear h hv
  have hwr : IntKind.i64.wrap ((d.data.length : Int) - (d.safe : Int)) = (d.data.length : Int) - (d.safe : Int) := i64w (by omega) (by omega)
  obtain ⟨m, hm⟩ : ∃ m : Nat, d.left keep = m := ⟨_, rfl⟩
  have HM := Lib.hid hm
  rw [hm] at HLE
  obtain ⟨kk, e1⟩ : ∃ kk : Int, (if keep < 0 then (0 : Int) else keep) = kk := ⟨_, rfl⟩
  obtain ⟨mm, e2⟩ : ∃ mm : Int, (if (d.data.length : Int) - (d.safe : Int) < kk then (d.data.length : Int) - (d.safe : Int) else kk) = mm := ⟨_, rfl⟩
  have hmm : (d.safe : Int) + mm = (m : Int) := by
    unfold Dv.left at hm
    split at e1 <;> split at e2 <;> omega
  have hle := HLE.out
  have e3 : IntKind.i64.wrap ((d.safe : Int) + mm) = (m : Int) := by rw [hmm]; exact i64w (by omega) (by omega)
  have hcut := cut_to_b Av d.data.length cv m (m : Int) rfl hle hlv
  have HCUT := Lib.hid hcut
  have hml : (d.data.take m).length = m := by rw [List.length_take]; omega
  obtain ⟨x, hx⟩ : ∃ x, d.data.take m = x := ⟨_, rfl⟩
  have HCD0 := Lib.hid (show BC w Av x from hx ▸ hCv.take hle)
  rw [hx] at hml
  have HX := Lib.hid hx
  have HML := Lib.hid hml
  clear hm hmm hcut hx hml hCv
  go_enter Try.func31, Try.ntmps31
  go_wp2
  go_quiet (fail)
  clear hwr e1 e2 e3
  obtain ⟨w2, hw2⟩ : ∃ w2, w.drewN nq = w2 := ⟨_, rfl⟩
  have HAq := Lib.hid (show DAt 57 w2 base g v d from hw2 ▸ H.out.below (pw_below_drewN (Below.refl _ _) _))
  have HCq := Lib.hid (show Chg w w2 (fun i => i = g) from hw2 ▸ Chg.of_below (pw_below_drewN (Below.refl _ _) _) _)
  have HCD := Lib.hid (show BC w2 Av x from hw2 ▸ HCD0.out.below (pw_below_drewN (Below.refl _ _) _))
  rw [hw2]
  clear a0 a1 a2 a3 a4 hw2 HCD0
  have hl0 := own_lit w2 w2.heap.size 5 .u8 [] (Nat.le_refl _) (by simp)
  have HL0 := Lib.hid hl0
  have HA0 := Lib.hid ((Below.refl w2.heap.size w2).alloc (Nat.le_refl _) (.cells #[] 5))
  clear hl0
  have HCE := Lib.hid (show (Kd.int .u8).C (w2.alloc (.cells #[] 5)) Av m (ib x) from by
    have := HCD.out.below HA0.out
    unfold BC at this
    rwa [HML.out] at this)
  have a1 := (HAq.out.below HA0.out).cells.2.1
  rw [HV.out] at a1
  have hcut := HCUT.out
  go_wp2_with (first | (at_builtin; (refine Kd.R_append_row (Value.int .u8) 0 (w0 := w2) w2.heap.size rfl (.tmp 24) (.tmp 30) 22 5 _ 1 rfl Try.underlying22 info5b rfl (by decide) (.slice (some ⟨w2.heap.size, 0, none⟩) 0 0) (ib []) (ib x) Av m cv (fun _ => True) rfl rfl (fun _ _ => trivial) (Kd.R_of_own (by simpa [nums, encs, ib] using HL0.out) (fun _ _ => trivial)) HCE.out HA0.out HA0.out.size (by have := HBD.out; have := HLE.out; simp [ib]; omega) ?_); (intro v9 w9 hr9 hb9 hg9 hat9; obtain ⟨A9, c9, hv9⟩ := Kd.R_slice hr9; generalize hm9 : (ib [] ++ ib x).length = m9 at hv9; subst hv9; clear hm9; have HAT9 := Lib.hid (lit_own2 hat9); have HR9 := Lib.hid hr9; have HB9 := Lib.hid hb9; have hk9 := (hb9.block g HAq.out.lt).trans HAq.out.blk; have HK9 := Lib.hid hk9; have a1' := blk_cell hk9 1; have f1' := blk_frozen hk9 1; have a2' := blk_cell hk9 2; have f2' := blk_frozen hk9 2; have a3' := blk_cell hk9 3; have f3' := blk_frozen hk9 3; have a4' := blk_cell hk9 4; have f4' := blk_frozen hk9 4; simp only [List.getElem?_toArray, List.getElem?_cons_succ, List.getElem?_cons_zero] at a1' a2' a3' a4'; clear hk9 hr9 hb9 hg9 hat9 a1 hcut)))
  go_end0
  have hb9 := bo_of_R1 (show (Kd.int .u8).R 5 w9 w2.heap.size (fun _ => True) (.slice A9 m9 c9) (ib x) from HR9.out)
  have hb2 := blk_set (blk_set (blk_set (blk_set HK9.out 1 (.slice A9 m9 c9)) 2 (.int .i64 (m : Int))) 3 (.bool false)) 4 (.int .i64 0)
  have hcg := (((chg_set w9 g 1 (.slice A9 m9 c9)).trans (chg_set _ g 2 (.int .i64 (m : Int))) (fun _ _ e => e)).trans (chg_set _ g 3 (.bool false)) (fun _ _ e => e)).trans (chg_set _ g 4 (.int .i64 0)) (fun _ _ e => e)
  have hd : d.crash keep = { d with data := d.data.take m, safe := m, off := false, armed := 0 } := by unfold Dv.crash; rw [HM.out]
  rw [hd] at HOK ⊢
  have hp := DPost.fresh (x := x) HAq.out (d' := { d with data := d.data.take m, safe := m, off := false, armed := 0 }) HB9.out hb9 HAT9.out hcg (by simpa using hb2) HX.out HOK.out
  exact ⟨rfl, DPost.trans HAq.out (HCq.out.mono (fun _ _ e => .inl e)) (.inl rfl) hp⟩
end Go.Proofs.Ytiacjbandhedhaa.Jn

/- Steps: reading the argument; few. -/
namespace Go.Proofs.Ytiacjbandhedhaa.Jn
open Go.RowKit Go.Proofs.YtiacjbandhedhaaW.PrintWords Go.Proofs.YtiacjbandhedhaaW.PrintLast Go.Proofs.YtiacjbandhedhaaW.PrintMore Rd
set_option linter.unusedSimpArgs false
set_option linter.unusedVariables false
abbrev Num := {n : Int // n ≤ 9223372036854775807}
def ki : Kd Num := Kd.iso (Kd.int .i64) Subtype.val
abbrev Step := Int × Num × List UInt8
abbrev kst : Kd Step := Kd.pair (Kd.int .i64) (Kd.pair ki (Kd.slice 5 kb))
theorem op_num : Opens Try.prog 3 ki := by
  intro H enc w fuel cs x h
  cases fuel with
  | zero => simp [DataW.trod] at h
  | succ n =>
    unfold DataW.trod at h
    rw [Try.underlying3] at h
    split at h <;> simp_all
    rename_i k n heq
    subst heq
    have h2 := h.1.2
    have e2 : IntKind.i64.max = 9223372036854775807 := by decide
    simp only [Lit.wf, Bool.and_eq_true, decide_eq_true_eq] at h2
    exact ⟨n, by rw [← e2]; exact h2.2, rfl⟩
theorem op_st : Opens Try.prog 53 kst := op_struct3 Try.underlying53 (op_int Try.underlying3) op_num op_bs rfl (by kernel_rfl) rfl (by kernel_rfl) rfl (by kernel_rfl) (by kernel_rfl)
theorem op_sts : Opens Try.prog 44 (Kd.slice 53 kst) := op_slice Try.underlying44 (by kernel_rfl) op_st
theorem open_tt {H : Type} {enc : TypeId × Value → H} {W : World} {r : Reach} {b0 : Nat} {v : Value} {d : DataW H} {p : List MemPlace} (hv : Value.okWide Try.prog W r b0 44 v) (h : DataW.Trod enc Try.prog W 0 (fun _ => true) true 44 v d p) :
    ∃ (l : List Step) (A : Option Addr) (c : Nat), v = .slice A l.length c ∧ l.length ≤ c ∧ kst.C W A l.length l := by
  obtain ⟨A, n, c, rfl⟩ := Go.WideShapes.okWide_slice Try.underlying44 hv
  obtain ⟨m, hm⟩ := h
  obtain ⟨b, A', c', e, hl, hC⟩ := op_sts H enc W m _ _ hm
  rw [cells_slice] at e
  injection e with e
  injection e with e1 e2 e3
  subst e1 e2 e3
  exact ⟨b, A, c, rfl, hl, hC⟩
theorem at_st {w : World} {A : Option Addr} {l : List Step} (h : kst.C w A l.length l) (i : Nat) (hi : i < l.length) :
    ∃ (ad : Addr) (B : Option Addr) (c : Nat), A = some ad ∧ w.cell? (ad.add (i * 3)) = some (.int .i64 l[i].1) ∧ w.cell? ⟨(ad.add (i * 3)).block, (ad.add (i * 3)).off + 1, none⟩ = some (.int .i64 l[i].2.1.val) ∧ w.cell? ⟨(ad.add (i * 3)).block, (ad.add (i * 3)).off + 2, none⟩ = some (.slice B l[i].2.2.length c) ∧ l[i].2.2.length ≤ c ∧ BC w B l[i].2.2 := by
  obtain ⟨ad, cs, e, _, hK, hc⟩ := Kd.C_get h (0, ⟨0, by decide⟩, []) (i : Int) (by omega) (by omega)
  rw [Int.toNat_natCast] at hK hc
  rw [show l.getD i (0, ⟨0, by decide⟩, []) = l[i] by simp [hi]] at hK
  obtain ⟨c0, c1, rfl, h0, c2, c3, rfl, h1, B, c, rfl, hl, hC⟩ := hK
  replace h0 : c0 = [.int .i64 l[i].1] := h0
  replace h1 : c2 = [.int .i64 l[i].2.1.val] := h1
  subst h0 h1
  have e0 := hc 0 _ rfl
  have e1 := hc 1 _ rfl
  have e2 := hc 2 _ rfl
  rw [show i * kst.sz + 1 = i * 3 + 1 from rfl, add_field _ _ _ (by omega)] at e1
  rw [show i * kst.sz + 2 = i * 3 + 2 from rfl, add_field _ _ _ (by omega)] at e2
  exact ⟨ad, B, c, e, e0, e1, e2, hl, bc_of hC⟩
def fewB (l : List Step) : Bool := l.all (fun s => decide (s.2.2.length ≤ 9000)) && decide (l.length ≤ 30)
def FwRel (l : List Step) (w : World) (v3 : Value) (wr : World) : Prop := ∃ i : Nat, v3 = .int .i64 i ∧ i ≤ l.length ∧ (∀ s ∈ l.take i, s.2.2.length ≤ 9000) ∧ Below w.heap.size w wr
theorem all_snoc {l : List Step} {i : Nat} (h : ∀ s ∈ l.take i, s.2.2.length ≤ 9000) (hi : i < l.length) (hs : l[i].2.2.length ≤ 9000) : ∀ s ∈ l.take (i + 1), s.2.2.length ≤ 9000 := by
  intro s hm
  rw [List.take_succ_eq_append_getElem hi] at hm
  rcases List.mem_append.1 hm with hm | hm
  · exact h s hm
  · rw [List.mem_singleton.1 hm]; exact hs
set_option maxRecDepth 1000000 in
set_option maxHeartbeats 4000000 in
theorem few_any {w : World} {A : Option Addr} {l : List Step} {c : Nat} (h : kst.C w A l.length l) (hc : l.length ≤ c) :
    Calls Try.prog 27 #[.slice A l.length c] w fun e w' => e = .returned (.bool (fewB l)) ∧ Below w.heap.size w w' := by
  have HC := Lib.hid h
  have hmx : l.length ≤ 9223372036854775807 := h.2.1
  clear h
  go_enter Try.func27, Try.ntmps27
  go_wp2
  go_loopw [3] (fun v3 wr => FwRel l w v3 wr) (fun v3 _ => l.length - (intOf v3).toNat)
  case atStart => exact ⟨0, rfl, Nat.zero_le _, by simp, Below.refl _ _⟩
  case round =>
    obtain ⟨i, rfl, hi, hall, hb⟩ := hrel
    have HALL := Lib.hid hall
    have HB := Lib.hid hb
    clear hall hb
    by_cases hlt : i < l.length
    · have hi0 : 0 ≤ (i : Int) := by omega
      have hi1 : (i : Int) < (l.length : Int) := by omega
      obtain ⟨ad, B, c1, e1, q0, q1, q2, hl, hC⟩ := at_st (Kd.C_below HC.out HB.out) i hlt
      subst e1
      clear hl hC q0 q1
      by_cases hs : l[i].2.2.length ≤ 9000
      · have HS := Lib.hid hs
        have g1 : decide (9000 < (l[i].2.2.length : Int)) = false := decide_eq_false (by omega)
        have g1n : decide (9000 < l[i].2.2.length) = false := decide_eq_false (by omega)
        clear hs
        go_wp2
        go_roundw
        case rel => exact ⟨i + 1, by go_num, hlt, all_snoc HALL.out hlt HS.out, HB.out⟩
        case measure => simp [intOf]; omega
      · have HF := Lib.hid (show fewB l = false from by
          unfold fewB
          rw [Bool.and_eq_false_iff]
          left
          rw [List.all_eq_false]
          exact ⟨l[i], List.getElem_mem _, by simpa using hs⟩)
        have g1 : decide (9000 < (l[i].2.2.length : Int)) = true := decide_eq_true (by omega)
        have g1n : decide (9000 < l[i].2.2.length) = true := decide_eq_true (by omega)
        clear hs
        go_wp2
        go_ret
        exact ⟨by rw [HF.out]; rfl, HB.out⟩
    · have hin : i = l.length := by omega
      have HF := Lib.hid (show fewB l = decide (l.length ≤ 30) from by
        unfold fewB
        rw [List.all_eq_true.2 (by
          intro s hs
          have := HALL.out s (by rw [hin, List.take_length]; exact hs)
          exact decide_eq_true this), Bool.true_and])
      have g40 : decide ((i : Int) < (l.length : Int)) = false := decide_eq_false (by omega)
      clear HALL
      go_wp2
      go_ret
      exact ⟨by rw [HF.out]; simp; try omega, HB.out⟩
end Go.Proofs.Ytiacjbandhedhaa.Jn

/- Two devices side by side, the program's and the reference's: each operation on each of them. -/
namespace Go.Proofs.Ytiacjbandhedhaa.Jn
open Go.RowKit Go.Proofs.YtiacjbandhedhaaW.PrintWords Go.Proofs.YtiacjbandhedhaaW.PrintLast Go.Proofs.YtiacjbandhedhaaW.PrintMore
set_option linter.unusedSimpArgs false
set_option linter.unusedVariables false
/-- The program's device d in block g, the reference's device d2 in block q, apart, both new since w0. -/
def Pr (w0 : World) (g q : Nat) (d d2 : Dv) (w : World) : Prop :=
  ∃ v v2, DAt 65 w w0.heap.size g v d ∧ DAt 57 w w0.heap.size q v2 d2 ∧ (∀ k, v.ownBlock = some k → v2.ownBlock ≠ some k) ∧ Below w0.heap.size w0 w
/-- Blocks of other types stay. -/
def KeepO (w w' : World) : Prop := ∀ (k : Nat) (cells : Array Value) (t : Nat), w.heap[k]? = some (Obj.cells cells t (0, 0)) → t ≠ 5 → t ≠ 65 → t ≠ 57 → w'.heap[k]? = w.heap[k]?
section
variable {w0 w w' : World} {g q : Nat} {d d1 d2 : Dv}
theorem Pr.bel (h : Pr w0 g q d d2 w) : Below w0.heap.size w0 w := by
  obtain ⟨v, v2, _, _, _, hB⟩ := h
  exact hB
theorem Pr.ok (h : Pr w0 g q d d2 w) : d.ok := by
  obtain ⟨v, v2, ha, _⟩ := h
  exact ha.ok
theorem Pr.mv (h : Pr w0 g q d d2 w) (hb : Below w.heap.size w w') : Pr w0 g q d d2 w' := by
  obtain ⟨v, v2, ha, hr, hs, hB⟩ := h
  exact ⟨v, v2, ha.below hb, hr.below hb, hs, below_then hB hB.size hb⟩
theorem blk_ne {T U : Nat} {w : World} {base base2 a b : Nat} {v v2 : Value} {d d2 : Dv} (h : DAt T w base a v d) (k : DAt U w base2 b v2 d2) (hTU : T ≠ U) : a ≠ b := by
  intro e
  subst e
  have h1 := h.blk
  rw [k.blk] at h1
  injection h1 with h1
  injection h1 with h1 h2
  exact hTU h2.symm
theorem dev_own {T U : Nat} {w : World} {base base2 a b : Nat} {v v2 : Value} {d d2 : Dv} (h : DAt T w base a v d) (k : DAt U w base2 b v2 d2) (hU : 5 ≠ U) : v.ownBlock ≠ some b := (own_ne h.row k.blk hU).symm
theorem ft_other {T : Nat} {w : World} {base a k t : Nat} {v : Value} {d : Dv} {cells : Array Value} (h : DAt T w base a v d) (hk : w.heap[k]? = some (.cells cells t (0, 0))) (h5 : t ≠ 5) (hT : t ≠ T) : ¬ Ft a v k := by
  rintro (e | e)
  · subst e
    rw [h.blk] at hk
    injection hk with hk
    injection hk with _ h2
    exact hT h2.symm
  · exact own_ne h.row hk (fun e => h5 e.symm) e.symm
theorem pr_left {f : FuncId} {args : Array Value} {P : Ending → Prop} (h : Pr w0 g q d d2 w) (hc : ∀ v, DAt 65 w w0.heap.size g v d → Calls Try.prog f args w fun e w' => P e ∧ DPost 65 w0.heap.size g v w d1 w') :
    Calls Try.prog f args w fun e w' => P e ∧ Pr w0 g q d1 d2 w' ∧ KeepO w w' := by
  obtain ⟨v, v2, ha, hr, hs, hB⟩ := h
  refine (hc v ha).mono fun e w' ⟨hp, v1, a1, c1, b1⟩ => ⟨hp, ⟨v1, v2, a1, hr.chg c1 ?_ ?_, ?_, c1.below hB hB.size (fun i _ hi => ha.ft i hi)⟩, fun k cells t hk h5 h65 h57 => c1.block k (blk_lt hk) (ft_other ha hk h5 h65)⟩
  · exact ft_other ha hr.blk (by decide) (by decide)
  · rintro k hk (e | e)
    · subst e
      exact dev_own hr ha (by decide) hk
    · exact hs k e hk
  · intro k hk e
    rcases b1 with b1 | ⟨b, b1, hb⟩
    · exact hs k (by rw [← b1]; exact hk) e
    · rw [hk] at b1
      injection b1 with b1
      have := own_lt hr.row k e
      omega
theorem pr_right {f : FuncId} {args : Array Value} {P : Ending → Prop} (h : Pr w0 g q d d2 w) (hc : ∀ v, DAt 57 w w0.heap.size q v d2 → Calls Try.prog f args w fun e w' => P e ∧ DPost 57 w0.heap.size q v w d1 w') :
    Calls Try.prog f args w fun e w' => P e ∧ Pr w0 g q d d1 w' ∧ KeepO w w' := by
  obtain ⟨v, v2, ha, hr, hs, hB⟩ := h
  refine (hc v2 hr).mono fun e w' ⟨hp, v1, a1, c1, b1⟩ => ⟨hp, ⟨v, v1, ha.chg c1 ?_ ?_, a1, ?_, c1.below hB hB.size (fun i _ hi => hr.ft i hi)⟩, fun k cells t hk h5 h65 h57 => c1.block k (blk_lt hk) (ft_other hr hk h5 h57)⟩
  · exact ft_other hr ha.blk (by decide) (by decide)
  · rintro k hk (e | e)
    · subst e
      exact dev_own ha hr (by decide) hk
    · exact hs k hk e
  · intro k hk e
    rcases b1 with b1 | ⟨b, b1, hb⟩
    · exact hs k hk (by rw [← b1]; exact e)
    · rw [e] at b1
      injection b1 with b1
      have := own_lt ha.row k hk
      omega
theorem p_sync  (h : Pr w0 g q d d2 w)  : Calls Try.prog 23 #[.pointer (some ⟨g, 0, none⟩)] w fun e w' => e = .returned (.int .i64 d.sync.1) ∧ Pr w0 g q d.sync.2 d2 w' ∧ KeepO w w' :=
  pr_left h fun v hv => sync_any hv
theorem r_sync  (h : Pr w0 g q d d2 w)  : Calls Try.prog 47 #[.pointer (some ⟨q, 0, none⟩)] w fun e w' => e = .returned (.int .i64 d2.sync.1) ∧ Pr w0 g q d d2.sync.2 w' ∧ KeepO w w' :=
  pr_right h fun v hv => rsync_any hv
theorem p_trunc  (h : Pr w0 g q d d2 w) (n : Int) : Calls Try.prog 42 #[.pointer (some ⟨g, 0, none⟩), .int .i64 n] w fun e w' => e = .returned (.int .i64 (d.trunc n).1) ∧ Pr w0 g q (d.trunc n).2 d2 w' ∧ KeepO w w' :=
  pr_left h fun v hv => trunc_any hv n
theorem r_trunc  (h : Pr w0 g q d d2 w) (n : Int) : Calls Try.prog 48 #[.pointer (some ⟨q, 0, none⟩), .int .i64 n] w fun e w' => e = .returned (.int .i64 (d2.trunc n).1) ∧ Pr w0 g q d (d2.trunc n).2 w' ∧ KeepO w w' :=
  pr_right h fun v hv => rtrunc_any hv n
theorem p_crash  (h : Pr w0 g q d d2 w) (n : Int) : Calls Try.prog 24 #[.pointer (some ⟨g, 0, none⟩), .int .i64 n] w fun e w' => e = .returned (.tuple #[]) ∧ Pr w0 g q (d.crash n) d2 w' ∧ KeepO w w' :=
  pr_left h fun v hv => crash_any hv n
theorem r_crash  (h : Pr w0 g q d d2 w) (n : Int) : Calls Try.prog 31 #[.pointer (some ⟨q, 0, none⟩), .int .i64 n] w fun e w' => e = .returned (.tuple #[]) ∧ Pr w0 g q d (d2.crash n) w' ∧ KeepO w w' :=
  pr_right h fun v hv => rcrash_any hv n
theorem p_fail  (h : Pr w0 g q d d2 w) (n : Int) (hn : n ≤ 9223372036854775807) : Calls Try.prog 32 #[.pointer (some ⟨g, 0, none⟩), .int .i64 n] w fun e w' => e = .returned (.tuple #[]) ∧ Pr w0 g q (d.fail n) d2 w' ∧ KeepO w w' :=
  pr_left h fun v hv => fail_any hv n hn
theorem r_fail  (h : Pr w0 g q d d2 w) (n : Int) (hn : n ≤ 9223372036854775807) : Calls Try.prog 33 #[.pointer (some ⟨q, 0, none⟩), .int .i64 n] w fun e w' => e = .returned (.tuple #[]) ∧ Pr w0 g q d (d2.fail n) w' ∧ KeepO w w' :=
  pr_right h fun v hv => rfail_any hv n hn
theorem p_write {A : Option Addr} {b : List UInt8} {c : Nat} (h : Pr w0 g q d d2 w) (hC : BC w0 A b) (hc : b.length ≤ c) (hb : b.length < 1000000000) : Calls Try.prog 22 #[.pointer (some ⟨g, 0, none⟩), .slice A b.length c] w fun e w' => e = .returned (.int .i64 (d.write b).1) ∧ Pr w0 g q (d.write b).2 d2 w' ∧ KeepO w w' :=
  pr_left h fun v hv => write_any hv (hC.arg h.bel) hc hb (far_arg hC hv.hb) h.bel.size
theorem r_write {A : Option Addr} {b : List UInt8} {c : Nat} (h : Pr w0 g q d d2 w) (hC : BC w0 A b) (hc : b.length ≤ c) (hb : b.length < 1000000000) : Calls Try.prog 49 #[.pointer (some ⟨q, 0, none⟩), .slice A b.length c] w fun e w' => e = .returned (.int .i64 (d2.write b).1) ∧ Pr w0 g q d (d2.write b).2 w' ∧ KeepO w w' :=
  pr_right h fun v hv => rwrite_any hv (hC.arg h.bel) hc hb (far_arg hC hv.hb) h.bel.size
theorem p_down (h : Pr w0 g q d d2 w) : Calls Try.prog 26 #[.pointer (some ⟨g, 0, none⟩)] w fun e w' => e = .returned (.bool d.off) ∧ w = w' := by
  obtain ⟨v, v2, ha, hr, hs, hB⟩ := h
  exact down_any ha
theorem p_bytes (h : Pr w0 g q d d2 w) : Calls Try.prog 25 #[.pointer (some ⟨g, 0, none⟩)] w fun e w' => ∃ A, e = .returned (.slice A d.data.length d.data.length) ∧ BC w' A d.data ∧ Below w.heap.size w w' := by
  obtain ⟨v, v2, ha, hr, hs, hB⟩ := h
  exact bytes_any ha
/-- What is read of the reference's device. -/
theorem Pr.right (h : Pr w0 g q d d2 w) : ∃ A c, w.cell? ⟨q, 3, none⟩ = some (.bool d2.off) ∧ w.cell? ⟨q, 1, none⟩ = some (.slice A d2.data.length c) ∧ BC w A d2.data := by
  obtain ⟨v, v2, ha, hr, hs, hB⟩ := h
  obtain ⟨A, c, e, _, hC⟩ := hr.row.reads
  obtain ⟨a0, a1, a2, a3, a4⟩ := hr.cells
  rw [e] at a1
  exact ⟨A, c, a3, a1, hC⟩
theorem pr_new {v : Value} (h : DAt 65 w w0.heap.size g v d) (hn : ∀ k, v.ownBlock ≠ some k) (hB : Below w0.heap.size w0 w) (n : Int) (hnn : n ≤ 9223372036854775807) :
    Calls Try.prog 29 #[.int .i64 n] w fun e w' => ∃ q, e = .returned (.pointer (some ⟨q, 0, none⟩)) ∧ Pr w0 g q d (dv0 n) w' :=
  (rnewdev_any w w0.heap.size hB.size n hnn).mono fun e w' ⟨q, v2, he, hr, hb, _, _⟩ => ⟨q, he, v, v2, h.below hb, hr, fun k hk => absurd hk (hn k), below_then hB hB.size hb⟩
end
end Go.Proofs.Ytiacjbandhedhaa.Jn

/- The reference's Open and Append. -/
namespace Go.Proofs.Ytiacjbandhedhaa.Jn
open Go.RowKit Go.Proofs.YtiacjbandhedhaaW.PrintWords Go.Proofs.YtiacjbandhedhaaW.PrintLast Go.Proofs.YtiacjbandhedhaaW.PrintMore
set_option linter.unusedSimpArgs false
set_option linter.unusedVariables false
set_option maxRecDepth 1000000 in
set_option maxHeartbeats 4000000 in
theorem ropen_any {w : World} {base g : Nat} {v : Value} {d : Dv} (h : DAt 57 w base g v d) :
    Calls Try.prog 30 #[.pointer (some ⟨g, 0, none⟩)] w (OpRet 55 57 base g v w (scanAll d.data).1 d.open_.1 d.open_.2) := by
  obtain ⟨Av, cv, hv, hlv, hCv⟩ := h.row.reads
  have H := Lib.hid h
  have HV := Lib.hid hv
  have HC := Lib.hid hCv
  have hok := h.ok
  unfold Dv.ok at hok
  have HD := Lib.hid (show d.open_ = if d.off = true then (13, d) else if (scanAll d.data).2 < d.data.length then d.trunc ((scanAll d.data).2 : Int) else (0, d) from rfl)
  obtain ⟨a0, a1, a2, a3, a4⟩ := h.cells
  rw [hv] at a1
  clear h hCv hv
  cases hoff : d.off with
  | true =>
    have HD2 := Lib.hid (HD.out.trans (if_pos hoff))
    rw [hoff] at a3
    clear HD hoff
    go_enter Try.func30, Try.ntmps30
    go_wp2
    go_ret3
    rw [HD2.out]
    exact ⟨DPost.refl H.out, _, _, rfl, .inr ⟨by simp, rfl, rfl⟩⟩
  | false =>
    have HD2 := Lib.hid (HD.out.trans (if_neg (by simp [hoff])))
    rw [hoff] at a3
    have HSC := Lib.hid (rscan_any HC.out hlv (by omega))
    have hsle := scan_le (d.data.length + 1) d.data
    clear HD hoff
    go_enter Try.func30, Try.ntmps30
    go_wp2_with fail
    refine HSC.out.mono ?_
    rintro e w2 ⟨vl, rfl, hR2, hB2⟩
    have HA2 := Lib.hid (H.out.below hB2)
    have HR2 := Lib.hid hR2
    have HB2 := Lib.hid hB2
    have HRL := Lib.hid hsle.2
    have hsle1 := hsle.1
    clear a0 a1 a2 a3 a4 hR2 hB2 HSC hsle
    obtain ⟨a0, a1, a2, a3, a4⟩ := HA2.out.cells
    rw [HV.out] at a1
    obtain ⟨rs, hrs⟩ : ∃ rs, (scanAll d.data).1 = rs := ⟨_, rfl⟩
    obtain ⟨n, hn⟩ : ∃ n, (scanAll d.data).2 = n := ⟨_, rfl⟩
    have HSCN := Lib.hid (show scanAll d.data = (rs, n) by rw [← hrs, ← hn])
    obtain ⟨Al, cl, hvl, hll, hCl⟩ := Kd.R_reads HR2.out
    rw [List.length_map, hrs] at hvl hll
    rw [hrs] at HR2
    subst hvl
    have HRL2 := Lib.hid (show rs.length ≤ d.data.length by have := HRL.out; rw [show (scan (d.data.length + 1) d.data).1 = rs from hrs] at this; exact this)
    rw [show (scan (d.data.length + 1) d.data).2 = n from hn] at hsle1
    rw [show (scanAll d.data).2 = n from hn] at HD2
    have HRS := Lib.hid hrs
    rw [hn]
    clear hCl HRL hrs hn
    by_cases c1 : n < d.data.length
    · have HD3 := Lib.hid (HD2.out.trans (if_pos c1))
      clear HD2
      go_wp2_with fail
      refine (rtrunc_any HA2.out (n : Int)).mono ?_
      rintro e w3 ⟨rfl, v3, ha3, hc3, hv3⟩
      have HA3 := Lib.hid ha3
      have HC3 := Lib.hid hc3
      have HV3 := Lib.hid hv3
      have HF3 := Lib.hid (show ∀ i, w.heap.size ≤ i → i < w2.heap.size → ¬ Ft g v i from fun i h1 _ h2 => by have := H.out.ftlt i h2; omega)
      have HR3 := Lib.hid (R_chg HR2.out hc3 HF3.out)
      have HCH3 := Lib.hid ((Chg.of_below HB2.out (Ft g v)).trans hc3 (fun _ _ e => e))
      have HV4 := Lib.hid (show v3.ownBlock = v.ownBlock ∨ ∃ b, v3.ownBlock = some b ∧ w.heap.size ≤ b from hv3.imp id (fun ⟨b, e1, e2⟩ => ⟨b, e1, Nat.le_trans HB2.out.size e2⟩))
      clear a0 a1 a2 a3 a4 ha3 hc3 hv3 HR2 HA2
      obtain ⟨r, d3, htr⟩ : ∃ r d3, d.trunc (n : Int) = (r, d3) := ⟨_, _, rfl⟩
      have HTR := Lib.hid htr
      rw [htr] at HA3 HD3 ⊢
      clear htr
      by_cases c2 : r = 0
      · have g2 : (r != 0) = false := by simpa using c2
        have HR0 := Lib.hid c2
        clear c2
        go_wp2
        go_ret3
        have hal : Below w3.heap.size w3 (w3.alloc (.cells #[.pointer (some ⟨g, 0, none⟩), .int .i64 (rs.length : Int), .bool false] 55)) := (Below.refl _ _).alloc (Nat.le_refl _) _
        rw [HD3.out, HRS.out]
        refine ⟨⟨v3, HA3.out.below hal, HCH3.out.trans (Chg.of_below hal (Ft g v)) (fun _ _ e => e), HV4.out⟩, _, .slice Al rs.length cl, by rw [HR0.out]; rfl, .inl ⟨HR0.out, w3.heap.size, rfl, blk_new w3 _, HCH3.out.size, Kd.R_alloc HR3.out _⟩⟩
      · have g2 : (r != 0) = true := by simpa using c2
        have HR0 := Lib.hid c2
        clear c2
        go_wp2
        go_ret3
        rw [HD3.out]
        exact ⟨⟨v3, HA3.out, HCH3.out, HV4.out⟩, _, _, rfl, .inr ⟨HR0.out, rfl, rfl⟩⟩
    · have HD3 := Lib.hid (HD2.out.trans (if_neg c1))
      have g1 : decide ((n : Int) < (d.data.length : Int)) = false := decide_eq_false (by omega)
      clear HD2
      go_wp2
      go_ret3
      have hal : Below w2.heap.size w2 (w2.alloc (.cells #[.pointer (some ⟨g, 0, none⟩), .int .i64 (rs.length : Int), .bool false] 55)) := (Below.refl _ _).alloc (Nat.le_refl _) _
      rw [HD3.out, HRS.out]
      refine ⟨⟨v, HA2.out.below hal, Chg.of_below (HB2.out.trans (hal.mono HB2.out.size)) _, .inl rfl⟩, _, .slice Al rs.length cl, rfl, .inl ⟨rfl, w2.heap.size, rfl, blk_new w2 _, HB2.out.size, Kd.R_alloc HR2.out _⟩⟩
set_option maxRecDepth 1000000 in
set_option maxHeartbeats 4000000 in
theorem rappend_any {w : World} {base g : Nat} {v : Value} {d : Dv} {j n : Nat} {ended : Bool} {A : Option Addr} {b : List UInt8} {c : Nat} (h : DAt 57 w base g v d) (hj : JAt 55 w j g n ended) (hjg : v.ownBlock ≠ some j) (hC : BC w A b) (hc : b.length ≤ c) (hb : b.length < 900000000) (hn : n < 1000000000) (hbase : base ≤ w.heap.size) :
    Calls Try.prog 34 #[.pointer (some ⟨j, 0, none⟩), .slice A b.length c] w (ApRet 55 57 base g v w j n (ended || (d.app ended b).1 == 13) (d.app ended b).1 (d.app ended b).2) := by
  have H := Lib.hid h
  have HJ := Lib.hid hj
  have HC := Lib.hid hC
  have hne : j ≠ g := Go.Proofs.YtiacjbandhedhaaW.PrintWords.blk_ne hj h.blk (by decide)
  have HNE := Lib.hid hne
  have HVJ := Lib.hid hjg
  have f2 := blk_frozen hj 2
  obtain ⟨b0, b1, b2⟩ := hj.cells
  obtain ⟨a0, a1, a2, a3, a4⟩ := h.cells
  have HD := Lib.hid (show d.app ended b = if (ended || d.off) = true then (13, d) else if validB b = true then (if (d.write (frame b)).1 = 0 then (d.write (frame b)).2.sync else d.write (frame b)) else (1, d) from rfl)
  clear h hj hC hne hjg
  by_cases ho : (ended || d.off) = true
  · have HD2 := Lib.hid (HD.out.trans (if_pos ho))
    clear HD
    have hset := blk_set HJ.out 2 (.bool true)
    have HSET := Lib.hid hset
    clear hset
    cases ended with
    | true =>
      clear ho
      go_enter Try.func34, Try.ntmps34
      go_wp2
      go_ret
      rw [HD2.out]
      have hcs : Chg w (w.setCell ⟨j, 2, none⟩ (.bool true)) (fun i => i = j) := chg_set _ _ _ _
      refine ⟨rfl, v, H.out.chg hcs (fun e => HNE.out e.symm) (fun k hk e => HVJ.out (by rw [← e]; exact hk)), ?_, hcs.mono (fun _ _ e => .inr e), .inl rfl⟩
      rw [show (true || ((13 : Int) == 13)) = true by simp]
      unfold JAt
      rw [HSET.out]
      simp
    | false =>
      have ho2 : d.off = true := by simpa using ho
      rw [ho2] at a3
      clear ho ho2
      go_enter Try.func34, Try.ntmps34
      go_wp2
      go_ret
      rw [HD2.out]
      have hcs : Chg w (w.setCell ⟨j, 2, none⟩ (.bool true)) (fun i => i = j) := chg_set _ _ _ _
      refine ⟨rfl, v, H.out.chg hcs (fun e => HNE.out e.symm) (fun k hk e => HVJ.out (by rw [← e]; exact hk)), ?_, hcs.mono (fun _ _ e => .inr e), .inl rfl⟩
      rw [show (false || ((13 : Int) == 13)) = true by simp]
      unfold JAt
      rw [HSET.out]
      simp
  · have HD2 := Lib.hid (HD.out.trans (if_neg ho))
    have he : ended = false := by cases ended <;> simp_all
    have ho2 : d.off = false := by simpa [he] using ho
    subst he
    rw [ho2] at a3
    clear HD ho ho2
    go_enter Try.func34, Try.ntmps34
    go_wp2_with fail
    refine (rframe_any HC.out hc (by omega)).mono ?_
    rintro e w4 ⟨vf, rfl, hbo, hb4⟩
    obtain ⟨Af, cf, hvf, hlf, hCf⟩ := hbo.reads
    subst hvf
    have HFAR := Lib.hid (far_of_own hbo H.out.lt)
    have HA4 := Lib.hid (H.out.below hb4)
    have HJ4 := Lib.hid (HJ.out.chg (Chg.of_below hb4 (fun _ => False)) (fun h => h))
    have HCf := Lib.hid hCf
    have HB4 := Lib.hid hb4
    have hfl := frame_len b
    clear hbo hb4 hCf a0 a1 a2 a3 a4 b0 b1 b2 f2
    obtain ⟨b0, b1, b2⟩ := HJ4.out.cells
    cases hv : validB b with
    | false =>
      have HD3 := Lib.hid (HD2.out.trans (if_neg (by simp [hv])))
      have HF := Lib.hid (show frame b = [] from by
        unfold frame
        rw [if_neg (by simpa [validB] using hv)])
      have hl0 : (frame b).length = 0 := by rw [HF.out]; rfl
      clear hv HD2
      go_wp2
      go_ret
      rw [HD3.out]
      exact ⟨rfl, v, HA4.out, HJ4.out, Chg.of_below HB4.out _, .inl rfl⟩
    | true =>
      have HD3 := Lib.hid (HD2.out.trans (if_pos hv))
      have hl0 : ((frame b).length == 0) = false := by
        have : (frame b).length ≠ 0 := by
          unfold frame
          rw [if_pos (by simpa [validB] using hv)]
          simp [be4_length]
        simpa using this
      have hl1 : (((frame b).length : Int) == 0) = false := by
        have : (frame b).length ≠ 0 := by simpa using hl0
        simp only [beq_eq_false_iff_ne]
        omega
      have hl2 : ¬ (frame b = []) := by
        intro e
        rw [e] at hl0
        simp at hl0
      clear hv HD2
      go_wp2_with fail
      refine (rwrite_any HA4.out HCf.out hlf (by omega) HFAR.out (Nat.le_trans hbase HB4.out.size)).mono ?_
      rintro e w5 ⟨rfl, v5, ha5, hc5, hv5⟩
      have HA5 := Lib.hid ha5
      have HC5 := Lib.hid ((Chg.of_below HB4.out (Ft g v)).trans hc5 (fun _ _ e => e))
      have HV5 := Lib.hid (show v5.ownBlock = v.ownBlock ∨ ∃ b, v5.ownBlock = some b ∧ w.heap.size ≤ b from hv5.imp id (fun ⟨b, e1, e2⟩ => ⟨b, e1, Nat.le_trans HB4.out.size e2⟩))
      have HJ5 := Lib.hid (HJ4.out.chg hc5 (by rintro (e | e); exact HNE.out e; exact HVJ.out e))
      clear ha5 hc5 hv5 b0 b1 b2
      obtain ⟨r1, d1, hw1⟩ : ∃ r1 d1, d.write (frame b) = (r1, d1) := ⟨_, _, rfl⟩
      rw [hw1] at HD3 HA5
      rw [hw1]
      clear hw1 hl0 hl1 hl2
      by_cases hr1 : r1 = 0
      · have HD4 := Lib.hid (HD3.out.trans (if_pos hr1))
        subst hr1
        obtain ⟨b0, b1, b2⟩ := HJ5.out.cells
        clear HD3
        go_wp2_with fail
        refine (rsync_any HA5.out).mono ?_
        rintro e w6 ⟨rfl, v6, ha6, hc6, hv6⟩
        have HA6 := Lib.hid ha6
        have HJ6 := Lib.hid (HJ5.out.chg hc6 (by
          rintro (e | e)
          · exact HNE.out e
          · rcases HV5.out with h1 | ⟨b1, h1, h2⟩
            · exact HVJ.out (by rw [← h1]; exact e)
            · rw [h1] at e; injection e with e; have := HJ.out.lt; omega))
        have HC6 := Lib.hid (show Chg w w6 (Ft g v) from HC5.out.trans hc6 (by
          rintro i hi (e | e)
          · exact .inl e
          · rcases HV5.out with h1 | ⟨b1, h1, h2⟩
            · exact .inr (by rw [← h1]; exact e)
            · rw [h1] at e; injection e with e; omega))
        have HV6 := Lib.hid (show v6.ownBlock = v.ownBlock ∨ ∃ b, v6.ownBlock = some b ∧ w.heap.size ≤ b from by
          rcases hv6 with h1 | ⟨b1, h1, h2⟩
          · rw [h1]; exact HV5.out
          · exact .inr ⟨b1, h1, Nat.le_trans HC5.out.size h2⟩)
        clear b0 b1 b2 ha6 hc6 hv6
        obtain ⟨r2, d2, hs2⟩ : ∃ r2 d2, d1.sync = (r2, d2) := ⟨_, _, rfl⟩
        rw [show (((0 : Int), d1).2.sync) = (r2, d2) from hs2] at HD4
        rw [hs2] at HA6 ⊢
        clear hs2
        by_cases h13 : r2 = 13
        · have HR := Lib.hid h13
          subst h13
          have f2 := blk_frozen HJ6.out 2
          obtain ⟨b0, b1, b2⟩ := HJ6.out.cells
          go_wp2
          go_ret
          rw [HD4.out]
          have hset := blk_set HJ6.out 2 (.bool true)
          have hcs : Chg w6 (w6.setCell ⟨j, 2, none⟩ (.bool true)) (fun i => i = j) := chg_set _ _ _ _
          refine ⟨rfl, v6, HA6.out.chg hcs (fun e => HNE.out e.symm) ?_, ?_, (HC6.out.mono (fun _ _ e => .inl e)).trans hcs (fun _ _ e => .inr e), HV6.out⟩
          · intro k hk e
            subst e
            rcases HV6.out with h1 | ⟨b1, h1, h2⟩
            · exact HVJ.out (by rw [← h1]; exact hk)
            · rw [h1] at hk; injection hk with hk; have := HJ.out.lt; omega
          · rw [show ((false : Bool) || ((13 : Int) == 13)) = true by simp]
            unfold JAt
            rw [hset]
            simp
        · have g13 : (r2 == 13) = false := by simpa using h13
          have H13 := Lib.hid g13
          clear h13
          by_cases h0 : r2 = 0
          · have HR := Lib.hid h0
            subst h0
            have f1 := blk_frozen HJ6.out 1
            obtain ⟨b0, b1, b2⟩ := HJ6.out.cells
            go_wp2
            go_ret
            rw [HD4.out]
            have hset := blk_set HJ6.out 1 (.int .i64 ((n : Int) + 1))
            have hcs : Chg w6 (w6.setCell ⟨j, 1, none⟩ (.int .i64 ((n : Int) + 1))) (fun i => i = j) := chg_set _ _ _ _
            refine ⟨rfl, v6, HA6.out.chg hcs (fun e => HNE.out e.symm) ?_, ?_, (HC6.out.mono (fun _ _ e => .inl e)).trans hcs (fun _ _ e => .inr e), HV6.out⟩
            · intro k hk e
              subst e
              rcases HV6.out with h1 | ⟨b1, h1, h2⟩
              · exact HVJ.out (by rw [← h1]; exact hk)
              · rw [h1] at hk; injection hk with hk; have := HJ.out.lt; omega
            · rw [if_pos rfl, show ((false : Bool) || ((0 : Int) == 13)) = false by simp]
              unfold JAt
              rw [hset]
              simp
          · have g0 : (r2 == 0) = false := by simpa using h0
            have H0 := Lib.hid h0
            clear h0
            go_wp2
            go_ret
            rw [HD4.out]
            exact ⟨rfl, v6, HA6.out, by rw [if_neg H0.out, H13.out]; exact HJ6.out, HC6.out.mono (fun _ _ e => .inl e), HV6.out⟩
      · have HD4 := Lib.hid (HD3.out.trans (if_neg hr1))
        have g1 : (r1 == 0) = false := by simpa using hr1
        have HR1 := Lib.hid hr1
        clear HD3 hr1
        by_cases h13 : r1 = 13
        · have HR := Lib.hid h13
          subst h13
          have f2 := blk_frozen HJ5.out 2
          obtain ⟨b0, b1, b2⟩ := HJ5.out.cells
          go_wp2
          go_ret
          rw [HD4.out]
          have hset := blk_set HJ5.out 2 (.bool true)
          have hcs : Chg w5 (w5.setCell ⟨j, 2, none⟩ (.bool true)) (fun i => i = j) := chg_set _ _ _ _
          refine ⟨rfl, v5, HA5.out.chg hcs (fun e => HNE.out e.symm) ?_, ?_, (HC5.out.mono (fun _ _ e => .inl e)).trans hcs (fun _ _ e => .inr e), HV5.out⟩
          · intro k hk e
            subst e
            rcases HV5.out with h1 | ⟨b1, h1, h2⟩
            · exact HVJ.out (by rw [← h1]; exact hk)
            · rw [h1] at hk; injection hk with hk; have := HJ.out.lt; omega
          · rw [show ((false : Bool) || ((13 : Int) == 13)) = true by simp]
            unfold JAt
            rw [hset]
            simp
        · have g13 : (r1 == 13) = false := by simpa using h13
          have H13 := Lib.hid g13
          clear h13
          have H0 := Lib.hid (show ¬ r1 = 0 from HR1.out)
          have g0 : (r1 == 0) = false := by simpa using H0.out
          go_wp2
          go_ret
          rw [HD4.out]
          exact ⟨rfl, v5, HA5.out, by rw [if_neg H0.out, H13.out]; exact HJ5.out, HC5.out.mono (fun _ _ e => .inl e), HV5.out⟩
end Go.Proofs.Ytiacjbandhedhaa.Jn

/- The two devices with journals: Open and Append on each of them. -/
namespace Go.Proofs.Ytiacjbandhedhaa.Jn
open Go.RowKit Go.Proofs.YtiacjbandhedhaaW.PrintWords Go.Proofs.YtiacjbandhedhaaW.PrintLast Go.Proofs.YtiacjbandhedhaaW.PrintMore
set_option linter.unusedSimpArgs false
set_option linter.unusedVariables false
/-- Blocks of other types than 5, T and U stay. -/
def KeepT (T U : Nat) (w w' : World) : Prop := ∀ (k : Nat) (cells : Array Value) (t : Nat), w.heap[k]? = some (Obj.cells cells t (0, 0)) → t ≠ 5 → t ≠ T → t ≠ U → w'.heap[k]? = w.heap[k]?
/-- As Pr; the reference's blocks are older than B. -/
def PrB (w0 : World) (g q : Nat) (d d2 : Dv) (B : Nat) (w : World) : Prop :=
  ∃ v v2, DAt 65 w w0.heap.size g v d ∧ DAt 57 w w0.heap.size q v2 d2 ∧ (∀ k, v.ownBlock = some k → v2.ownBlock ≠ some k) ∧ Below w0.heap.size w0 w ∧ (∀ i, Ft q v2 i → i < B)
section
variable {w0 w w' : World} {g q j k n B : Nat} {d d1 d2 : Dv} {en : Bool}
theorem PrB.pr (h : PrB w0 g q d d2 B w) : Pr w0 g q d d2 w := by
  obtain ⟨v, v2, ha, hr, hs, hB, _⟩ := h
  exact ⟨v, v2, ha, hr, hs, hB⟩
theorem JAt.keepO {T : Nat} (h : JAt T w j g n en) (hk : KeepO w w') (h5 : T ≠ 5) (h65 : T ≠ 65) (h57 : T ≠ 57) : JAt T w' j g n en := (hk _ _ _ h h5 h65 h57).trans h
theorem JAt.keepT {T U V : Nat} (h : JAt T w j g n en) (hk : KeepT U V w w') (h5 : T ≠ 5) (hU : T ≠ U) (hV : T ≠ V) : JAt T w' j g n en := (hk _ _ _ h h5 hU hV).trans h
theorem JAt.below {T : Nat} (h : JAt T w j g n en) (hb : Below w.heap.size w w') : JAt T w' j g n en := h.chg (Chg.of_below hb (fun _ => False)) (fun h => h)
/-- What Open hands back. -/
def OpBack (TJ : Nat) (w : World) (rs : List (List UInt8)) (r : Int) (w0 : World) (g : Nat) (e : Ending) (w' : World) : Prop :=
  ∃ vj vl, e = .returned (.tuple #[vj, vl, .int .i64 r]) ∧ ((r = 0 ∧ ∃ j, vj = .pointer (some ⟨j, 0, none⟩) ∧ JAt TJ w' j g rs.length false ∧ w0.heap.size ≤ j ∧ kbs.R 22 w' w.heap.size (fun _ => True) vl (rs.map ib)) ∨ (r ≠ 0 ∧ vj = .pointer none ∧ vl = .slice none 0 0))
theorem open_left (h : Pr w0 g q d d2 w) : Calls Try.prog 19 #[.pointer (some ⟨g, 0, none⟩)] w fun e w' => OpBack 68 w (scanAll d.data).1 d.open_.1 w0 g e w' ∧ PrB w0 g q d.open_.2 d2 w.heap.size w' ∧ KeepO w w' := by
  obtain ⟨v, v2, ha, hr, hs, hB⟩ := h
  refine (open_any ha).mono fun e w' ⟨⟨v1, a1, c1, b1⟩, vj, vl, he, hv⟩ => ⟨⟨vj, vl, he, hv.imp (fun ⟨h0, j, hj, hja, hl, hR⟩ => ⟨h0, j, hj, hja, Nat.le_trans hB.size hl, hR⟩) id⟩, ⟨v1, v2, a1, hr.chg c1 ?_ ?_, ?_, c1.below hB hB.size (fun i _ hi => ha.ft i hi), fun i hi => hr.ftlt i hi⟩, fun k cells t hk h5 h65 h57 => c1.block k (blk_lt hk) (ft_other ha hk h5 h65)⟩
  · exact ft_other ha hr.blk (by decide) (by decide)
  · rintro k hk (e | e)
    · subst e
      exact dev_own hr ha (by decide) hk
    · exact hs k e hk
  · intro k hk e
    rcases b1 with b1 | ⟨b, b1, hb⟩
    · exact hs k (by rw [← b1]; exact hk) e
    · rw [hk] at b1
      injection b1 with b1
      have := own_lt hr.row k e
      omega
theorem open_right (h : PrB w0 g q d d2 B w) : Calls Try.prog 30 #[.pointer (some ⟨q, 0, none⟩)] w fun e w' => OpBack 55 w (scanAll d2.data).1 d2.open_.1 w0 q e w' ∧ Pr w0 g q d d2.open_.2 w' ∧ KeepO w w' ∧ (∀ (vl : Value) (xs : List (List Int)), kbs.R 22 w B (fun _ => True) vl xs → kbs.R 22 w' B (fun _ => True) vl xs) := by
  obtain ⟨v, v2, ha, hr, hs, hB, hlt⟩ := h
  refine (ropen_any hr).mono fun e w' ⟨⟨v1, a1, c1, b1⟩, vj, vl, he, hv⟩ => ⟨⟨vj, vl, he, hv.imp (fun ⟨h0, j, hj, hja, hl, hR⟩ => ⟨h0, j, hj, hja, Nat.le_trans hB.size hl, hR⟩) id⟩, ⟨v, v1, ha.chg c1 ?_ ?_, a1, ?_, c1.below hB hB.size (fun i _ hi => hr.ft i hi)⟩, fun k cells t hk h5 h65 h57 => c1.block k (blk_lt hk) (ft_other hr hk h5 h57), fun vl xs hR => R_chg hR c1 (fun i hi _ hf => by have := hlt i hf; omega)⟩
  · exact ft_other hr ha.blk (by decide) (by decide)
  · rintro k hk (e | e)
    · subst e
      exact dev_own ha hr (by decide) hk
    · exact hs k hk e
  · intro k hk e
    rcases b1 with b1 | ⟨b, b1, hb⟩
    · exact hs k hk (by rw [← b1]; exact e)
    · rw [e] at b1
      injection b1 with b1
      have := own_lt ha.row k hk
      omega
theorem j_ne {T U t : Nat} {w : World} {j k g n : Nat} {en : Bool} {cells : Array Value} (h : JAt T w j g n en) (hk : w.heap[k]? = some (Obj.cells cells t (0, 0))) (ht : t ≠ T) : ¬ k = j := by
  intro e
  subst e
  unfold JAt at h
  rw [hk] at h
  injection h with h
  injection h with _ h
  exact ht h
theorem app_left {A : Option Addr} {b : List UInt8} {c : Nat} (h : Pr w0 g q d d2 w) (hj : JAt 68 w j g n en) (hjb : w0.heap.size ≤ j) (hC : BC w0 A b) (hc : b.length ≤ c) (hb : b.length < 900000000) (hn : n < 1000000000) :
    Calls Try.prog 20 #[.pointer (some ⟨j, 0, none⟩), .slice A b.length c] w fun e w' => e = .returned (.int .i64 (d.app en b).1) ∧ Pr w0 g q (d.app en b).2 d2 w' ∧ JAt 68 w' j g (if (d.app en b).1 = 0 then n + 1 else n) (en || (d.app en b).1 == 13) ∧ KeepT 65 68 w w' := by
  obtain ⟨v, v2, ha, hr, hs, hB⟩ := h
  refine (append_any ha hj ((own_ne ha.row hj (by decide)).symm) (hC.arg hB) hc hb hn hB.size).mono fun e w' ⟨he, v1, a1, j1, c1, b1⟩ => ⟨he, ⟨v1, v2, a1, hr.chg c1 ?_ ?_, ?_, c1.below hB hB.size ?_⟩, j1, fun k cells t hk h5 h65 h68 => c1.block k (blk_lt hk) (by
    rintro (e | e)
    · exact ft_other ha hk h5 h65 e
    · exact j_ne (U := 0) hj hk h68 e)⟩
  · rintro (e | e)
    · exact ft_other ha hr.blk (by decide) (by decide) e
    · exact j_ne (U := 0) hj hr.blk (by decide) e
  · rintro k hk ((e | e) | e)
    · subst e
      exact dev_own hr ha (by decide) hk
    · exact hs k e hk
    · subst e
      exact own_ne hr.row hj (by decide) hk.symm
  · intro k hk e
    rcases b1 with b1 | ⟨b, b1, hb⟩
    · exact hs k (by rw [← b1]; exact hk) e
    · rw [hk] at b1
      injection b1 with b1
      have := own_lt hr.row k e
      omega
  · rintro i hi (e | e)
    · exact ha.ft i e
    · rw [e]; exact hjb
theorem app_right {A : Option Addr} {b : List UInt8} {c : Nat} (h : Pr w0 g q d d2 w) (hj : JAt 55 w j q n en) (hjb : w0.heap.size ≤ j) (hC : BC w0 A b) (hc : b.length ≤ c) (hb : b.length < 900000000) (hn : n < 1000000000) :
    Calls Try.prog 34 #[.pointer (some ⟨j, 0, none⟩), .slice A b.length c] w fun e w' => e = .returned (.int .i64 (d2.app en b).1) ∧ Pr w0 g q d (d2.app en b).2 w' ∧ JAt 55 w' j q (if (d2.app en b).1 = 0 then n + 1 else n) (en || (d2.app en b).1 == 13) ∧ KeepT 57 55 w w' := by
  obtain ⟨v, v2, ha, hr, hs, hB⟩ := h
  refine (rappend_any hr hj ((own_ne hr.row hj (by decide)).symm) (hC.arg hB) hc hb hn hB.size).mono fun e w' ⟨he, v1, a1, j1, c1, b1⟩ => ⟨he, ⟨v, v1, ha.chg c1 ?_ ?_, a1, ?_, c1.below hB hB.size ?_⟩, j1, fun k cells t hk h5 h57 h55 => c1.block k (blk_lt hk) (by
    rintro (e | e)
    · exact ft_other hr hk h5 h57 e
    · exact j_ne (U := 0) hj hk h55 e)⟩
  · rintro (e | e)
    · exact ft_other hr ha.blk (by decide) (by decide) e
    · exact j_ne (U := 0) hj ha.blk (by decide) e
  · rintro k hk ((e | e) | e)
    · subst e
      exact dev_own ha hr (by decide) hk
    · exact hs k hk e
    · subst e
      exact own_ne ha.row hj (by decide) hk.symm
  · intro k hk e
    rcases b1 with b1 | ⟨b, b1, hb⟩
    · exact hs k hk (by rw [← b1]; exact e)
    · rw [e] at b1
      injection b1 with b1
      have := own_lt ha.row k hk
      omega
  · rintro i hi (e | e)
    · exact hr.ft i e
    · rw [e]; exact hjb
end
end Go.Proofs.Ytiacjbandhedhaa.Jn
