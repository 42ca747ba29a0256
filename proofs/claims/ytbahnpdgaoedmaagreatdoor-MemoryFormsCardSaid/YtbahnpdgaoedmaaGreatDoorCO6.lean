/- Part 6 of the proof of MemoryForms: Mcl, Mea104, Mea105, Mov, Miv, PMemoryExactx22, Mcn, PMemoryExactx2. -/
import Derived.Test.YtbahnpdgaoedmaaGreatDoorCO5
import Derived.Test.YtbahnpdgaoedmaaGreatDoorCO3
import Derived.WalkSpells
namespace Go.Proofs.YtbahnpdgaoedmaaGreatDoor.Mm
open Go.RowKit Go.Proofs.YtbahnpdgaoedmaaGreatDoorW.PrintWords Go.Proofs.YtbahnpdgaoedmaaGreatDoorW.PrintLast Go.Proofs.YtbahnpdgaoedmaaGreatDoorW.PrintMore Go.Proofs.YtbahnpdgaoedmaaGreatDoor.PMemoryExact
set_option linter.unusedSimpArgs false
set_option linter.unusedVariables false
theorem join_any {op : Int} (hop : op = 5 ∨ op = 6) {w : World} {A : Option Addr} {l : List S32} {c : Nat} {ok : Nat → Prop} (h : Kd.F k32 w ok A l.length l) (hok : ∀ k, ok k → k < w.heap.size) (hsz : size.sizes l < 1000000) :
  Calls Tryz.prog 80 #[.int .i64 op, .slice A l.length c] w fun e w' => Fr w w' ok (join op l) e := by
 rcases hop with rfl | rfl
 ·exact join5 h hok hsz
 ·exact join6 h hok hsz
theorem box_slot (w : World) (X : Array Value) : ((w.alloc (.cells X 32)).alloc (.cells z6 32)).heap.size = w.heap.size + 2 ∧ ((w.alloc (.cells X 32)).alloc (.cells z6 32)).heap[w.heap.size]? = some (.cells X 32 (0, 0)) ∧ ((w.alloc (.cells X 32)).alloc (.cells z6 32)).heap[w.heap.size + 1]? = some (.cells z6 32 (0, 0)) ∧ Below w.heap.size w ((w.alloc (.cells X 32)).alloc (.cells z6 32)) := by
 obtain ⟨h1, h2, h3⟩ := two_box w X z6 32
 exact ⟨by show ((w.heap.push _).push _).size = _; simp, h1, h2, h3.1⟩
set_option maxRecDepth 1000000 in
set_option maxHeartbeats 4000000 in
theorem const_any (w : World) (b : Bool) (ok : Nat → Prop) : Calls Tryz.prog 78 #[.bool b] w fun e w' => Fr w w' ok (const b) e := by
 have hsb := Lib.hid (show ∀ X, _ from fun X : Array Value => blk_new w (.cells X 32))
 have hbl := Lib.hid (show ∀ X, _ from fun X : Array Value => (Below.refl w.heap.size w).alloc (Nat.le_refl _) (.cells X 32))
 cases b with
 | true =>
  go_enter Tryz.func78, Tryz.ntmps78
  go_wp2
  refine bodyPost_ret (res_slot rfl _ _ _ _ _ _ _ _ _ rfl (hsb.out _)) rfl ?_
  exact ⟨_, rfl, k32_mkF _ _ (mk0 1) (Nat.le_refl _) (Kd.F_nil k84 _ _) (Nat.le_refl _) (Kd.F_nil k32 _ _), hbl.out _⟩
 | false =>
  go_enter Tryz.func78, Tryz.ntmps78
  go_wp2
  refine bodyPost_ret (res_slot rfl _ _ _ _ _ _ _ _ _ rfl (hsb.out _)) rfl ?_
  exact ⟨_, rfl, k32_mkF _ _ (mk0 2) (Nat.le_refl _) (Kd.F_nil k84 _ _) (Nat.le_refl _) (Kd.F_nil k32 _ _), hbl.out _⟩
/-- A building closure. -/
def BuildOk (fid p q : Nat) (b : S32 → S32) (B : Nat) (w0 : World) : Prop :=
 ∀ (W : World) (x : S32) (cs : List Value) (ok : Nat → Prop), Below B w0 W → Kd.FK k32 W ok x cs → (∀ k, ok k → k < W.heap.size) → Calls Tryz.prog fid #[.agg cs.toArray, .pointer (some ⟨p, 0, none⟩), .pointer (some ⟨q, 0, none⟩)] W fun e W' => Fr W W' ok (b x) e
/-- A formula over a row. -/
theorem many_FK {W : World} {g cap : Nat} {ok' : Nat → Prop} {ps : List (S32 × List Value)} (o : Int) (nm : ByteArray) (f t : Int) (hR : RowAt W g ok' cap ps) : Kd.FK k32 W (fun k => ok' k ∨ k = g) ⟨o, nm, [], f, t, ps.map (·.1)⟩ [.int .i64 o, .string nm, .slice none 0 0, .int .i64 f, .int .i64 t, .slice (some ⟨g, 0, none⟩) ps.length cap] := by
 have hF := k32_mkF W (fun k => ok' k ∨ k = g) ⟨o, nm, [], f, t, ps.map (·.1)⟩ (A2 := none) (c2 := 0) (A5 := some ⟨g, 0, none⟩) (c5 := cap) (Nat.le_refl _) (Kd.F_nil k84 _ _) (by rw [List.length_map]; exact hR.le) (by rw [List.length_map]; exact hR.F)
 rw [show (List.map (fun x : S32 × List Value => x.1) ps).length = ps.length from List.length_map _] at hF
 exact hF
/-- What a building closure ends with: a slot, and a row of one. -/
theorem build_end {W : World} {x : S32} {cs : List Value} {ok : Nat → Prop} (hF : Kd.FK k32 W ok x cs) (hok : ∀ k, ok k → k < W.heap.size) (X : Array Value) (o : Int) (nm : ByteArray) (f t : Int) :
  (((W.alloc (.cells X 32)).alloc (.cells #[.int .i64 o, .string nm, .slice none 0 0, .int .i64 f, .int .i64 t, .slice (some ⟨W.heap.size + 1 + 1, 0, none⟩) 1 1] 32)).alloc (.cells cs.toArray 32)).heap[W.heap.size + 1]? = some (.cells #[.int .i64 o, .string nm, .slice none 0 0, .int .i64 f, .int .i64 t, .slice (some ⟨W.heap.size + 1 + 1, 0, none⟩) 1 1] 32 (0, 0)) ∧
  Fr W (((W.alloc (.cells X 32)).alloc (.cells #[.int .i64 o, .string nm, .slice none 0 0, .int .i64 f, .int .i64 t, .slice (some ⟨W.heap.size + 1 + 1, 0, none⟩) 1 1] 32)).alloc (.cells cs.toArray 32)) ok ⟨o, nm, [], f, t, [x]⟩ (.returned (.agg #[.int .i64 o, .string nm, .slice none 0 0, .int .i64 f, .int .i64 t, .slice (some ⟨W.heap.size + 1 + 1, 0, none⟩) 1 1])) := by
 generalize hY : (#[.int .i64 o, .string nm, .slice none 0 0, .int .i64 f, .int .i64 t, .slice (some ⟨W.heap.size + 1 + 1, 0, none⟩) 1 1] : Array Value) = Y
 obtain ⟨h1, h2, h3⟩ := two_box W X Y 32
 have hs : ((W.alloc (.cells X 32)).alloc (.cells Y 32)).heap.size = W.heap.size + 2 := by show ((W.heap.push _).push _).size = _; simp
 have hB3 := (Below.refl ((W.alloc (.cells X 32)).alloc (.cells Y 32)).heap.size ((W.alloc (.cells X 32)).alloc (.cells Y 32))).alloc (Nat.le_refl _) (.cells cs.toArray 32)
 have hb := blk_new ((W.alloc (.cells X 32)).alloc (.cells Y 32)) (.cells cs.toArray 32)
 rw [hs] at hb
 have hB4 := below_then h3.1 h3.1.size hB3
 have hR := row_one hb (Kd.FK_step hF (fun k _ hk => hB4.block k hk)) (fun k hk => by have := hok k hk; omega)
 have hM := many_FK o nm f t hR
 have hYl : Y.toList = [.int .i64 o, .string nm, .slice none 0 0, .int .i64 f, .int .i64 t, .slice (some ⟨W.heap.size + 1 + 1, 0, none⟩) 1 1] := by rw [← hY]
 refine ⟨(hB3.block _ (by rw [hs]; omega)).trans h2, Y.toList, by rw [Array.toArray_toList], Kd.FK_mono (by rw [hYl]; exact hM) (fun k hk => ?_), hB4⟩
 rcases hk with hk | rfl
 ·exact Or.inl hk
 ·exact Or.inr (by omega)
set_option maxRecDepth 1000000 in
set_option maxHeartbeats 4000000 in
theorem bld104 {w0 : World} {B p q : Nat} {f t : Int} (hp : w0.cell? ⟨p, 0, none⟩ = some (.int .i64 f)) (hq : w0.cell? ⟨q, 0, none⟩ = some (.int .i64 t)) (hpB : p < B) (hqB : q < B) :
  BuildOk 104 p q (fun k => ⟨10, eStr, [], f, t, [k]⟩) B w0 := by
 intro W x cs ok hB hF hok
 have hp2 := (hB.cell hpB).trans hp
 have hq2 := (hB.cell hqB).trans hq
 obtain ⟨A2, c2, A5, c5, rfl, _⟩ := k32_openF hF
 have HE := Lib.hid (build_end hF hok #[.int .i64 x.f0, .string x.f1, .slice A2 x.f2.length c2, .int .i64 x.f3, .int .i64 x.f4, .slice A5 x.f5.length c5] 10 ⟨#[]⟩ f t)
 have hbs := (box_slot W #[.int .i64 x.f0, .string x.f1, .slice A2 x.f2.length c2, .int .i64 x.f3, .int .i64 x.f4, .slice A5 x.f5.length c5]).2.2.2
 have hp3 := (hbs.cell (World.block_lt_of_cell? W _ hp2)).trans hp2
 have hq3 := (hbs.cell (World.block_lt_of_cell? W _ hq2)).trans hq2
 clear hF hok hp hq hpB hqB hB hbs
 go_enter Tryz.func104, Tryz.ntmps104
 go_wp2
 refine bodyPost_ret (res_slot rfl _ _ _ _ _ _ _ _ _ rfl HE.out.1) rfl ?_
 exact HE.out.2
set_option maxRecDepth 1000000 in
set_option maxHeartbeats 4000000 in
theorem bld105 {w0 : World} {B p q : Nat} {o : Int} {nm : ByteArray} (hp : w0.cell? ⟨p, 0, none⟩ = some (.int .i64 o)) (hq : w0.cell? ⟨q, 0, none⟩ = some (.string nm)) (hpB : p < B) (hqB : q < B) :
  BuildOk 105 p q (fun k => ⟨o, nm, [], 0, 0, [k]⟩) B w0 := by
 intro W x cs ok hB hF hok
 have hp2 := (hB.cell hpB).trans hp
 have hq2 := (hB.cell hqB).trans hq
 obtain ⟨A2, c2, A5, c5, rfl, _⟩ := k32_openF hF
 have HE := Lib.hid (build_end hF hok #[.int .i64 x.f0, .string x.f1, .slice A2 x.f2.length c2, .int .i64 x.f3, .int .i64 x.f4, .slice A5 x.f5.length c5] o nm 0 0)
 have hbs := (box_slot W #[.int .i64 x.f0, .string x.f1, .slice A2 x.f2.length c2, .int .i64 x.f3, .int .i64 x.f4, .slice A5 x.f5.length c5]).2.2.2
 have hp3 := (hbs.cell (World.block_lt_of_cell? W _ hp2)).trans hp2
 have hq3 := (hbs.cell (World.block_lt_of_cell? W _ hq2)).trans hq2
 clear hF hok hp hq hpB hqB hB hbs
 go_enter Tryz.func105, Tryz.ntmps105
 go_wp2
 refine bodyPost_ret (res_slot rfl _ _ _ _ _ _ _ _ _ rfl HE.out.1) rfl ?_
 exact HE.out.2
/-- A loop that appends f of each. -/
def MapRel (f : S32 → S32) (l : List S32) (w1 : World) (ok : Nat → Prop) (vl vi : Value) (wr : World) : Prop :=
 ∃ (i g cap : Nat), vl = .slice (some ⟨g, 0, none⟩) i cap ∧ vi = .int .i64 i ∧ i ≤ l.length ∧ Kd.N k32 32 wr w1.heap.size (OkN ok w1.heap.size) (.slice (some ⟨g, 0, none⟩) i cap) ((l.take i).map f) ∧ Below w1.heap.size w1 wr
theorem mp_start (f : S32 → S32) (l : List S32) (w1 : World) (ok : Nat → Prop) : MapRel f l w1 ok (.slice (some ⟨w1.heap.size, 0, none⟩) 0 0) (.int .i64 0) (w1.alloc (.cells #[] 32)) :=
 ⟨0, w1.heap.size, 0, rfl, rfl, Nat.zero_le _, by
  have hb := blk_new w1 (.cells #[] 32)
  refine ⟨fun k hk => ?_, [], rfl, ⟨fun k hk => hk.symm, [], ⟨rfl, .inr ⟨w1.heap.size, 0, #[], rfl, Nat.le_refl _, hb, Nat.le_refl _, by simp [maxLen], rfl, rfl⟩⟩, ⟨rfl, fun j p hj => by simp at hj⟩⟩, fun j x c hj _ => by simp at hj⟩
  simp only [Value.ownBlock, Option.some.injEq] at hk
  exact Or.inr (by omega), (Below.refl _ _).alloc (Nat.le_refl _) _⟩
theorem mp_next {f : S32 → S32} {l : List S32} {w1 w8 w9 : World} {ok : Nat → Prop} {i g n cap : Nat} {v9 : Value} {xs : List S32} (hi : i < l.length) (hxs : xs = (l.take (i + 1)).map f) (hN : Kd.N k32 32 w9 w1.heap.size (OkN ok w1.heap.size) v9 xs) (hB : Below w1.heap.size w1 w9)
  (hat : v9.ownBlock = (Value.slice (some ⟨g, 0, none⟩) n cap).ownBlock ∨ ∃ b, v9.ownBlock = some b ∧ w8.heap.size ≤ b) : MapRel f l w1 ok v9 (.int .i64 ((i + 1 : Nat) : Int)) w9 := by
 subst hxs
 obtain ⟨b, hb⟩ : ∃ b, v9.ownBlock = some b := by
  rcases hat with h | ⟨b, h, _⟩
  ·exact ⟨g, h⟩
  ·exact ⟨b, h⟩
 obtain ⟨c, rfl⟩ := own_form hN hb
 have hlen : (List.map f (List.take (i + 1) l)).length = i + 1 := by rw [List.length_map, List.length_take]; omega
 rw [hlen] at hN
 exact ⟨i + 1, b, c, by rw [hlen], rfl, hi, hN, hB⟩
theorem take_map (f : S32 → S32) {l : List S32} {i : Nat} (hi : i < l.length) : (l.take (i + 1)).map f = (l.take i).map f ++ [f l[i]] := by
 rw [List.take_succ_eq_append_getElem hi, List.map_append]; rfl
/-- The appended row, as the next function reads it. -/
theorem mp_row {f : S32 → S32} {l : List S32} {w1 wr : World} {ok : Nat → Prop} {g cap n : Nat} (hN : Kd.N k32 32 wr w1.heap.size (OkN ok w1.heap.size) (.slice (some ⟨g, 0, none⟩) n cap) (l.map f)) :
  Kd.F k32 wr (fun k => OkN ok w1.heap.size k ∧ k < wr.heap.size) (some ⟨g, 0, none⟩) (l.map f).length (l.map f) ∧ n = (l.map f).length := by
 obtain ⟨ps, hrow, hmap⟩ := row_of_N hN
 have hF := hrow.F
 have hn : n = (l.map f).length := by
  obtain ⟨_, rows, hl, hR, _⟩ := hN
  have := (Kd.R_reads' hR).1
  omega
 have hl : ps.length = (l.map f).length := by rw [← hmap, List.length_map]
 rw [hmap, hl] at hF
 have hg := Kd.N_base hN g rfl
 refine ⟨Kd.F_mono (Kd.F_bound hF) (fun k hk => ⟨?_, hk.2⟩), hn⟩
 rcases hk.1 with h | h
 ·exact h.1
 ·exact Or.inr (by omega)
theorem kid_prod {x y : S32} (hm : y ∈ x.f5) (h : leaves x * (2 + depth x) < 1000000) : leaves y * (2 + depth y) < 1000000 := by
 have h1 := leavess_mem hm
 have h2 := depths_mem hm
 have h4 := leaves_is x
 have h5 := depth_is x
 have h6 := Nat.mul_le_mul (show leaves y ≤ leaves x by omega) (show 2 + depth y ≤ 2 + depth x by omega)
 omega
theorem eachs_map104 (op : Int) (b : S32 → S32) : ∀ l : List S32, eachs op b l = l.map (each op b)
 | [] => by simp [eachs]
 | x :: l => by simp [eachs, eachs_map104 op b l]
set_option maxRecDepth 1000000 in
set_option maxHeartbeats 4000000 in
theorem each104 {op : Int} (hop : op = 5 ∨ op = 6) {w0 : World} {B p q : Nat} {b : S32 → S32} (hBO : BuildOk 104 p q b B w0) (hbd : ∀ x, leaves (b x) ≤ leaves x ∧ depth (b x) ≤ 1 + depth x) : ∀ (n : Nat) (x : S32), size x < n → ∀ (w : World) (cs : List Value) (ok : Nat → Prop), Kd.FK k32 w ok x cs → (∀ k, ok k → k < w.heap.size) → Below B w0 w → B ≤ w.heap.size → leaves x * (2 + depth x) < 1000000 →
  Calls Tryz.prog 103 #[.int .i64 op, .agg cs.toArray, .func (.func 104) #[] #[.pointer (some ⟨p, 0, none⟩), .pointer (some ⟨q, 0, none⟩)]] w fun e w' => Fr w w' ok (each op b x) e
 | 0, x, hx, _, _, _, _, _, _, _, _ => absurd hx (Nat.not_lt_zero _)
 | n + 1, ⟨o, nm, a, f, t, k⟩, hx, w, cs, ok, hF, hok, hB, hBs, hsz => by
  have hrec := each104 hop hBO hbd n
  have HREC := Lib.hid hrec
  clear hrec
  have HF := Lib.hid hF
  obtain ⟨A2, c2, A5, c5, rfl, _, _, l5, g5⟩ := k32_openF hF
  have HK := Lib.hid g5
  have HOK := Lib.hid hok
  have HBW := Lib.hid hB
  have HBO := Lib.hid hBO
  have HSZ := Lib.hid hx
  have HBD := Lib.hid hsz
  have hk5 : k.length ≤ 9223372036854775807 := (Kd.F_now g5).2.1
  clear hF hok hB g5 hBO hx hsz
  dsimp only at *
  by_cases h1 : o = 1
  ·subst h1
   have HT := Lib.hid (two_box w #[.int .i64 1, .string nm, .slice A2 a.length c2, .int .i64 f, .int .i64 t, .slice A5 k.length c5] #[.int .i64 1, .string nm, .slice A2 a.length c2, .int .i64 f, .int .i64 t, .slice A5 k.length c5] 32)
   have HE := Lib.hid (show each op b ⟨1, nm, a, f, t, k⟩ = ⟨1, nm, a, f, t, k⟩ by rw [each]; simp)
   clear hop
   go_enter Tryz.func103, Tryz.ntmps103
   go_wp2
   refine bodyPost_ret (res_slot rfl _ _ _ _ _ _ _ _ _ rfl HT.out.2.1) rfl ?_
   rw [HE.out]
   exact ⟨_, rfl, Kd.FK_mono (Kd.FK_step HF.out (fun k _ hk => HT.out.2.2.1.block k hk)) (fun k hk => Or.inl hk), HT.out.2.2.1⟩
  ·by_cases h2 : o = 2
   ·subst h2
    have HT := Lib.hid (two_box w #[.int .i64 2, .string nm, .slice A2 a.length c2, .int .i64 f, .int .i64 t, .slice A5 k.length c5] #[.int .i64 2, .string nm, .slice A2 a.length c2, .int .i64 f, .int .i64 t, .slice A5 k.length c5] 32)
    have HE := Lib.hid (show each op b ⟨2, nm, a, f, t, k⟩ = ⟨2, nm, a, f, t, k⟩ by rw [each]; simp)
    clear hop
    go_enter Tryz.func103, Tryz.ntmps103
    go_wp2
    refine bodyPost_ret (res_slot rfl _ _ _ _ _ _ _ _ _ rfl HT.out.2.1) rfl ?_
    rw [HE.out]
    exact ⟨_, rfl, Kd.FK_mono (Kd.FK_step HF.out (fun k _ hk => HT.out.2.2.1.block k hk)) (fun k hk => Or.inl hk), HT.out.2.2.1⟩
   ·have e1 : (o == (1 : Int)) = false := by simpa using h1
    have e2 : (o == (2 : Int)) = false := by simpa using h2
    have HW := Lib.hid (box_slot w #[.int .i64 o, .string nm, .slice A2 a.length c2, .int .i64 f, .int .i64 t, .slice A5 k.length c5])
    by_cases h3 : o = op
    ·subst h3
     have HE := Lib.hid (show each o b ⟨o, nm, a, f, t, k⟩ = join o (k.map (each o b)) by rw [each, if_neg (by omega), if_pos rfl, eachs_map104])
     have HJ := Lib.hid (show size.sizes (k.map (each o b)) < 1000000 by
      have h1 := sizes_ld (k.map (each o b))
      have h2 := eachs_bound o b hbd k
      rw [eachs_map104] at h2
      have h3 := HBD.out
      have h4 := leaves_is ⟨o, nm, a, f, t, k⟩
      have h5 := depth_is ⟨o, nm, a, f, t, k⟩
      dsimp only at h4 h5
      have h6 := Nat.mul_le_mul (show leaves.leavess (k.map (each o b)) ≤ leaves ⟨o, nm, a, f, t, k⟩ by omega) (show depth.depths (k.map (each o b)) ≤ 2 + depth ⟨o, nm, a, f, t, k⟩ by omega)
      omega)
     have HST := Lib.hid (mp_start (each o b) k ((w.alloc (.cells #[.int .i64 o, .string nm, .slice A2 a.length c2, .int .i64 f, .int .i64 t, .slice A5 k.length c5] 32)).alloc (.cells z6 32)) ok)
     rw [HW.out.1] at HST
     have HOP := Lib.hid hop
     clear hop h1 h2 l5 hbd
     go_enter Tryz.func103, Tryz.ntmps103
     go_wp2
     obtain ⟨W1, hW1⟩ : ∃ W1, ((w.alloc (.cells #[.int .i64 o, .string nm, .slice A2 a.length c2, .int .i64 f, .int .i64 t, .slice A5 k.length c5] 32)).alloc (.cells z6 32)) = W1 := ⟨_, rfl⟩
     rw [hW1] at HST HW
     go_loopw [7, 23] (fun v7 v23 wr => MapRel (each o b) k W1 ok v7 v23 wr) (fun _ v23 _ => k.length - (intOf v23).toNat)
     case atStart => rw [← hW1] at HST ⊢; exact HST.out
     case round =>
      clear HST
      obtain ⟨i, g, cap, rfl, rfl, hi, hN, hBl⟩ := hrel
      have HN := Lib.hid hN
      have HBL := Lib.hid hBl
      have HBw := Lib.hid (below_then HW.out.2.2.2 HW.out.2.2.2.size hBl)
      clear hN hBl
      by_cases hlt : i < k.length
      ·have hi0 : 0 ≤ (i : Int) := by omega
       have hi1 : (i : Int) < (k.length : Int) := by omega
       obtain ⟨ad, A3, c3, A6, c6, e4, q0, q1, q2, q3, q4, q5, qF⟩ := form_F HK.out HBw.out i hlt
       subst e4
       have HTM := Lib.hid (take_map (each o b) hlt)
       have hmem : k[i] ∈ k := List.getElem_mem hlt
       obtain ⟨y, hy⟩ : ∃ y, k[i] = y := ⟨_, rfl⟩
       rw [hy] at q0 q1 q2 q3 q4 q5 qF hmem HTM
       have HAL := Lib.hid ((Below.refl wr.heap.size wr).alloc (Nat.le_refl _) (.cells #[.int .i64 y.f0, .string y.f1, .slice A3 y.f2.length c3, .int .i64 y.f3, .int .i64 y.f4, .slice A6 y.f5.length c6] 32))
       have HAS := Lib.hid (show (wr.alloc (.cells #[.int .i64 y.f0, .string y.f1, .slice A3 y.f2.length c3, .int .i64 y.f3, .int .i64 y.f4, .slice A6 y.f5.length c6] 32)).heap.size = wr.heap.size + 1 by show (wr.heap.push _).size = _; simp)
       have HBw2 := Lib.hid (below_then HBw.out HBw.out.size HAL.out)
       have HIH := Lib.hid (HREC.out y (by have := kid_lt (x := ⟨o, nm, a, f, t, k⟩) hmem; have := HSZ.out; omega) _ _ ok (Kd.FK_step qF (fun k _ hk => HBw2.out.block k hk)) (fun k hk => Nat.lt_of_lt_of_le (HOK.out k hk) HBw2.out.size) (below_then HBW.out hBs HBw2.out) (Nat.le_trans hBs HBw2.out.size) (by
        have h1 := leavess_mem hmem
        have h2 := depths_mem hmem
        have h3 := HBD.out
        have h4 := leaves_is ⟨o, nm, a, f, t, k⟩
        have h5 := depth_is ⟨o, nm, a, f, t, k⟩
        dsimp only at h4 h5
        have h6 := Nat.mul_le_mul (show leaves y ≤ leaves ⟨o, nm, a, f, t, k⟩ by omega) (show 2 + depth y ≤ 2 + depth ⟨o, nm, a, f, t, k⟩ by omega)
        omega))
       have HKL := Lib.hid (show k.length < 1000000 by
        have h1 := len_leavess k
        have h3 := HBD.out
        have h4 := leaves_is ⟨o, nm, a, f, t, k⟩
        dsimp only at h4
        have h6 := Nat.mul_le_mul (Nat.le_refl (leaves ⟨o, nm, a, f, t, k⟩)) (show 1 ≤ 2 + depth ⟨o, nm, a, f, t, k⟩ by omega)
        omega)
       clear qF hmem hy
       go_wp2_with fail
       refine HIH.out.mono ?_
       rintro e w4 ⟨ds, rfl, hF4, hB4⟩
       obtain ⟨z, hz⟩ : ∃ z, each o b y = z := ⟨_, rfl⟩
       rw [hz] at hF4 HTM
       have HF4 := Lib.hid hF4
       have HS4 := Lib.hid hB4.size
       have HN4 := Lib.hid (Kd.N_below (Kd.N_below HN.out HAL.out) hB4)
       have HNL := Lib.hid (Kd.N_lt HN.out g rfl)
       have HB4 := Lib.hid (below_then (below_then HBL.out HBL.out.size HAL.out) (below_then HBL.out HBL.out.size HAL.out).size hB4)
       obtain ⟨B2, d2, B5, d5, rfl, _⟩ := k32_openF hF4
       clear hF4 hB4 hz HIH q0 q1 q2 q3 q4 q5
       go_wp2_with (first | (at_builtin; go_loud (refine Kd.N_append k32 (w0 := W1) (W := w4) W1.heap.size rfl (.tmp 27) (.tmp 32) 30 32 _ 88 rfl Tryz.underlying30 info32 rfl (by decide) (by decide) (.slice (some ⟨g, 0, none⟩) i cap) ((k.take i).map (each o b)) z [.int .i64 z.f0, .string z.f1, .slice B2 z.f2.length d2, .int .i64 z.f3, .int .i64 z.f4, .slice B5 z.f5.length d5] (OkN ok W1.heap.size) _ rfl rfl HF4.out (fun k hk => ⟨by
        rcases hk with hk | hk
        ·exact Or.inl hk
        ·exact Or.inr (by have := HAS.out; have := HBL.out.size; omega), fun e => by
        have h1 := Kd.N_base HN.out k e.symm
        rcases hk with hk | hk
        ·have := HOK.out k hk; have := HW.out.1; omega
        ·have := HAS.out; have := HNL.out; have e2 : k = g := Option.some.inj e; omega⟩) (fun k hk => Or.inr (by have := HB4.out.size; omega)) HN4.out HB4.out HB4.out.size (by rw [List.length_map, List.length_take]; have := HKL.out; omega) ?_); intro v9 w9 hr9 hb9 hg9 hat9; rw [← HTM.out] at hr9; have HNX := Lib.hid (mp_next hlt rfl hr9 hb9 hat9); clear hr9 hb9 hg9 hat9) | fail)
       go_roundw
       case rel => exact HNX.out
       case measure => simp [intOf]; omega
      ·have hil : i = k.length := by omega
       subst hil
       clear hlt hi
       have hN2 := HN.out
       rw [List.take_length] at hN2
       obtain ⟨hrow, -⟩ := mp_row hN2
       have hj := join_any (c := cap) HOP.out hrow (fun k hk => hk.2) HJ.out
       rw [List.length_map] at hj
       have HJN := Lib.hid hj
       clear hN2 hrow hj
       go_wp2_with fail
       refine HJN.out.mono ?_
       rintro e w6 ⟨ds, rfl, hF6, hB6⟩
       have HB6 := Lib.hid (below_then HBw.out HBw.out.size hB6)
       have HSB := Lib.hid (((below_then HBL.out HBL.out.size hB6).block (w.heap.size + 1) (by rw [HW.out.1]; omega)).trans HW.out.2.2.1)
       obtain ⟨z, hz⟩ : ∃ z, join o (k.map (each o b)) = z := ⟨_, rfl⟩
       rw [hz] at hF6 HE
       have HF6 := Lib.hid hF6
       obtain ⟨B2, d2, B5, d5, rfl, _⟩ := k32_openF hF6
       obtain ⟨y0, y1, y2, y3, y4, y5, f0, f1, f2, f3, f4, f5⟩ := slot_cells HSB.out
       clear hF6 hB6 hz
       go_wp2
       refine bodyPost_ret (res_slot rfl _ _ _ _ _ _ _ _ _ rfl (six_blk HSB.out _ _ _ _ _ _)) rfl ?_
       rw [HE.out]
       exact slot_done HF6.out HB6.out (by omega) (fun k hk => by
        have h1 := HW.out.1
        have h2 := HBL.out.size
        rcases hk with ⟨hk | hk, _⟩ | hk
        ·have := HOK.out k hk; omega
        ·omega
        ·omega) (fun k hk => by
        have h1 := HW.out.1
        have h2 := HBL.out.size
        rcases hk with ⟨hk | hk, _⟩ | hk
        ·exact Or.inl hk
        ·exact Or.inr (by omega)
        ·exact Or.inr (by omega))
    ·have e3 : (o == op) = false := by simpa using h3
     have HE := Lib.hid (show each op b ⟨o, nm, a, f, t, k⟩ = b ⟨o, nm, a, f, t, k⟩ by rw [each, if_neg (by omega), if_neg h3])
     have HOP := Lib.hid hop
     have HCL := Lib.hid (HBO.out ((w.alloc (.cells #[.int .i64 o, .string nm, .slice A2 a.length c2, .int .i64 f, .int .i64 t, .slice A5 k.length c5] 32)).alloc (.cells z6 32)) ⟨o, nm, a, f, t, k⟩ _ ok (below_then HBW.out hBs HW.out.2.2.2) (Kd.FK_step HF.out (fun k _ hk => HW.out.2.2.2.block k hk)) (fun k hk => by have := HOK.out k hk; have := HW.out.1; omega))
     clear hop h1 h2 h3 l5 hbd
     go_enter Tryz.func103, Tryz.ntmps103
     go_wp2_with fail
     refine HCL.out.mono ?_
     rintro e w4 ⟨ds, rfl, hF4, hB4⟩
     have HSB := Lib.hid ((hB4.block (w.heap.size + 1) (by rw [HW.out.1]; omega)).trans HW.out.2.2.1)
     have HB4 := Lib.hid (below_then HW.out.2.2.2 HW.out.2.2.2.size hB4)
     rw [HW.out.1] at hF4
     obtain ⟨z, hz⟩ : ∃ z, b ⟨o, nm, a, f, t, k⟩ = z := ⟨_, rfl⟩
     rw [hz] at hF4 HE
     have HF4 := Lib.hid hF4
     obtain ⟨B2, d2, B5, d5, rfl, _⟩ := k32_openF hF4
     obtain ⟨y0, y1, y2, y3, y4, y5, f0, f1, f2, f3, f4, f5⟩ := slot_cells HSB.out
     clear hF4 hB4 hz
     go_wp2
     refine bodyPost_ret (res_slot rfl _ _ _ _ _ _ _ _ _ rfl (six_blk HSB.out _ _ _ _ _ _)) rfl ?_
     rw [HE.out]
     exact slot_done HF4.out HB4.out (by omega) (fun k hk => by
      rcases hk with hk | hk
      ·have := HOK.out k hk; omega
      ·omega) (fun k hk => by
      rcases hk with hk | hk
      ·exact Or.inl hk
      ·exact Or.inr (by omega))
theorem eachs_map105 (op : Int) (b : S32 → S32) : ∀ l : List S32, eachs op b l = l.map (each op b)
 | [] => by simp [eachs]
 | x :: l => by simp [eachs, eachs_map105 op b l]
set_option maxRecDepth 1000000 in
set_option maxHeartbeats 4000000 in
theorem each105 {op : Int} (hop : op = 5 ∨ op = 6) {w0 : World} {B p q : Nat} {b : S32 → S32} (hBO : BuildOk 105 p q b B w0) (hbd : ∀ x, leaves (b x) ≤ leaves x ∧ depth (b x) ≤ 1 + depth x) : ∀ (n : Nat) (x : S32), size x < n → ∀ (w : World) (cs : List Value) (ok : Nat → Prop), Kd.FK k32 w ok x cs → (∀ k, ok k → k < w.heap.size) → Below B w0 w → B ≤ w.heap.size → leaves x * (2 + depth x) < 1000000 →
  Calls Tryz.prog 103 #[.int .i64 op, .agg cs.toArray, .func (.func 105) #[] #[.pointer (some ⟨p, 0, none⟩), .pointer (some ⟨q, 0, none⟩)]] w fun e w' => Fr w w' ok (each op b x) e
 | 0, x, hx, _, _, _, _, _, _, _, _ => absurd hx (Nat.not_lt_zero _)
 | n + 1, ⟨o, nm, a, f, t, k⟩, hx, w, cs, ok, hF, hok, hB, hBs, hsz => by
  have hrec := each105 hop hBO hbd n
  have HREC := Lib.hid hrec
  clear hrec
  have HF := Lib.hid hF
  obtain ⟨A2, c2, A5, c5, rfl, _, _, l5, g5⟩ := k32_openF hF
  have HK := Lib.hid g5
  have HOK := Lib.hid hok
  have HBW := Lib.hid hB
  have HBO := Lib.hid hBO
  have HSZ := Lib.hid hx
  have HBD := Lib.hid hsz
  have hk5 : k.length ≤ 9223372036854775807 := (Kd.F_now g5).2.1
  clear hF hok hB g5 hBO hx hsz
  dsimp only at *
  by_cases h1 : o = 1
  ·subst h1
   have HT := Lib.hid (two_box w #[.int .i64 1, .string nm, .slice A2 a.length c2, .int .i64 f, .int .i64 t, .slice A5 k.length c5] #[.int .i64 1, .string nm, .slice A2 a.length c2, .int .i64 f, .int .i64 t, .slice A5 k.length c5] 32)
   have HE := Lib.hid (show each op b ⟨1, nm, a, f, t, k⟩ = ⟨1, nm, a, f, t, k⟩ by rw [each]; simp)
   clear hop
   go_enter Tryz.func103, Tryz.ntmps103
   go_wp2
   refine bodyPost_ret (res_slot rfl _ _ _ _ _ _ _ _ _ rfl HT.out.2.1) rfl ?_
   rw [HE.out]
   exact ⟨_, rfl, Kd.FK_mono (Kd.FK_step HF.out (fun k _ hk => HT.out.2.2.1.block k hk)) (fun k hk => Or.inl hk), HT.out.2.2.1⟩
  ·by_cases h2 : o = 2
   ·subst h2
    have HT := Lib.hid (two_box w #[.int .i64 2, .string nm, .slice A2 a.length c2, .int .i64 f, .int .i64 t, .slice A5 k.length c5] #[.int .i64 2, .string nm, .slice A2 a.length c2, .int .i64 f, .int .i64 t, .slice A5 k.length c5] 32)
    have HE := Lib.hid (show each op b ⟨2, nm, a, f, t, k⟩ = ⟨2, nm, a, f, t, k⟩ by rw [each]; simp)
    clear hop
    go_enter Tryz.func103, Tryz.ntmps103
    go_wp2
    refine bodyPost_ret (res_slot rfl _ _ _ _ _ _ _ _ _ rfl HT.out.2.1) rfl ?_
    rw [HE.out]
    exact ⟨_, rfl, Kd.FK_mono (Kd.FK_step HF.out (fun k _ hk => HT.out.2.2.1.block k hk)) (fun k hk => Or.inl hk), HT.out.2.2.1⟩
   ·have e1 : (o == (1 : Int)) = false := by simpa using h1
    have e2 : (o == (2 : Int)) = false := by simpa using h2
    have HW := Lib.hid (box_slot w #[.int .i64 o, .string nm, .slice A2 a.length c2, .int .i64 f, .int .i64 t, .slice A5 k.length c5])
    by_cases h3 : o = op
    ·subst h3
     have HE := Lib.hid (show each o b ⟨o, nm, a, f, t, k⟩ = join o (k.map (each o b)) by rw [each, if_neg (by omega), if_pos rfl, eachs_map105])
     have HJ := Lib.hid (show size.sizes (k.map (each o b)) < 1000000 by
      have h1 := sizes_ld (k.map (each o b))
      have h2 := eachs_bound o b hbd k
      rw [eachs_map105] at h2
      have h3 := HBD.out
      have h4 := leaves_is ⟨o, nm, a, f, t, k⟩
      have h5 := depth_is ⟨o, nm, a, f, t, k⟩
      dsimp only at h4 h5
      have h6 := Nat.mul_le_mul (show leaves.leavess (k.map (each o b)) ≤ leaves ⟨o, nm, a, f, t, k⟩ by omega) (show depth.depths (k.map (each o b)) ≤ 2 + depth ⟨o, nm, a, f, t, k⟩ by omega)
      omega)
     have HST := Lib.hid (mp_start (each o b) k ((w.alloc (.cells #[.int .i64 o, .string nm, .slice A2 a.length c2, .int .i64 f, .int .i64 t, .slice A5 k.length c5] 32)).alloc (.cells z6 32)) ok)
     rw [HW.out.1] at HST
     have HOP := Lib.hid hop
     clear hop h1 h2 l5 hbd
     go_enter Tryz.func103, Tryz.ntmps103
     go_wp2
     obtain ⟨W1, hW1⟩ : ∃ W1, ((w.alloc (.cells #[.int .i64 o, .string nm, .slice A2 a.length c2, .int .i64 f, .int .i64 t, .slice A5 k.length c5] 32)).alloc (.cells z6 32)) = W1 := ⟨_, rfl⟩
     rw [hW1] at HST HW
     go_loopw [7, 23] (fun v7 v23 wr => MapRel (each o b) k W1 ok v7 v23 wr) (fun _ v23 _ => k.length - (intOf v23).toNat)
     case atStart => rw [← hW1] at HST ⊢; exact HST.out
     case round =>
      clear HST
      obtain ⟨i, g, cap, rfl, rfl, hi, hN, hBl⟩ := hrel
      have HN := Lib.hid hN
      have HBL := Lib.hid hBl
      have HBw := Lib.hid (below_then HW.out.2.2.2 HW.out.2.2.2.size hBl)
      clear hN hBl
      by_cases hlt : i < k.length
      ·have hi0 : 0 ≤ (i : Int) := by omega
       have hi1 : (i : Int) < (k.length : Int) := by omega
       obtain ⟨ad, A3, c3, A6, c6, e4, q0, q1, q2, q3, q4, q5, qF⟩ := form_F HK.out HBw.out i hlt
       subst e4
       have HTM := Lib.hid (take_map (each o b) hlt)
       have hmem : k[i] ∈ k := List.getElem_mem hlt
       obtain ⟨y, hy⟩ : ∃ y, k[i] = y := ⟨_, rfl⟩
       rw [hy] at q0 q1 q2 q3 q4 q5 qF hmem HTM
       have HAL := Lib.hid ((Below.refl wr.heap.size wr).alloc (Nat.le_refl _) (.cells #[.int .i64 y.f0, .string y.f1, .slice A3 y.f2.length c3, .int .i64 y.f3, .int .i64 y.f4, .slice A6 y.f5.length c6] 32))
       have HAS := Lib.hid (show (wr.alloc (.cells #[.int .i64 y.f0, .string y.f1, .slice A3 y.f2.length c3, .int .i64 y.f3, .int .i64 y.f4, .slice A6 y.f5.length c6] 32)).heap.size = wr.heap.size + 1 by show (wr.heap.push _).size = _; simp)
       have HBw2 := Lib.hid (below_then HBw.out HBw.out.size HAL.out)
       have HIH := Lib.hid (HREC.out y (by have := kid_lt (x := ⟨o, nm, a, f, t, k⟩) hmem; have := HSZ.out; omega) _ _ ok (Kd.FK_step qF (fun k _ hk => HBw2.out.block k hk)) (fun k hk => Nat.lt_of_lt_of_le (HOK.out k hk) HBw2.out.size) (below_then HBW.out hBs HBw2.out) (Nat.le_trans hBs HBw2.out.size) (by
        have h1 := leavess_mem hmem
        have h2 := depths_mem hmem
        have h3 := HBD.out
        have h4 := leaves_is ⟨o, nm, a, f, t, k⟩
        have h5 := depth_is ⟨o, nm, a, f, t, k⟩
        dsimp only at h4 h5
        have h6 := Nat.mul_le_mul (show leaves y ≤ leaves ⟨o, nm, a, f, t, k⟩ by omega) (show 2 + depth y ≤ 2 + depth ⟨o, nm, a, f, t, k⟩ by omega)
        omega))
       have HKL := Lib.hid (show k.length < 1000000 by
        have h1 := len_leavess k
        have h3 := HBD.out
        have h4 := leaves_is ⟨o, nm, a, f, t, k⟩
        dsimp only at h4
        have h6 := Nat.mul_le_mul (Nat.le_refl (leaves ⟨o, nm, a, f, t, k⟩)) (show 1 ≤ 2 + depth ⟨o, nm, a, f, t, k⟩ by omega)
        omega)
       clear qF hmem hy
       go_wp2_with fail
       refine HIH.out.mono ?_
       rintro e w4 ⟨ds, rfl, hF4, hB4⟩
       obtain ⟨z, hz⟩ : ∃ z, each o b y = z := ⟨_, rfl⟩
       rw [hz] at hF4 HTM
       have HF4 := Lib.hid hF4
       have HS4 := Lib.hid hB4.size
       have HN4 := Lib.hid (Kd.N_below (Kd.N_below HN.out HAL.out) hB4)
       have HNL := Lib.hid (Kd.N_lt HN.out g rfl)
       have HB4 := Lib.hid (below_then (below_then HBL.out HBL.out.size HAL.out) (below_then HBL.out HBL.out.size HAL.out).size hB4)
       obtain ⟨B2, d2, B5, d5, rfl, _⟩ := k32_openF hF4
       clear hF4 hB4 hz HIH q0 q1 q2 q3 q4 q5
       go_wp2_with (first | (at_builtin; go_loud (refine Kd.N_append k32 (w0 := W1) (W := w4) W1.heap.size rfl (.tmp 27) (.tmp 32) 30 32 _ 88 rfl Tryz.underlying30 info32 rfl (by decide) (by decide) (.slice (some ⟨g, 0, none⟩) i cap) ((k.take i).map (each o b)) z [.int .i64 z.f0, .string z.f1, .slice B2 z.f2.length d2, .int .i64 z.f3, .int .i64 z.f4, .slice B5 z.f5.length d5] (OkN ok W1.heap.size) _ rfl rfl HF4.out (fun k hk => ⟨by
        rcases hk with hk | hk
        ·exact Or.inl hk
        ·exact Or.inr (by have := HAS.out; have := HBL.out.size; omega), fun e => by
        have h1 := Kd.N_base HN.out k e.symm
        rcases hk with hk | hk
        ·have := HOK.out k hk; have := HW.out.1; omega
        ·have := HAS.out; have := HNL.out; have e2 : k = g := Option.some.inj e; omega⟩) (fun k hk => Or.inr (by have := HB4.out.size; omega)) HN4.out HB4.out HB4.out.size (by rw [List.length_map, List.length_take]; have := HKL.out; omega) ?_); intro v9 w9 hr9 hb9 hg9 hat9; rw [← HTM.out] at hr9; have HNX := Lib.hid (mp_next hlt rfl hr9 hb9 hat9); clear hr9 hb9 hg9 hat9) | fail)
       go_roundw
       case rel => exact HNX.out
       case measure => simp [intOf]; omega
      ·have hil : i = k.length := by omega
       subst hil
       clear hlt hi
       have hN2 := HN.out
       rw [List.take_length] at hN2
       obtain ⟨hrow, -⟩ := mp_row hN2
       have hj := join_any (c := cap) HOP.out hrow (fun k hk => hk.2) HJ.out
       rw [List.length_map] at hj
       have HJN := Lib.hid hj
       clear hN2 hrow hj
       go_wp2_with fail
       refine HJN.out.mono ?_
       rintro e w6 ⟨ds, rfl, hF6, hB6⟩
       have HB6 := Lib.hid (below_then HBw.out HBw.out.size hB6)
       have HSB := Lib.hid (((below_then HBL.out HBL.out.size hB6).block (w.heap.size + 1) (by rw [HW.out.1]; omega)).trans HW.out.2.2.1)
       obtain ⟨z, hz⟩ : ∃ z, join o (k.map (each o b)) = z := ⟨_, rfl⟩
       rw [hz] at hF6 HE
       have HF6 := Lib.hid hF6
       obtain ⟨B2, d2, B5, d5, rfl, _⟩ := k32_openF hF6
       obtain ⟨y0, y1, y2, y3, y4, y5, f0, f1, f2, f3, f4, f5⟩ := slot_cells HSB.out
       clear hF6 hB6 hz
       go_wp2
       refine bodyPost_ret (res_slot rfl _ _ _ _ _ _ _ _ _ rfl (six_blk HSB.out _ _ _ _ _ _)) rfl ?_
       rw [HE.out]
       exact slot_done HF6.out HB6.out (by omega) (fun k hk => by
        have h1 := HW.out.1
        have h2 := HBL.out.size
        rcases hk with ⟨hk | hk, _⟩ | hk
        ·have := HOK.out k hk; omega
        ·omega
        ·omega) (fun k hk => by
        have h1 := HW.out.1
        have h2 := HBL.out.size
        rcases hk with ⟨hk | hk, _⟩ | hk
        ·exact Or.inl hk
        ·exact Or.inr (by omega)
        ·exact Or.inr (by omega))
    ·have e3 : (o == op) = false := by simpa using h3
     have HE := Lib.hid (show each op b ⟨o, nm, a, f, t, k⟩ = b ⟨o, nm, a, f, t, k⟩ by rw [each, if_neg (by omega), if_neg h3])
     have HOP := Lib.hid hop
     have HCL := Lib.hid (HBO.out ((w.alloc (.cells #[.int .i64 o, .string nm, .slice A2 a.length c2, .int .i64 f, .int .i64 t, .slice A5 k.length c5] 32)).alloc (.cells z6 32)) ⟨o, nm, a, f, t, k⟩ _ ok (below_then HBW.out hBs HW.out.2.2.2) (Kd.FK_step HF.out (fun k _ hk => HW.out.2.2.2.block k hk)) (fun k hk => by have := HOK.out k hk; have := HW.out.1; omega))
     clear hop h1 h2 h3 l5 hbd
     go_enter Tryz.func103, Tryz.ntmps103
     go_wp2_with fail
     refine HCL.out.mono ?_
     rintro e w4 ⟨ds, rfl, hF4, hB4⟩
     have HSB := Lib.hid ((hB4.block (w.heap.size + 1) (by rw [HW.out.1]; omega)).trans HW.out.2.2.1)
     have HB4 := Lib.hid (below_then HW.out.2.2.2 HW.out.2.2.2.size hB4)
     rw [HW.out.1] at hF4
     obtain ⟨z, hz⟩ : ∃ z, b ⟨o, nm, a, f, t, k⟩ = z := ⟨_, rfl⟩
     rw [hz] at hF4 HE
     have HF4 := Lib.hid hF4
     obtain ⟨B2, d2, B5, d5, rfl, _⟩ := k32_openF hF4
     obtain ⟨y0, y1, y2, y3, y4, y5, f0, f1, f2, f3, f4, f5⟩ := slot_cells HSB.out
     clear hF4 hB4 hz
     go_wp2
     refine bodyPost_ret (res_slot rfl _ _ _ _ _ _ _ _ _ rfl (six_blk HSB.out _ _ _ _ _ _)) rfl ?_
     rw [HE.out]
     exact slot_done HF4.out HB4.out (by omega) (fun k hk => by
      rcases hk with hk | hk
      ·have := HOK.out k hk; omega
      ·omega) (fun k hk => by
      rcases hk with hk | hk
      ·exact Or.inl hk
      ·exact Or.inr (by omega))
/-- Four blocks: two variables, the argument, the slot. -/
theorem four_slot (w : World) (a b : Value) (s t : Nat) (X : Array Value) : ((((w.alloc (.cells #[a] s)).alloc (.cells #[b] t)).alloc (.cells X 32)).alloc (.cells z6 32)).heap.size = w.heap.size + 4 ∧
  ((((w.alloc (.cells #[a] s)).alloc (.cells #[b] t)).alloc (.cells X 32)).alloc (.cells z6 32)).cell? ⟨w.heap.size, 0, none⟩ = some a ∧
  ((((w.alloc (.cells #[a] s)).alloc (.cells #[b] t)).alloc (.cells X 32)).alloc (.cells z6 32)).cell? ⟨w.heap.size + 1, 0, none⟩ = some b ∧
  ((((w.alloc (.cells #[a] s)).alloc (.cells #[b] t)).alloc (.cells X 32)).alloc (.cells z6 32)).heap[w.heap.size + 2]? = some (.cells X 32 (0, 0)) ∧
  ((((w.alloc (.cells #[a] s)).alloc (.cells #[b] t)).alloc (.cells X 32)).alloc (.cells z6 32)).heap[w.heap.size + 3]? = some (.cells z6 32 (0, 0)) ∧
  Below w.heap.size w ((((w.alloc (.cells #[a] s)).alloc (.cells #[b] t)).alloc (.cells X 32)).alloc (.cells z6 32)) := by
 have hs1 : (w.alloc (.cells #[a] s)).heap.size = w.heap.size + 1 := by show (w.heap.push _).size = _; simp
 have hs2 : ((w.alloc (.cells #[a] s)).alloc (.cells #[b] t)).heap.size = w.heap.size + 2 := by show (((w.alloc (.cells #[a] s)).heap.push _).size) = _; simp [hs1]
 obtain ⟨h1, h2, h3, h4⟩ := box_slot ((w.alloc (.cells #[a] s)).alloc (.cells #[b] t)) X
 rw [hs2] at h1 h2 h3 h4
 have hb2 := (Below.refl w.heap.size w).alloc (Nat.le_refl _) (.cells #[a] s)
 have hb3 := hb2.alloc hb2.size (.cells #[b] t)
 have c1 := blk_new w (.cells #[a] s)
 have c2 := blk_new (w.alloc (.cells #[a] s)) (.cells #[b] t)
 rw [hs1] at c2
 have c1' : ((w.alloc (.cells #[a] s)).alloc (.cells #[b] t)).heap[w.heap.size]? = some (.cells #[a] s (0, 0)) := (Below.heap_alloc _ _ _ (by rw [hs1]; omega)).trans c1
 refine ⟨h1, ?_, ?_, h2, h3, below_then hb3 hb3.size (by rw [hs2]; exact h4)⟩
 ·exact blk_cell ((h4.block _ (by omega)).trans c1') 0
 ·exact blk_cell ((h4.block _ (by omega)).trans c2) 0
set_option maxRecDepth 1000000 in
set_option maxHeartbeats 4000000 in
theorem during_any {w : World} {x : S32} {cs : List Value} {ok : Nat → Prop} (f t : Int) (hF : Kd.FK k32 w ok x cs) (hok : ∀ k, ok k → k < w.heap.size) (hsz : leaves x * (2 + depth x) < 1000000) :
  Calls Tryz.prog 81 #[.int .i64 f, .int .i64 t, .agg cs.toArray] w fun e w' => Fr w w' ok (duringF f t x) e := by
 have HF := Lib.hid hF
 obtain ⟨A2, c2, A5, c5, rfl, _⟩ := k32_openF hF
 have HOK := Lib.hid hok
 have H4 := Lib.hid (four_slot w (.int .i64 f) (.int .i64 t) 3 3 #[.int .i64 x.f0, .string x.f1, .slice A2 x.f2.length c2, .int .i64 x.f3, .int .i64 x.f4, .slice A5 x.f5.length c5])
 obtain ⟨W1, hW1⟩ : ∃ W1, ((((w.alloc (.cells #[.int .i64 f] 3)).alloc (.cells #[.int .i64 t] 3)).alloc (.cells #[.int .i64 x.f0, .string x.f1, .slice A2 x.f2.length c2, .int .i64 x.f3, .int .i64 x.f4, .slice A5 x.f5.length c5] 32)).alloc (.cells z6 32)) = W1 := ⟨_, rfl⟩
 have HCC := Lib.hid (const_any W1 true ok)
 have HEA := Lib.hid (show Calls Tryz.prog 103 #[.int .i64 5, .agg #[.int .i64 x.f0, .string x.f1, .slice A2 x.f2.length c2, .int .i64 x.f3, .int .i64 x.f4, .slice A5 x.f5.length c5], .func (.func 104) #[] #[.pointer (some ⟨w.heap.size, 0, none⟩), .pointer (some ⟨w.heap.size + 1, 0, none⟩)]] W1 fun e w' => Fr W1 w' ok (each 5 (fun k => ⟨10, eStr, [], f, t, [k]⟩) x) e by
  have h := H4.out
  rw [hW1] at h
  exact each104 (Or.inl rfl) (bld104 (B := W1.heap.size) h.2.1 h.2.2.1 (by omega) (by omega)) (fun x => by have := one_bound 10 eStr f t x; omega) (size x + 1) x (by omega) W1 _ ok (Kd.FK_step HF.out (fun k _ hk => h.2.2.2.2.2.block k hk)) (fun k hk => by have := HOK.out k hk; have := h.1; omega) (Below.refl _ _) (Nat.le_refl _) hsz)
 rw [← hW1] at HCC HEA
 clear hF hok hsz hW1
 by_cases h : 0 ≤ t ∧ t ≤ f
 ·have HE := Lib.hid (show duringF f t x = const true by unfold duringF; rw [if_pos h])
  have g1 : decide (0 ≤ t) = true := decide_eq_true h.1
  have g2 : decide (t ≤ f) = true := decide_eq_true h.2
  clear h HEA
  go_enter Tryz.func81, Tryz.ntmps81
  go_wp2_with fail
  refine HCC.out.mono ?_
  rintro e w4 ⟨ds, rfl, hF4, hB4⟩
  have HSB := Lib.hid ((hB4.block (w.heap.size + 3) (by rw [H4.out.1]; omega)).trans H4.out.2.2.2.2.1)
  have HB4 := Lib.hid (below_then H4.out.2.2.2.2.2 H4.out.2.2.2.2.2.size hB4)
  rw [H4.out.1] at hF4
  obtain ⟨z, hz⟩ : ∃ z, const true = z := ⟨_, rfl⟩
  rw [hz] at hF4 HE
  have HF4 := Lib.hid hF4
  obtain ⟨B2, d2, B5, d5, rfl, -⟩ := k32_openF hF4
  obtain ⟨y0, y1, y2, y3, y4, y5, f0, f1, f2, f3, f4, f5⟩ := slot_cells HSB.out
  clear hF4 hB4 hz
  go_wp2
  refine bodyPost_ret (res_slot rfl _ _ _ _ _ _ _ _ _ rfl (six_blk HSB.out _ _ _ _ _ _)) rfl ?_
  rw [HE.out]
  exact slot_done HF4.out HB4.out (by omega) (fun k hk => by
   rcases hk with hk | hk
   ·have := HOK.out k hk; omega
   ·omega) (fun k hk => by
   rcases hk with hk | hk
   ·exact Or.inl hk
   ·exact Or.inr (by omega))
 ·have HE := Lib.hid (show duringF f t x = each 5 (fun k => ⟨10, eStr, [], f, t, [k]⟩) x by unfold duringF; rw [if_neg h])
  have HNH := Lib.hid h
  clear h HCC
  by_cases h1 : 0 ≤ t
  ·have g1 : decide (0 ≤ t) = true := decide_eq_true h1
   have g2 : decide (t ≤ f) = false := decide_eq_false (fun h2 => HNH.out ⟨h1, h2⟩)
   clear h1
   go_enter Tryz.func81, Tryz.ntmps81
   go_wp2_with fail
   refine HEA.out.mono ?_
   rintro e w4 ⟨ds, rfl, hF4, hB4⟩
   have HSB := Lib.hid ((hB4.block (w.heap.size + 3) (by rw [H4.out.1]; omega)).trans H4.out.2.2.2.2.1)
   have HB4 := Lib.hid (below_then H4.out.2.2.2.2.2 H4.out.2.2.2.2.2.size hB4)
   rw [H4.out.1] at hF4
   obtain ⟨z, hz⟩ : ∃ z, each 5 (fun k => ⟨10, eStr, [], f, t, [k]⟩) x = z := ⟨_, rfl⟩
   rw [hz] at hF4 HE
   have HF4 := Lib.hid hF4
   obtain ⟨B2, d2, B5, d5, rfl, -⟩ := k32_openF hF4
   obtain ⟨y0, y1, y2, y3, y4, y5, f0, f1, f2, f3, f4, f5⟩ := slot_cells HSB.out
   clear hF4 hB4 hz
   go_wp2
   refine bodyPost_ret (res_slot rfl _ _ _ _ _ _ _ _ _ rfl (six_blk HSB.out _ _ _ _ _ _)) rfl ?_
   rw [HE.out]
   exact slot_done HF4.out HB4.out (by omega) (fun k hk => by
    rcases hk with hk | hk
    ·have := HOK.out k hk; omega
    ·omega) (fun k hk => by
    rcases hk with hk | hk
    ·exact Or.inl hk
    ·exact Or.inr (by omega))
  ·have g1 : decide (0 ≤ t) = false := decide_eq_false h1
   clear h1
   go_enter Tryz.func81, Tryz.ntmps81
   go_wp2_with fail
   refine HEA.out.mono ?_
   rintro e w4 ⟨ds, rfl, hF4, hB4⟩
   have HSB := Lib.hid ((hB4.block (w.heap.size + 3) (by rw [H4.out.1]; omega)).trans H4.out.2.2.2.2.1)
   have HB4 := Lib.hid (below_then H4.out.2.2.2.2.2 H4.out.2.2.2.2.2.size hB4)
   rw [H4.out.1] at hF4
   obtain ⟨z, hz⟩ : ∃ z, each 5 (fun k => ⟨10, eStr, [], f, t, [k]⟩) x = z := ⟨_, rfl⟩
   rw [hz] at hF4 HE
   have HF4 := Lib.hid hF4
   obtain ⟨B2, d2, B5, d5, rfl, -⟩ := k32_openF hF4
   obtain ⟨y0, y1, y2, y3, y4, y5, f0, f1, f2, f3, f4, f5⟩ := slot_cells HSB.out
   clear hF4 hB4 hz
   go_wp2
   refine bodyPost_ret (res_slot rfl _ _ _ _ _ _ _ _ _ rfl (six_blk HSB.out _ _ _ _ _ _)) rfl ?_
   rw [HE.out]
   exact slot_done HF4.out HB4.out (by omega) (fun k hk => by
    rcases hk with hk | hk
    ·have := HOK.out k hk; omega
    ·omega) (fun k hk => by
    rcases hk with hk | hk
    ·exact Or.inl hk
    ·exact Or.inr (by omega))
set_option maxRecDepth 1000000 in
set_option maxHeartbeats 4000000 in
theorem over_any {w : World} {x : S32} {cs : List Value} {ok : Nat → Prop} (o : Int) (nm : ByteArray) (hF : Kd.FK k32 w ok x cs) (hok : ∀ k, ok k → k < w.heap.size) (hsz : leaves x * (2 + depth x) < 1000000) :
  Calls Tryz.prog 84 #[.int .i64 o, .string nm, .agg cs.toArray] w fun e w' => Fr w w' ok (overF o nm x) e := by
 have HF := Lib.hid hF
 obtain ⟨A2, c2, A5, c5, rfl, _⟩ := k32_openF hF
 have HOK := Lib.hid hok
 have H4 := Lib.hid (four_slot w (.int .i64 o) (.string nm) 3 9 #[.int .i64 x.f0, .string x.f1, .slice A2 x.f2.length c2, .int .i64 x.f3, .int .i64 x.f4, .slice A5 x.f5.length c5])
 obtain ⟨W1, hW1⟩ : ∃ W1, ((((w.alloc (.cells #[.int .i64 o] 3)).alloc (.cells #[.string nm] 9)).alloc (.cells #[.int .i64 x.f0, .string x.f1, .slice A2 x.f2.length c2, .int .i64 x.f3, .int .i64 x.f4, .slice A5 x.f5.length c5] 32)).alloc (.cells z6 32)) = W1 := ⟨_, rfl⟩
 have HEA := Lib.hid (show ∀ op, op = 5 ∨ op = 6 → Calls Tryz.prog 103 #[.int .i64 op, .agg #[.int .i64 x.f0, .string x.f1, .slice A2 x.f2.length c2, .int .i64 x.f3, .int .i64 x.f4, .slice A5 x.f5.length c5], .func (.func 105) #[] #[.pointer (some ⟨w.heap.size, 0, none⟩), .pointer (some ⟨w.heap.size + 1, 0, none⟩)]] W1 fun e w' => Fr W1 w' ok (each op (fun k => ⟨o, nm, [], 0, 0, [k]⟩) x) e from fun op hop => by
  have h := H4.out
  rw [hW1] at h
  exact each105 hop (bld105 (B := W1.heap.size) h.2.1 h.2.2.1 (by omega) (by omega)) (fun x => by have := one_bound o nm 0 0 x; omega) (size x + 1) x (by omega) W1 _ ok (Kd.FK_step HF.out (fun k _ hk => h.2.2.2.2.2.block k hk)) (fun k hk => by have := HOK.out k hk; have := h.1; omega) (Below.refl _ _) (Nat.le_refl _) hsz)
 rw [← hW1] at HEA
 clear hF hok hsz hW1
 by_cases h9 : o = 9
 ·have HE := Lib.hid (show overF o nm x = each 6 (fun k => ⟨o, nm, [], 0, 0, [k]⟩) x by unfold overF; rw [if_pos (Or.inl h9)])
  have g1 : (o == (9 : Int)) = true := by simpa using h9
  clear h9
  go_enter Tryz.func84, Tryz.ntmps84
  go_wp2_with fail
  refine (HEA.out 6 (Or.inr rfl)).mono ?_
  rintro e w4 ⟨ds, rfl, hF4, hB4⟩
  have HSB := Lib.hid ((hB4.block (w.heap.size + 3) (by rw [H4.out.1]; omega)).trans H4.out.2.2.2.2.1)
  have HB4 := Lib.hid (below_then H4.out.2.2.2.2.2 H4.out.2.2.2.2.2.size hB4)
  rw [H4.out.1] at hF4
  obtain ⟨z, hz⟩ : ∃ z, each 6 (fun k => ⟨o, nm, [], 0, 0, [k]⟩) x = z := ⟨_, rfl⟩
  rw [hz] at hF4 HE
  have HF4 := Lib.hid hF4
  obtain ⟨B2, d2, B5, d5, rfl, -⟩ := k32_openF hF4
  obtain ⟨y0, y1, y2, y3, y4, y5, f0, f1, f2, f3, f4, f5⟩ := slot_cells HSB.out
  clear hF4 hB4 hz
  go_wp2
  refine bodyPost_ret (res_slot rfl _ _ _ _ _ _ _ _ _ rfl (six_blk HSB.out _ _ _ _ _ _)) rfl ?_
  rw [HE.out]
  exact slot_done HF4.out HB4.out (by omega) (fun k hk => by
   rcases hk with hk | hk
   ·have := HOK.out k hk; omega
   ·omega) (fun k hk => by
   rcases hk with hk | hk
   ·exact Or.inl hk
   ·exact Or.inr (by omega))
 ·have g1 : (o == (9 : Int)) = false := by simpa using h9
  by_cases h12 : o = 12
  ·have HE := Lib.hid (show overF o nm x = each 6 (fun k => ⟨o, nm, [], 0, 0, [k]⟩) x by unfold overF; rw [if_pos (Or.inr h12)])
   have g2 : (o == (12 : Int)) = true := by simpa using h12
   clear h9 h12
   go_enter Tryz.func84, Tryz.ntmps84
   go_wp2_with fail
   refine (HEA.out 6 (Or.inr rfl)).mono ?_
   rintro e w4 ⟨ds, rfl, hF4, hB4⟩
   have HSB := Lib.hid ((hB4.block (w.heap.size + 3) (by rw [H4.out.1]; omega)).trans H4.out.2.2.2.2.1)
   have HB4 := Lib.hid (below_then H4.out.2.2.2.2.2 H4.out.2.2.2.2.2.size hB4)
   rw [H4.out.1] at hF4
   obtain ⟨z, hz⟩ : ∃ z, each 6 (fun k => ⟨o, nm, [], 0, 0, [k]⟩) x = z := ⟨_, rfl⟩
   rw [hz] at hF4 HE
   have HF4 := Lib.hid hF4
   obtain ⟨B2, d2, B5, d5, rfl, -⟩ := k32_openF hF4
   obtain ⟨y0, y1, y2, y3, y4, y5, f0, f1, f2, f3, f4, f5⟩ := slot_cells HSB.out
   clear hF4 hB4 hz
   go_wp2
   refine bodyPost_ret (res_slot rfl _ _ _ _ _ _ _ _ _ rfl (six_blk HSB.out _ _ _ _ _ _)) rfl ?_
   rw [HE.out]
   exact slot_done HF4.out HB4.out (by omega) (fun k hk => by
    rcases hk with hk | hk
    ·have := HOK.out k hk; omega
    ·omega) (fun k hk => by
    rcases hk with hk | hk
    ·exact Or.inl hk
    ·exact Or.inr (by omega))
  ·have HE := Lib.hid (show overF o nm x = each 5 (fun k => ⟨o, nm, [], 0, 0, [k]⟩) x by unfold overF; rw [if_neg (by omega)])
   have g2 : (o == (12 : Int)) = false := by simpa using h12
   clear h9 h12
   go_enter Tryz.func84, Tryz.ntmps84
   go_wp2_with fail
   refine (HEA.out 5 (Or.inl rfl)).mono ?_
   rintro e w4 ⟨ds, rfl, hF4, hB4⟩
   have HSB := Lib.hid ((hB4.block (w.heap.size + 3) (by rw [H4.out.1]; omega)).trans H4.out.2.2.2.2.1)
   have HB4 := Lib.hid (below_then H4.out.2.2.2.2.2 H4.out.2.2.2.2.2.size hB4)
   rw [H4.out.1] at hF4
   obtain ⟨z, hz⟩ : ∃ z, each 5 (fun k => ⟨o, nm, [], 0, 0, [k]⟩) x = z := ⟨_, rfl⟩
   rw [hz] at hF4 HE
   have HF4 := Lib.hid hF4
   obtain ⟨B2, d2, B5, d5, rfl, -⟩ := k32_openF hF4
   obtain ⟨y0, y1, y2, y3, y4, y5, f0, f1, f2, f3, f4, f5⟩ := slot_cells HSB.out
   clear hF4 hB4 hz
   go_wp2
   refine bodyPost_ret (res_slot rfl _ _ _ _ _ _ _ _ _ rfl (six_blk HSB.out _ _ _ _ _ _)) rfl ?_
   rw [HE.out]
   exact slot_done HF4.out HB4.out (by omega) (fun k hk => by
    rcases hk with hk | hk
    ·have := HOK.out k hk; omega
    ·omega) (fun k hk => by
    rcases hk with hk | hk
    ·exact Or.inl hk
    ·exact Or.inr (by omega))
theorem inverses_map : ∀ l : List S32, inverses l = l.map inverseF
 | [] => by simp [inverses]
 | x :: l => by simp [inverses, inverses_map l]
set_option maxRecDepth 1000000 in
set_option maxHeartbeats 4000000 in
theorem inv_any : ∀ (n : Nat) (x : S32), size x < n → ∀ (w : World) (cs : List Value) (ok : Nat → Prop), Kd.FK k32 w ok x cs → (∀ k, ok k → k < w.heap.size) → leaves x * (2 + depth x) < 1000000 →
  Calls Tryz.prog 82 #[.agg cs.toArray] w fun e w' => Fr w w' ok (inverseF x) e
 | 0, x, hx, _, _, _, _, _, _ => absurd hx (Nat.not_lt_zero _)
 | n + 1, ⟨o, nm, a, f, t, k⟩, hx, w, cs, ok, hF, hok, hsz => by
  have hrec := inv_any n
  have HREC := Lib.hid hrec
  clear hrec
  have HF := Lib.hid hF
  obtain ⟨A2, c2, A5, c5, rfl, _, _, l5, g5⟩ := k32_openF hF
  have HK := Lib.hid g5
  have HOK := Lib.hid hok
  have HSZ := Lib.hid hx
  have HBD := Lib.hid hsz
  have hk5 : k.length ≤ 9223372036854775807 := (Kd.F_now g5).2.1
  clear hF hok g5 hx hsz
  dsimp only at *
  have HW := Lib.hid (box_slot w #[.int .i64 o, .string nm, .slice A2 a.length c2, .int .i64 f, .int .i64 t, .slice A5 k.length c5])
  by_cases h1 : o = 1
  ·subst h1
   have HC := Lib.hid (const_any ((w.alloc (.cells #[.int .i64 1, .string nm, .slice A2 a.length c2, .int .i64 f, .int .i64 t, .slice A5 k.length c5] 32)).alloc (.cells z6 32)) false ok)
   have HE := Lib.hid (show inverseF ⟨1, nm, a, f, t, k⟩ = const false by rw [inverseF]; simp)
   go_enter Tryz.func82, Tryz.ntmps82
   go_wp2_with fail
   refine HC.out.mono ?_
   rintro e w4 ⟨ds, rfl, hF4, hB4⟩
   have HSB := Lib.hid ((hB4.block (w.heap.size + 1) (by rw [HW.out.1]; omega)).trans HW.out.2.2.1)
   have HB4 := Lib.hid (below_then HW.out.2.2.2 HW.out.2.2.2.size hB4)
   rw [HW.out.1] at hF4
   obtain ⟨z, hz⟩ : ∃ z, const false = z := ⟨_, rfl⟩
   rw [hz] at hF4 HE
   have HF4 := Lib.hid hF4
   obtain ⟨B2, d2, B5, d5, rfl, -⟩ := k32_openF hF4
   obtain ⟨y0, y1, y2, y3, y4, y5, f0, f1, f2, f3, f4, f5⟩ := slot_cells HSB.out
   clear hF4 hB4 hz
   go_wp2
   refine bodyPost_ret (res_slot rfl _ _ _ _ _ _ _ _ _ rfl (six_blk HSB.out _ _ _ _ _ _)) rfl ?_
   rw [HE.out]
   exact slot_done HF4.out HB4.out (by omega) (fun k hk => by
    rcases hk with hk | hk
    ·have := HOK.out k hk; omega
    ·omega) (fun k hk => by
    rcases hk with hk | hk
    ·exact Or.inl hk
    ·exact Or.inr (by omega))
  ·by_cases h2 : o = 2
   ·subst h2
    have HC := Lib.hid (const_any ((w.alloc (.cells #[.int .i64 2, .string nm, .slice A2 a.length c2, .int .i64 f, .int .i64 t, .slice A5 k.length c5] 32)).alloc (.cells z6 32)) true ok)
    have HE := Lib.hid (show inverseF ⟨2, nm, a, f, t, k⟩ = const true by rw [inverseF]; simp)
    go_enter Tryz.func82, Tryz.ntmps82
    go_wp2_with fail
    refine HC.out.mono ?_
    rintro e w4 ⟨ds, rfl, hF4, hB4⟩
    have HSB := Lib.hid ((hB4.block (w.heap.size + 1) (by rw [HW.out.1]; omega)).trans HW.out.2.2.1)
    have HB4 := Lib.hid (below_then HW.out.2.2.2 HW.out.2.2.2.size hB4)
    rw [HW.out.1] at hF4
    obtain ⟨z, hz⟩ : ∃ z, const true = z := ⟨_, rfl⟩
    rw [hz] at hF4 HE
    have HF4 := Lib.hid hF4
    obtain ⟨B2, d2, B5, d5, rfl, -⟩ := k32_openF hF4
    obtain ⟨y0, y1, y2, y3, y4, y5, f0, f1, f2, f3, f4, f5⟩ := slot_cells HSB.out
    clear hF4 hB4 hz
    go_wp2
    refine bodyPost_ret (res_slot rfl _ _ _ _ _ _ _ _ _ rfl (six_blk HSB.out _ _ _ _ _ _)) rfl ?_
    rw [HE.out]
    exact slot_done HF4.out HB4.out (by omega) (fun k hk => by
     rcases hk with hk | hk
     ·have := HOK.out k hk; omega
     ·omega) (fun k hk => by
     rcases hk with hk | hk
     ·exact Or.inl hk
     ·exact Or.inr (by omega))
   ·by_cases h3 : o = 5
    ·subst h3
     have HE := Lib.hid (show inverseF ⟨5, nm, a, f, t, k⟩ = join 6 (k.map inverseF) by rw [inverseF, if_neg (by omega), if_pos rfl, inverses_map])
     have HJ := Lib.hid (show size.sizes (k.map inverseF) < 1000000 by
      have h1 := sizes_ld (k.map inverseF)
      have h2 := inverses_bound k
      rw [inverses_map] at h2
      have h3 := HBD.out
      have h4 := leaves_is ⟨5, nm, a, f, t, k⟩
      have h5 := depth_is ⟨5, nm, a, f, t, k⟩
      dsimp only at h4 h5
      have h6 := Nat.mul_le_mul (show leaves.leavess (k.map inverseF) ≤ leaves ⟨5, nm, a, f, t, k⟩ by omega) (show depth.depths (k.map inverseF) ≤ 2 + depth ⟨5, nm, a, f, t, k⟩ by omega)
      omega)
     have HST := Lib.hid (mp_start inverseF k ((w.alloc (.cells #[.int .i64 5, .string nm, .slice A2 a.length c2, .int .i64 f, .int .i64 t, .slice A5 k.length c5] 32)).alloc (.cells z6 32)) ok)
     rw [HW.out.1] at HST
     clear h1 h2 l5
     go_enter Tryz.func82, Tryz.ntmps82
     go_wp2
     obtain ⟨W1, hW1⟩ : ∃ W1, ((w.alloc (.cells #[.int .i64 5, .string nm, .slice A2 a.length c2, .int .i64 f, .int .i64 t, .slice A5 k.length c5] 32)).alloc (.cells z6 32)) = W1 := ⟨_, rfl⟩
     rw [hW1] at HST HW
     go_loopw [3, 21] (fun v3 v21 wr => MapRel inverseF k W1 ok v3 v21 wr) (fun _ v21 _ => k.length - (intOf v21).toNat)
     case atStart => rw [← hW1] at HST ⊢; exact HST.out
     case round =>
      clear HST
      obtain ⟨i, g, cap, rfl, rfl, hi, hN, hBl⟩ := hrel
      have HN := Lib.hid hN
      have HBL := Lib.hid hBl
      have HBw := Lib.hid (below_then HW.out.2.2.2 HW.out.2.2.2.size hBl)
      clear hN hBl
      have HKL := Lib.hid (show k.length < 1000000 by
       have h1 := len_leavess k
       have h3 := HBD.out
       have h4 := leaves_is ⟨5, nm, a, f, t, k⟩
       dsimp only at h4
       have h6 := Nat.mul_le_mul (Nat.le_refl (leaves ⟨5, nm, a, f, t, k⟩)) (show 1 ≤ 2 + depth ⟨5, nm, a, f, t, k⟩ by omega)
       omega)
      by_cases hlt : i < k.length
      ·have hi0 : 0 ≤ (i : Int) := by omega
       have hi1 : (i : Int) < (k.length : Int) := by omega
       obtain ⟨ad, A3, c3, A6, c6, e4, q0, q1, q2, q3, q4, q5, qF⟩ := form_F HK.out HBw.out i hlt
       subst e4
       have HTM := Lib.hid (take_map inverseF hlt)
       have hmem : k[i] ∈ k := List.getElem_mem hlt
       obtain ⟨y, hy⟩ : ∃ y, k[i] = y := ⟨_, rfl⟩
       rw [hy] at q0 q1 q2 q3 q4 q5 qF hmem HTM
       have HAL := Lib.hid ((Below.refl wr.heap.size wr).alloc (Nat.le_refl _) (.cells #[.int .i64 y.f0, .string y.f1, .slice A3 y.f2.length c3, .int .i64 y.f3, .int .i64 y.f4, .slice A6 y.f5.length c6] 32))
       have HAS := Lib.hid (show (wr.alloc (.cells #[.int .i64 y.f0, .string y.f1, .slice A3 y.f2.length c3, .int .i64 y.f3, .int .i64 y.f4, .slice A6 y.f5.length c6] 32)).heap.size = wr.heap.size + 1 by show (wr.heap.push _).size = _; simp)
       have HBw2 := Lib.hid (below_then HBw.out HBw.out.size HAL.out)
       have HIH := Lib.hid (HREC.out y (by have := kid_lt (x := ⟨5, nm, a, f, t, k⟩) hmem; have := HSZ.out; omega) _ _ ok (Kd.FK_step qF (fun k _ hk => HBw2.out.block k hk)) (fun k hk => Nat.lt_of_lt_of_le (HOK.out k hk) HBw2.out.size) (kid_prod hmem HBD.out))
       clear qF hmem hy
       go_wp2_with fail
       refine HIH.out.mono ?_
       rintro e w4 ⟨ds, rfl, hF4, hB4⟩
       obtain ⟨z, hz⟩ : ∃ z, inverseF y = z := ⟨_, rfl⟩
       have HTM2 := Lib.hid (show (k.take (i + 1)).map inverseF = (k.take i).map inverseF ++ [z] by rw [← hz]; exact HTM.out)
       rw [hz] at hF4
       have HF4 := Lib.hid hF4
       have HS4 := Lib.hid hB4.size
       have HN4 := Lib.hid (Kd.N_below (Kd.N_below HN.out HAL.out) hB4)
       have HNL := Lib.hid (Kd.N_lt HN.out g rfl)
       have HB4 := Lib.hid (below_then (below_then HBL.out HBL.out.size HAL.out) (below_then HBL.out HBL.out.size HAL.out).size hB4)
       obtain ⟨B2, d2, B5, d5, rfl, -⟩ := k32_openF hF4
       clear hF4 hB4 hz HIH HTM q0 q1 q2 q3 q4 q5
       go_wp2_with (first | (at_builtin; go_loud (refine Kd.N_append k32 (w0 := W1) (W := w4) W1.heap.size rfl (.tmp 25) (.tmp 28) 30 32 _ 88 rfl Tryz.underlying30 info32 rfl (by decide) (by decide) (.slice (some ⟨g, 0, none⟩) i cap) ((k.take i).map inverseF) z [.int .i64 z.f0, .string z.f1, .slice B2 z.f2.length d2, .int .i64 z.f3, .int .i64 z.f4, .slice B5 z.f5.length d5] (OkN ok W1.heap.size) _ rfl rfl HF4.out (fun k hk => ⟨by
        rcases hk with hk | hk
        ·exact Or.inl hk
        ·exact Or.inr (by have := HAS.out; have := HBL.out.size; omega), fun e => by
        have h1 := Kd.N_base HN.out k e.symm
        rcases hk with hk | hk
        ·have := HOK.out k hk; have := HW.out.1; omega
        ·have := HAS.out; have := HNL.out; have e2 : k = g := Option.some.inj e; omega⟩) (fun k hk => Or.inr (by have := HB4.out.size; omega)) HN4.out HB4.out HB4.out.size (by rw [List.length_map, List.length_take]; have := HKL.out; omega) ?_); intro v9 w9 hr9 hb9 hg9 hat9; rw [← HTM2.out] at hr9; have HNX := Lib.hid (mp_next hlt rfl hr9 hb9 hat9); clear hr9 hb9 hg9 hat9) | fail)
       go_roundw
       case rel => exact HNX.out
       case measure => have := HKL.out; simp [intOf]; omega
      ·have hil : i = k.length := by omega
       subst hil
       clear hlt hi
       have hN2 := HN.out
       rw [List.take_length] at hN2
       obtain ⟨hrow, -⟩ := mp_row hN2
       have hj := join_any (c := cap) (Or.inr rfl) hrow (fun k hk => hk.2) HJ.out
       rw [List.length_map] at hj
       have HJN := Lib.hid hj
       clear hN2 hrow hj
       go_wp2_with fail
       refine HJN.out.mono ?_
       rintro e w6 ⟨ds, rfl, hF6, hB6⟩
       have HB6 := Lib.hid (below_then HBw.out HBw.out.size hB6)
       have HSB := Lib.hid (((below_then HBL.out HBL.out.size hB6).block (w.heap.size + 1) (by rw [HW.out.1]; omega)).trans HW.out.2.2.1)
       obtain ⟨z, hz⟩ : ∃ z, join 6 (k.map inverseF) = z := ⟨_, rfl⟩
       rw [hz] at hF6 HE
       have HF6 := Lib.hid hF6
       obtain ⟨B2, d2, B5, d5, rfl, -⟩ := k32_openF hF6
       obtain ⟨y0, y1, y2, y3, y4, y5, f0, f1, f2, f3, f4, f5⟩ := slot_cells HSB.out
       clear hF6 hB6 hz
       go_wp2
       refine bodyPost_ret (res_slot rfl _ _ _ _ _ _ _ _ _ rfl (six_blk HSB.out _ _ _ _ _ _)) rfl ?_
       rw [HE.out]
       exact slot_done HF6.out HB6.out (by omega) (fun k hk => by
        have h1 := HW.out.1
        have h2 := HBL.out.size
        rcases hk with ⟨hk | hk, _⟩ | hk
        ·have := HOK.out k hk; omega
        ·omega
        ·omega) (fun k hk => by
        have h1 := HW.out.1
        have h2 := HBL.out.size
        rcases hk with ⟨hk | hk, _⟩ | hk
        ·exact Or.inl hk
        ·exact Or.inr (by omega)
        ·exact Or.inr (by omega))
    ·have e1 : (o == (1 : Int)) = false := by simpa using h1
     have e2 : (o == (2 : Int)) = false := by simpa using h2
     have e3 : (o == (5 : Int)) = false := by simpa using h3
     have HE := Lib.hid (show inverseF ⟨o, nm, a, f, t, k⟩ = ⟨4, eStr, [], 0, 0, [⟨o, nm, a, f, t, k⟩]⟩ by rw [inverseF, if_neg (by omega), if_neg h3])
     have HBE := Lib.hid (build_end HF.out HOK.out #[.int .i64 o, .string nm, .slice A2 a.length c2, .int .i64 f, .int .i64 t, .slice A5 k.length c5] 4 ⟨#[]⟩ 0 0)
     clear h1 h2 h3 l5
     go_enter Tryz.func82, Tryz.ntmps82
     go_wp2
     refine bodyPost_ret (res_slot rfl _ _ _ _ _ _ _ _ _ rfl HBE.out.1) rfl ?_
     rw [HE.out]
     exact HBE.out.2
end Go.Proofs.YtbahnpdgaoedmaaGreatDoor.Mm
namespace Go.Proofs.YtbahnpdgaoedmaaGreatDoor.PMemoryExact
open Go.RowKit Go.Proofs.YtbahnpdgaoedmaaGreatDoorW.PrintWords Go.Proofs.YtbahnpdgaoedmaaGreatDoorW.PrintLast Go.Proofs.YtbahnpdgaoedmaaGreatDoorW.PrintMore
attribute [local go_sem] max2_int min2_int max_two min_two max_three min_three max_four min_four   -- for this text's walks alone
set_option linter.unusedVariables false
set_option linter.unusedSimpArgs false
/-! ### normalform_opposite: function 83 -/
def normalform_opposite.f (a0 : Int) : Option (Int) := if a0 = 5 then (some 6) else (if a0 = 6 then (some 5) else (if a0 = 8 then (some 9) else (if a0 = 9 then (some 8) else (if a0 = 11 then (some 12) else (some 11)))))
set_option maxHeartbeats 8000000 in
set_option maxRecDepth 100000 in
theorem normalform_opposite.calls (a0 : Int) (r : Int) (w : World) (h : normalform_opposite.f a0 = some r) :
  Calls Tryz.prog 83 #[.int .i64 a0] w fun e w' => e = .returned (.int .i64 r) ∧ Drawn0 w w' := by
 have H : (if a0 = 5 then (some 6) else (if a0 = 6 then (some 5) else (if a0 = 8 then (some 9) else (if a0 = 9 then (some 8) else (if a0 = 11 then (some 12) else (some 11)))))) = some r := h
 clear h
 by_cases c2 : a0 = 5
 ·rw [if_pos c2] at H
  have c2b0 : (a0 == 5) = true := beq_iff_eq.mpr c2
  have c2b1 : (a0 != 5) = false := bne_eq_false_iff_eq.mpr c2
  clear c2
  obtain rfl := Option.some.inj H
  go_enter Tryz.func83, Tryz.ntmps83
  go_wp2
  go_ret
  exact ⟨by first | rfl | (simp; done) | (simp [*]; done), by repeat (first | exact Drawn0.refl _ | apply Drawn0.step)⟩
 ·rw [if_neg c2] at H
  have c2b0 : (a0 == 5) = false := beq_eq_false_iff_ne.mpr c2
  have c2b1 : (a0 != 5) = true := bne_iff_ne.mpr c2
  by_cases c3 : a0 = 6
  ·rw [if_pos c3] at H
   have c3b0 : (a0 == 6) = true := beq_iff_eq.mpr c3
   have c3b1 : (a0 != 6) = false := bne_eq_false_iff_eq.mpr c3
   clear c3
   obtain rfl := Option.some.inj H
   go_enter Tryz.func83, Tryz.ntmps83
   go_wp2
   go_ret
   exact ⟨by first | rfl | (simp; done) | (simp [*]; done), by repeat (first | exact Drawn0.refl _ | apply Drawn0.step)⟩
  ·rw [if_neg c3] at H
   have c3b0 : (a0 == 6) = false := beq_eq_false_iff_ne.mpr c3
   have c3b1 : (a0 != 6) = true := bne_iff_ne.mpr c3
   by_cases c4 : a0 = 8
   ·rw [if_pos c4] at H
    have c4b0 : (a0 == 8) = true := beq_iff_eq.mpr c4
    have c4b1 : (a0 != 8) = false := bne_eq_false_iff_eq.mpr c4
    clear c4
    obtain rfl := Option.some.inj H
    go_enter Tryz.func83, Tryz.ntmps83
    go_wp2
    go_ret
    exact ⟨by first | rfl | (simp; done) | (simp [*]; done), by repeat (first | exact Drawn0.refl _ | apply Drawn0.step)⟩
   ·rw [if_neg c4] at H
    have c4b0 : (a0 == 8) = false := beq_eq_false_iff_ne.mpr c4
    have c4b1 : (a0 != 8) = true := bne_iff_ne.mpr c4
    by_cases c5 : a0 = 9
    ·rw [if_pos c5] at H
     have c5b0 : (a0 == 9) = true := beq_iff_eq.mpr c5
     have c5b1 : (a0 != 9) = false := bne_eq_false_iff_eq.mpr c5
     clear c5
     obtain rfl := Option.some.inj H
     go_enter Tryz.func83, Tryz.ntmps83
     go_wp2
     go_ret
     exact ⟨by first | rfl | (simp; done) | (simp [*]; done), by repeat (first | exact Drawn0.refl _ | apply Drawn0.step)⟩
    ·rw [if_neg c5] at H
     have c5b0 : (a0 == 9) = false := beq_eq_false_iff_ne.mpr c5
     have c5b1 : (a0 != 9) = true := bne_iff_ne.mpr c5
     by_cases c6 : a0 = 11
     ·rw [if_pos c6] at H
      have c6b0 : (a0 == 11) = true := beq_iff_eq.mpr c6
      have c6b1 : (a0 != 11) = false := bne_eq_false_iff_eq.mpr c6
      clear c6
      obtain rfl := Option.some.inj H
      go_enter Tryz.func83, Tryz.ntmps83
      go_wp2
      go_ret
      exact ⟨by first | rfl | (simp; done) | (simp [*]; done), by repeat (first | exact Drawn0.refl _ | apply Drawn0.step)⟩
     ·rw [if_neg c6] at H
      have c6b0 : (a0 == 11) = false := beq_eq_false_iff_ne.mpr c6
      have c6b1 : (a0 != 11) = true := bne_iff_ne.mpr c6
      obtain rfl := Option.some.inj H
      go_enter Tryz.func83, Tryz.ntmps83
      go_wp2
      go_ret
      exact ⟨by first | rfl | (simp; done) | (simp [*]; done), by repeat (first | exact Drawn0.refl _ | apply Drawn0.step)⟩
-- NOT PRINTED: function 84 (normalform_over)
-- NOT PRINTED: function 52 (normalform_normal)
-- NOT PRINTED: function 38 (normalform_Of)
-- NOT PRINTED: function 114 (abi_NoEscape)
-- NOT PRINTED: function 106 (strings_Builder_copyCheck)
-- NOT PRINTED: function 85 (strings_Builder_WriteString)
end Go.Proofs.YtbahnpdgaoedmaaGreatDoor.PMemoryExact
namespace Go.Proofs.YtbahnpdgaoedmaaGreatDoor.Mm
open Go.RowKit Go.Proofs.YtbahnpdgaoedmaaGreatDoorW.PrintWords Go.Proofs.YtbahnpdgaoedmaaGreatDoorW.PrintLast Go.Proofs.YtbahnpdgaoedmaaGreatDoorW.PrintMore Go.Proofs.YtbahnpdgaoedmaaGreatDoor.PMemoryExact
set_option linter.unusedSimpArgs false
set_option linter.unusedVariables false
theorem info84 : (Tryz.prog.info? 84).map (fun i => (i.zero, i.size, i.bytes)) = some (some (.agg #[.int .i64 0, .int .i64 0, .string ⟨#[]⟩]), 3, 32) := by kernel_rfl
theorem nil84 (w : World) (b : Nat) (ok : Nat → Prop) : Kd.N k84 84 (w.alloc (.cells #[] 84)) w.heap.size (OkN ok w.heap.size) (.slice (some ⟨w.heap.size, 0, none⟩) 0 0) [] := by
 have hb := blk_new w (.cells #[] 84)
 refine ⟨fun k hk => ?_, [], rfl, ⟨fun k hk => hk.symm, [], ⟨rfl, .inr ⟨w.heap.size, 0, #[], rfl, Nat.le_refl _, hb, Nat.le_refl _, by simp [maxLen], rfl, rfl⟩⟩, ⟨rfl, fun j p hj => by simp at hj⟩⟩, fun j x c hj _ => by simp at hj⟩
 simp only [Value.ownBlock, Option.some.injEq] at hk
 exact Or.inr (by omega)
set_option maxRecDepth 1000000 in
set_option maxHeartbeats 4000000 in
theorem clone_any {w : World} {A : Option Addr} {l : List S84} {c : Nat} {ok : Nat → Prop} (h : Kd.F k84 w ok A l.length l) (hok : ∀ k, ok k → k < w.heap.size) (hl : l.length < 1000000) :
  Calls Tryz.prog 79 #[.slice A l.length c] w fun e w' => ∃ A' c', e = .returned (.slice A' l.length c') ∧ l.length ≤ c' ∧ Kd.F k84 w' (OkN ok w.heap.size) A' l.length l ∧ Below w.heap.size w w' := by
 cases A with
 | none =>
  have hl0 : l = [] := by
   cases l with
   | nil => rfl
   | cons x l =>
    obtain ⟨ad, e, _⟩ := (Kd.F_now h).2.2 (by simp)
    cases e
  subst hl0
  clear h hok hl
  have hnil : ∀ W : World, (binOp .eql 29 (.slice none 0 c) (.slice none 0 0)).run Tryz.prog W = .ok (.bool true) W := fun W => Lib.run_eql_slice_nil W 29 84 none 0 c 0 0 Tryz.underlying29
  go_enter Tryz.func79, Tryz.ntmps79
  go_wp2
  go_ret
  exact ⟨none, 0, rfl, Nat.le_refl _, Kd.F_nil k84 w _, Below.refl _ _⟩
 | some ad =>
  have HB := Lib.hid ((Below.refl w.heap.size w).alloc (Nat.le_refl _) (.cells #[] 84))
  have HF := Lib.hid (Kd.F_step h (fun k _ hk => HB.out.block k hk))
  have HN := Lib.hid (nil84 w 0 ok)
  have HOK := Lib.hid hok
  clear h hok
  have hnil : ∀ W : World, (binOp .eql 29 (.slice (some ad) l.length c) (.slice none 0 0)).run Tryz.prog W = .ok (.bool false) W := fun W => Lib.run_eql_slice_nil W 29 84 (some ad) l.length c 0 0 Tryz.underlying29
  go_enter Tryz.func79, Tryz.ntmps79
  go_wp2_with (first | (at_builtin; go_loud (refine Kd.N_append_rows k84 (w0 := w) w.heap.size rfl (.tmp 5) (.tmp 6) 29 84 _ 32 rfl Tryz.underlying29 info84 rfl (by decide) (by decide) (.slice (some ⟨w.heap.size, 0, none⟩) 0 0) [] l (some ad) l.length c (OkN ok w.heap.size) ok rfl rfl HN.out HF.out (fun k hk => ⟨Or.inl hk, fun e => by have := HOK.out k hk; have e2 : k = w.heap.size := Option.some.inj e; omega⟩) (fun k hk => Or.inr (by have := HB.out.size; omega)) HB.out HB.out.size (by simp only [List.length_nil]; omega) ?_); intro v9 w9 hr9 hb9 hg9 hat9; have HN9 := Lib.hid hr9; have HB9 := Lib.hid hb9; obtain ⟨A9, c9, e9⟩ := Kd.N_slice hr9; have HE9 := Lib.hid e9; clear hr9 hb9 hg9 hat9 e9) | fail)
  go_ret
  have e9 := HE9.out
  have hN := HN9.out
  rw [List.nil_append] at e9 hN
  subst e9
  obtain ⟨_, h2, _⟩ := Kd.N_reads' hN
  exact ⟨A9, c9, rfl, h2, Kd.N_F hN, HB9.out⟩
end Go.Proofs.YtbahnpdgaoedmaaGreatDoor.Mm
namespace Go.Proofs.YtbahnpdgaoedmaaGreatDoor.PMemoryExact
open Go.RowKit Go.Proofs.YtbahnpdgaoedmaaGreatDoorW.PrintWords Go.Proofs.YtbahnpdgaoedmaaGreatDoorW.PrintLast Go.Proofs.YtbahnpdgaoedmaaGreatDoorW.PrintMore
attribute [local go_sem] max2_int min2_int max_two min_two max_three min_three max_four min_four   -- for this text's walks alone
set_option linter.unusedVariables false
set_option linter.unusedSimpArgs false
/-! ### formula_Size: function 69 -/
mutual
def formula_Size.l0 : Nat → Int → List (S32) → Int → Int → Option (Int)
 | 0, _, _, _, _ => none
 | k + 1, x3, x7, x8, x9 => if x9 < x8 then (if 0 ≤ x9 then (if x9 < (x7.length : Int) then ((formula_Size.f k ((rd_T32 x7 x9).f0) ((rd_T32 x7 x9).f1) ((rd_T32 x7 x9).f2) ((rd_T32 x7 x9).f3) ((rd_T32 x7 x9).f4) ((rd_T32 x7 x9).f5)).bind fun t104 => (formula_Size.l0 k (wrap64 (x3 + t104)) x7 x8 (wrap64 (x9 + 1)))) else (none)) else (none)) else (some x3)
def formula_Size.f : Nat → Int → ByteArray → List (S84) → Int → Int → List (S32) → Option (Int)
 | 0, _, _, _, _, _, _ => none
 | k + 1, a0_0, a0_1, l0_2, a0_3, a0_4, l0_5 => formula_Size.l0 k 1 l0_5 (l0_5.length : Int) 0
end
theorem formula_Size.mono_l : ∀ k, (∀ y0 y1 y2 y3 y4 y5, LeO (formula_Size.f k y0 y1 y2 y3 y4 y5) (formula_Size.f (k + 1) y0 y1 y2 y3 y4 y5)) ∧ (∀ y0 y1 y2 y3, LeO (formula_Size.l0 k y0 y1 y2 y3) (formula_Size.l0 (k + 1) y0 y1 y2 y3))
 | 0 => ⟨fun _ _ _ _ _ _ r h => by simp [formula_Size.f] at h, fun _ _ _ _ r h => by simp [formula_Size.l0] at h⟩
 | k + 1 => by
  obtain ⟨ih0, ih1⟩ := formula_Size.mono_l k
  refine ⟨?_, ?_⟩
  ·intro y0 y1 y2 y3 y4 y5
   unfold formula_Size.f
   repeat' first
   | (with_reducible exact ih0 _ _ _ _ _ _)
   | (with_reducible exact ih1 _ _ _ _)
   | (with_reducible exact LeO.refl _)
   | (with_reducible exact LeO.none _)
   | (with_reducible refine LeO.ite ?_ ?_)
   | (with_reducible refine LeO.bind ?_ (fun _ => ?_))
   | exact ih0 _ _ _ _ _ _
   | exact ih1 _ _ _ _
   | exact LeO.none _
   | refine LeO.ite ?_ ?_
   | refine LeO.bind ?_ (fun _ => ?_)
  ·intro y0 y1 y2 y3
   unfold formula_Size.l0
   repeat' first
   | (with_reducible exact ih0 _ _ _ _ _ _)
   | (with_reducible exact ih1 _ _ _ _)
   | (with_reducible exact LeO.refl _)
   | (with_reducible exact LeO.none _)
   | (with_reducible refine LeO.ite ?_ ?_)
   | (with_reducible refine LeO.bind ?_ (fun _ => ?_))
   | exact ih0 _ _ _ _ _ _
   | exact ih1 _ _ _ _
   | exact LeO.none _
   | refine LeO.ite ?_ ?_
   | refine LeO.bind ?_ (fun _ => ?_)
theorem formula_Size.mono : ∀ a0 a1 a2 a3 a4 a5 k, LeO (formula_Size.f k a0 a1 a2 a3 a4 a5) (formula_Size.f (k + 1) a0 a1 a2 a3 a4 a5) := by
 intro a0 a1 a2 a3 a4 a5 k
 obtain ⟨ih0, ih1⟩ := formula_Size.mono_l k
 exact ih0 a0 a1 a2 a3 a4 a5
set_option maxHeartbeats 8000000 in
set_option maxRecDepth 100000 in
theorem formula_Size.calls (k : Nat) : ∀ (a0_0 : Int) (a0_1 : ByteArray) (A0_2 : Option Addr) (c0_2 : Nat) (l0_2 : List (S84)) (a0_3 : Int) (a0_4 : Int) (A0_5 : Option Addr) (c0_5 : Nat) (l0_5 : List (S32)) (r : Int) (w : World) (hr0_2 : Kd.C k84 w A0_2 l0_2.length l0_2) (hc0_2 : l0_2.length ≤ c0_2) (hr0_5 : Kd.C k32 w A0_5 l0_5.length l0_5) (hc0_5 : l0_5.length ≤ c0_5) (h : formula_Size.f k a0_0 a0_1 l0_2 a0_3 a0_4 l0_5 = some r),
  Calls Tryz.prog 69 #[.agg #[.int .i64 a0_0, .string a0_1, .slice A0_2 l0_2.length c0_2, .int .i64 a0_3, .int .i64 a0_4, .slice A0_5 l0_5.length c0_5]] w fun e w' => e = .returned (.int .i64 r) ∧ Below w.heap.size w w' := by
 induction k using Nat.strongRecOn with
 | _ k ih =>
 intro a0_0 a0_1 A0_2 c0_2 l0_2 a0_3 a0_4 A0_5 c0_5 l0_5 r w hr0_2 hc0_2 hr0_5 hc0_5 h
 cases k with
 | zero => exact absurd h (by simp [formula_Size.f])
 | succ k =>
 simp only [formula_Size.f] at h
 have hu32 := Tryz.underlying32
 have HR0_2 := Aside0.mk hr0_2
 have HC0_2 := Aside0.mk hc0_2
 clear hr0_2 hc0_2
 have HR0_5 := Aside0.mk hr0_5
 have HC0_5 := Aside0.mk hc0_5
 clear hr0_5 hc0_5
 have HB := Aside0.mk (Below.refl w.heap.size w)
 have H : (formula_Size.l0 k 1 l0_5 (l0_5.length : Int) 0) = some r := h
 clear h
 have H' := Aside0.mk H
 clear H
 go_enter Tryz.func69, Tryz.ntmps69
 go_wp2_with (first | ((with_reducible refine gate_dst (N := 1) rfl ?_); refine box_event ?hg (N := 1) ?hd (cs := #[.int .i64 a0_0, .string a0_1, .slice A0_2 l0_2.length c0_2, .int .i64 a0_3, .int .i64 a0_4, .slice A0_5 l0_5.length c0_5]) (t := 32) ?hr ?_; (case hd => rfl); (case hg => rfl); (case hr => first | (go_simp; done) | (go_simp; rfl)); intro gb101 hg w2 hbox hb; have n0_ := Aside0.mk (below_step (by repeat (first | (with_reducible first | exact HB.out | apply below_alloc | apply pw_below_drewN | apply below_drew1) | exact HB.out)) hb); have n1_ := Aside0.mk (hbox); have n2_ := Aside0.mk ((by rw [hg]; exact (below_size (by repeat (first | (with_reducible first | exact HB.out | apply below_alloc | apply pw_below_drewN | apply below_drew1) | exact HB.out))) : w.heap.size ≤ gb101)); have n3_ := Aside0.mk ((by rw [hg]; exact (below_size (by repeat (first | (with_reducible first | exact HB.out | apply below_alloc | apply pw_below_drewN | apply below_drew1) | exact HB.out))) : w.heap.size ≤ gb101)); clear HB; have HB := n0_; have BK101 := n1_; have GW101 := n2_; have GE101 := n3_; clear n0_ n1_ n2_ n3_; clear hb hbox hg; have hcz3_0 : w2.cell? ⟨gb101, 0, none⟩ = some (.int .i64 a0_0) := (blk_cell BK101.out 0).trans rfl; have hcz3_1 : w2.cell? ⟨gb101, 1, none⟩ = some (.string a0_1) := (blk_cell BK101.out 1).trans rfl; have hcz3_2 : w2.cell? ⟨gb101, 2, none⟩ = some (.slice A0_2 l0_2.length c0_2) := (blk_cell BK101.out 2).trans rfl; have hcz3_3 : w2.cell? ⟨gb101, 3, none⟩ = some (.int .i64 a0_3) := (blk_cell BK101.out 3).trans rfl; have hcz3_4 : w2.cell? ⟨gb101, 4, none⟩ = some (.int .i64 a0_4) := (blk_cell BK101.out 4).trans rfl; have hcz3_5 : w2.cell? ⟨gb101, 5, none⟩ = some (.slice A0_5 l0_5.length c0_5) := (blk_cell BK101.out 5).trans rfl; have hfz3_0 := blk_frozen BK101.out 0; have hfz3_1 := blk_frozen BK101.out 1; have hfz3_2 := blk_frozen BK101.out 2; have hfz3_3 := blk_frozen BK101.out 3; have hfz3_4 := blk_frozen BK101.out 4; have hfz3_5 := blk_frozen BK101.out 5))
 go_loopg [3, 9] k (fun kq v3 v9 w' => ∃ (x3_1 : Int) (x9_1 : Int), v3 = .int .i64 x3_1 ∧ v9 = .int .i64 x9_1 ∧ Aside0 (formula_Size.l0 kq x3_1 l0_5 (l0_5.length : Int) x9_1 = some r) ∧ Aside0 (kq ≤ k) ∧ Aside0 (w'.heap[gb101]? = some (.cells #[.int .i64 a0_0, .string a0_1, (.slice A0_2 l0_2.length c0_2), .int .i64 a0_3, .int .i64 a0_4, (.slice A0_5 l0_5.length c0_5)] 32 (0, 0))) ∧ Aside0 (Below w.heap.size w w'))
 case atStart => exact ⟨(1), (0), (by first | rfl | (simp; done) | (simp [*]; done)), (by first | rfl | (simp; done) | (simp [*]; done)), H', ⟨Nat.le_refl _⟩, ⟨by (with_reducible repeat (first | refine blk_drewN ?_ _ | refine blk_drew ?_ | refine blk_alloc ?_ _)); exact BK101.out⟩, ⟨by repeat (first | (with_reducible first | exact HB.out | apply below_alloc | apply pw_below_drewN | apply below_drew1 | refine below_set ?_ GE101.out) | exact HB.out)⟩⟩
 case round =>
  clear H'
  try clear p2
  try clear hcz3_0
  try clear hcz3_1
  try clear hcz3_2
  try clear hcz3_3
  try clear hcz3_4
  try clear hcz3_5
  try clear hfz3_0
  try clear hfz3_1
  try clear hfz3_2
  try clear hfz3_3
  try clear hfz3_4
  try clear hfz3_5
  obtain ⟨x3_1, x9_1, rfl, rfl, HA, HK1, BK101, HB⟩ := hrel
  cases gk with
  | zero => exact absurd HA.out (by simp [formula_Size.l0])
  | succ k1 =>
   have H := HA.out
   clear HA
   simp only [formula_Size.l0] at H
   by_cases c4 : x9_1 < (l0_5.length : Int)
   ·rw [if_pos c4] at H
    have c4b0 : decide (x9_1 < (l0_5.length : Int)) = true := decide_eq_true c4
    clear c4
    by_cases c5 : 0 ≤ x9_1
    ·rw [if_pos c5] at H
     have c5b0 : decide (0 ≤ x9_1) = true := decide_eq_true c5
     clear c5
     by_cases c6 : x9_1 < (l0_5.length : Int)
     ·rw [if_pos c6] at H
      have c6b0 : decide (x9_1 < (l0_5.length : Int)) = true := decide_eq_true c6
      clear c6
      replace H := Option.bind_eq_some_iff.mp H
      obtain ⟨t104, A70, H⟩ := H
      replace H : (formula_Size.l0 k1 (wrap64 (x3_1 + t104)) l0_5 (l0_5.length : Int) (wrap64 (x9_1 + 1))) = some r := H
      have A7 := Aside0.mk A70
      clear A70
      have H' := Aside0.mk H
      clear H
      have p102 : 0 ≤ (x9_1 : Int) := of_decide_eq_true (by first | (with_reducible assumption) | assumption)
      have q102 : x9_1 < (l0_5.length : Int) := of_decide_eq_true (by first | (with_reducible assumption) | assumption)
      obtain ⟨ad102, A102_2, c102_2, A102_5, c102_5, e102, hx102_0, hx102_1, hx102_2, hx102_3, hx102_4, hx102_5, hl102_2, hi102_2, hl102_5, hi102_5⟩ := at_T32 HR0_5.out x9_1 p102 q102
      cases e102
      replace hx102_0 := (HB.out.cell (World.block_lt_of_cell? w _ hx102_0)).trans hx102_0
      replace hx102_1 := (HB.out.cell (World.block_lt_of_cell? w _ hx102_1)).trans hx102_1
      replace hx102_2 := (HB.out.cell (World.block_lt_of_cell? w _ hx102_2)).trans hx102_2
      replace hx102_3 := (HB.out.cell (World.block_lt_of_cell? w _ hx102_3)).trans hx102_3
      replace hx102_4 := (HB.out.cell (World.block_lt_of_cell? w _ hx102_4)).trans hx102_4
      replace hx102_5 := (HB.out.cell (World.block_lt_of_cell? w _ hx102_5)).trans hx102_5
      have HR102_2 := Aside0.mk hi102_2
      have HC102_2 := Aside0.mk hl102_2
      clear hi102_2 hl102_2
      have HR102_5 := Aside0.mk hi102_5
      have HC102_5 := Aside0.mk hl102_5
      clear hi102_5 hl102_5
      replace p102 := eq_true p102
      replace q102 := eq_true q102
      go_wp2_with (first | ((with_reducible refine gate_dst (N := 5) rfl ?_); refine box_event ?hg (N := 5) ?hd (cs := #[.int .i64 0, .string (⟨#[]⟩ : ByteArray), .slice none 0 0, .int .i64 0, .int .i64 0, .slice none 0 0]) (t := 32) ?hr ?_; (case hd => rfl); (case hg => rfl); (case hr => first | (go_simp; done) | (go_simp; rfl)); intro gb103 hg w8 hbox hb; have n0_ := Aside0.mk (blk_below (g := gb101) (o := .cells #[.int .i64 a0_0, .string a0_1, .slice A0_2 l0_2.length c0_2, .int .i64 a0_3, .int .i64 a0_4, .slice (some ad102) l0_5.length c0_5] 32 (0, 0)) (by (with_reducible repeat (first | refine blk_drewN ?_ _ | refine blk_drew ?_ | refine blk_alloc ?_ _)); exact BK101.out) hb); have n1_ := Aside0.mk (below_step (by repeat (first | (with_reducible first | exact HB.out | apply below_alloc | apply pw_below_drewN | apply below_drew1 | refine below_set ?_ GE101.out) | exact HB.out)) hb); have n2_ := Aside0.mk (hbox); have n3_ := Aside0.mk ((by rw [hg]; exact (below_size (by repeat (first | (with_reducible first | exact HB.out | apply below_alloc | apply pw_below_drewN | apply below_drew1 | refine below_set ?_ GE101.out) | exact HB.out))) : w.heap.size ≤ gb103)); have n4_ := Aside0.mk ((by rw [hg]; exact (below_size (by repeat (first | (with_reducible first | exact HB.out | apply below_alloc | apply pw_below_drewN | apply below_drew1 | refine below_set ?_ GE101.out) | exact HB.out))) : w.heap.size ≤ gb103)); have n5_ := Aside0.mk ((by rw [hg]; exact Nat.ne_of_lt (blk_lt (g := gb101) (o := .cells #[.int .i64 a0_0, .string a0_1, .slice A0_2 l0_2.length c0_2, .int .i64 a0_3, .int .i64 a0_4, .slice (some ad102) l0_5.length c0_5] 32 (0, 0)) (by (with_reducible repeat (first | refine blk_drewN ?_ _ | refine blk_drew ?_ | refine blk_alloc ?_ _)); exact BK101.out)) : gb101 ≠ gb103)); have n6_ := Aside0.mk ((by rw [hg]; exact Nat.ne_of_gt (blk_lt (g := gb101) (o := .cells #[.int .i64 a0_0, .string a0_1, .slice A0_2 l0_2.length c0_2, .int .i64 a0_3, .int .i64 a0_4, .slice (some ad102) l0_5.length c0_5] 32 (0, 0)) (by (with_reducible repeat (first | refine blk_drewN ?_ _ | refine blk_drew ?_ | refine blk_alloc ?_ _)); exact BK101.out)) : gb103 ≠ gb101)); clear BK101; clear HB; have BK101 := n0_; have HB := n1_; have BK103 := n2_; have GW103 := n3_; have GE103 := n4_; have NB101_103 := n5_; have NB103_101 := n6_; clear n0_ n1_ n2_ n3_ n4_ n5_ n6_; clear hb hbox hg; have hnb9 := NB103_101.out; have hnc9 := NB101_103.out; have hcz10_0 : w8.cell? ⟨gb103, 0, none⟩ = some (.int .i64 0) := (blk_cell BK103.out 0).trans rfl; have hcz10_1 : w8.cell? ⟨gb103, 1, none⟩ = some (.string (⟨#[]⟩ : ByteArray)) := (blk_cell BK103.out 1).trans rfl; have hcz10_2 : w8.cell? ⟨gb103, 2, none⟩ = some (.slice none 0 0) := (blk_cell BK103.out 2).trans rfl; have hcz10_3 : w8.cell? ⟨gb103, 3, none⟩ = some (.int .i64 0) := (blk_cell BK103.out 3).trans rfl; have hcz10_4 : w8.cell? ⟨gb103, 4, none⟩ = some (.int .i64 0) := (blk_cell BK103.out 4).trans rfl; have hcz10_5 : w8.cell? ⟨gb103, 5, none⟩ = some (.slice none 0 0) := (blk_cell BK103.out 5).trans rfl; have hfz10_0 := blk_frozen BK103.out 0; have hfz10_1 := blk_frozen BK103.out 1; have hfz10_2 := blk_frozen BK103.out 2; have hfz10_3 := blk_frozen BK103.out 3; have hfz10_4 := blk_frozen BK103.out 4; have hfz10_5 := blk_frozen BK103.out 5) | ((with_reducible refine gate_callee (f := 69) rfl ?_); refine goesL_ (some 15) rfl rfl Tryz.func69 (by kernel_rfl) rfl #[.agg #[.int .i64 ((rd_T32 l0_5 x9_1).f0), .string ((rd_T32 l0_5 x9_1).f1), .slice A102_2 ((rd_T32 l0_5 x9_1).f2).length c102_2, .int .i64 ((rd_T32 l0_5 x9_1).f3), .int .i64 ((rd_T32 l0_5 x9_1).f4), .slice A102_5 ((rd_T32 l0_5 x9_1).f5).length c102_5]] rfl (by (try simp only [List.map_toArray, List.map_cons, List.map_nil]); first | done | rfl | (simp only [List.length_drop, List.length_take]; rfl)) ?_; (with_reducible refine (ih k1 (by have := HK1.out; omega) ((rd_T32 l0_5 x9_1).f0) ((rd_T32 l0_5 x9_1).f1) _ _ ((rd_T32 l0_5 x9_1).f2) ((rd_T32 l0_5 x9_1).f3) ((rd_T32 l0_5 x9_1).f4) _ _ ((rd_T32 l0_5 x9_1).f5) t104 _ ?side1 ?side2 ?side3 ?side4 A7.out).mono ?_); (case side1 => exact Kd.C_below HR102_2.out (by repeat (first | (with_reducible first | exact HB.out | apply below_alloc | apply pw_below_drewN | apply below_drew1 | refine below_set ?_ GE101.out | refine below_set ?_ GE103.out) | exact HB.out))); (case side2 => exact HC102_2.out); (case side3 => exact Kd.C_below HR102_5.out (by repeat (first | (with_reducible first | exact HB.out | apply below_alloc | apply pw_below_drewN | apply below_drew1 | refine below_set ?_ GE101.out | refine below_set ?_ GE103.out) | exact HB.out))); (case side4 => exact HC102_5.out); rintro e w11 ⟨rfl, hb⟩; refine ⟨_, rfl, ?_⟩; have n0_ := Aside0.mk (blk_below (g := gb101) (o := .cells #[.int .i64 a0_0, .string a0_1, .slice A0_2 l0_2.length c0_2, .int .i64 a0_3, .int .i64 a0_4, .slice (some ad102) l0_5.length c0_5] 32 (0, 0)) (by (with_reducible repeat (first | refine blk_drewN ?_ _ | refine blk_drew ?_ | refine blk_alloc ?_ _)); refine blk_far ?_ NB101_103.out _; (with_reducible repeat (first | refine blk_drewN ?_ _ | refine blk_drew ?_ | refine blk_alloc ?_ _)); refine blk_far ?_ NB101_103.out _; (with_reducible repeat (first | refine blk_drewN ?_ _ | refine blk_drew ?_ | refine blk_alloc ?_ _)); refine blk_far ?_ NB101_103.out _; (with_reducible repeat (first | refine blk_drewN ?_ _ | refine blk_drew ?_ | refine blk_alloc ?_ _)); refine blk_far ?_ NB101_103.out _; (with_reducible repeat (first | refine blk_drewN ?_ _ | refine blk_drew ?_ | refine blk_alloc ?_ _)); refine blk_far ?_ NB101_103.out _; (with_reducible repeat (first | refine blk_drewN ?_ _ | refine blk_drew ?_ | refine blk_alloc ?_ _)); refine blk_far ?_ NB101_103.out _; (with_reducible repeat (first | refine blk_drewN ?_ _ | refine blk_drew ?_ | refine blk_alloc ?_ _)); exact BK101.out) hb); have n1_ := Aside0.mk (blk_below (g := gb103) (o := .cells #[.int .i64 ((rd_T32 l0_5 x9_1).f0), .string ((rd_T32 l0_5 x9_1).f1), .slice A102_2 ((rd_T32 l0_5 x9_1).f2).length c102_2, .int .i64 ((rd_T32 l0_5 x9_1).f3), .int .i64 ((rd_T32 l0_5 x9_1).f4), .slice A102_5 ((rd_T32 l0_5 x9_1).f5).length c102_5] 32 (0, 0)) (by (with_reducible repeat (first | refine blk_drewN ?_ _ | refine blk_drew ?_ | refine blk_alloc ?_ _)); refine blk_put (cs := #[.int .i64 ((rd_T32 l0_5 x9_1).f0), .string ((rd_T32 l0_5 x9_1).f1), .slice A102_2 ((rd_T32 l0_5 x9_1).f2).length c102_2, .int .i64 ((rd_T32 l0_5 x9_1).f3), .int .i64 ((rd_T32 l0_5 x9_1).f4), .slice none 0 0]) ?_ 5 _ rfl; (with_reducible repeat (first | refine blk_drewN ?_ _ | refine blk_drew ?_ | refine blk_alloc ?_ _)); refine blk_put (cs := #[.int .i64 ((rd_T32 l0_5 x9_1).f0), .string ((rd_T32 l0_5 x9_1).f1), .slice A102_2 ((rd_T32 l0_5 x9_1).f2).length c102_2, .int .i64 ((rd_T32 l0_5 x9_1).f3), .int .i64 0, .slice none 0 0]) ?_ 4 _ rfl; (with_reducible repeat (first | refine blk_drewN ?_ _ | refine blk_drew ?_ | refine blk_alloc ?_ _)); refine blk_put (cs := #[.int .i64 ((rd_T32 l0_5 x9_1).f0), .string ((rd_T32 l0_5 x9_1).f1), .slice A102_2 ((rd_T32 l0_5 x9_1).f2).length c102_2, .int .i64 0, .int .i64 0, .slice none 0 0]) ?_ 3 _ rfl; (with_reducible repeat (first | refine blk_drewN ?_ _ | refine blk_drew ?_ | refine blk_alloc ?_ _)); refine blk_put (cs := #[.int .i64 ((rd_T32 l0_5 x9_1).f0), .string ((rd_T32 l0_5 x9_1).f1), .slice none 0 0, .int .i64 0, .int .i64 0, .slice none 0 0]) ?_ 2 _ rfl; (with_reducible repeat (first | refine blk_drewN ?_ _ | refine blk_drew ?_ | refine blk_alloc ?_ _)); refine blk_put (cs := #[.int .i64 ((rd_T32 l0_5 x9_1).f0), .string (⟨#[]⟩ : ByteArray), .slice none 0 0, .int .i64 0, .int .i64 0, .slice none 0 0]) ?_ 1 _ rfl; (with_reducible repeat (first | refine blk_drewN ?_ _ | refine blk_drew ?_ | refine blk_alloc ?_ _)); refine blk_put (cs := #[.int .i64 0, .string (⟨#[]⟩ : ByteArray), .slice none 0 0, .int .i64 0, .int .i64 0, .slice none 0 0]) ?_ 0 _ rfl; (with_reducible repeat (first | refine blk_drewN ?_ _ | refine blk_drew ?_ | refine blk_alloc ?_ _)); exact BK103.out) hb); have n2_ := Aside0.mk (below_step (by repeat (first | (with_reducible first | exact HB.out | apply below_alloc | apply pw_below_drewN | apply below_drew1 | refine below_set ?_ GE101.out | refine below_set ?_ GE103.out) | exact HB.out)) hb); clear BK101; clear BK103; clear HB; have BK101 := n0_; have BK103 := n1_; have HB := n2_; clear n0_ n1_ n2_; (try clear hb); (try clear hb2); (try clear hk); (try clear hi)))
      go_roundg k1
      case measure => have := HK1.out; omega
      case rel => exact ⟨(wrap64 (x3_1 + t104)), (wrap64 (x9_1 + 1)), (by first | rfl | (simp; done) | (simp [*]; done)), (by first | rfl | (simp; done) | (simp [*]; done)), H', ⟨by have := HK1.out; omega⟩, ⟨by (with_reducible repeat (first | refine blk_drewN ?_ _ | refine blk_drew ?_ | refine blk_alloc ?_ _)); exact BK101.out⟩, ⟨by repeat (first | (with_reducible first | exact HB.out | apply below_alloc | apply pw_below_drewN | apply below_drew1 | refine below_set ?_ GE101.out | refine below_set ?_ GE103.out) | exact HB.out)⟩⟩
     ·rw [if_neg c6] at H
      exact absurd H (by simp)
    ·rw [if_neg c5] at H
     exact absurd H (by simp)
   ·rw [if_neg c4] at H
    have c4b0 : decide (x9_1 < (l0_5.length : Int)) = false := decide_eq_false c4
    clear c4
    obtain rfl := Option.some.inj H
    go_wp2
    go_ret
    exact ⟨by first | rfl | (simp [errW_none, errW_some] <;> rfl) | (simp [*, errW_none, errW_some] <;> rfl), by repeat (first | (with_reducible first | exact HB.out | apply below_alloc | apply pw_below_drewN | apply below_drew1 | refine below_set ?_ GE101.out) | exact HB.out)⟩
end Go.Proofs.YtbahnpdgaoedmaaGreatDoor.PMemoryExact
