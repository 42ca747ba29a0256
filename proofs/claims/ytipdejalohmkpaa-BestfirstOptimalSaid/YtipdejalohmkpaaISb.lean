/- The search at a budget that is none. -/
import Derived.Test.YtipdejalohmkpaaISc
namespace Go.Proofs.Ytipdejalohmkpaa.I
open Go.RowKit Hp Go.Proofs.YtipdejalohmkpaaW.PrintWords

set_option maxRecDepth 1000000 in
set_option maxHeartbeats 400000 in
theorem search_low (v0 v1 gv : Value) (budget : Int) (w : World) (h : budget < 1) :
    Calls Try.prog 35 #[v0, v1, .int .i64 budget, gv] w fun e w' => e = .returned (.tuple #[.pointer none, .slice none 0 0, .int .i64 1]) ∧ w = w' := by
  have d1 : decide (budget < 1) = true := decide_eq_true h
  go_enter Try.func35, Try.ntmps35
  go_wp2
  go_ret3
  exact ⟨rfl, rfl⟩
set_option maxRecDepth 1000000 in
set_option maxHeartbeats 400000 in
theorem search_high (v0 v1 gv : Value) (budget : Int) (w : World) (h : 1048576 < budget) :
    Calls Try.prog 35 #[v0, v1, .int .i64 budget, gv] w fun e w' => e = .returned (.tuple #[.pointer none, .slice none 0 0, .int .i64 1]) ∧ w = w' := by
  have d1 : decide (budget < 1) = false := decide_eq_false (by omega)
  have d2 : decide (1048576 < budget) = true := decide_eq_true h
  go_enter Try.func35, Try.ntmps35
  go_wp2
  go_ret3
  exact ⟨rfl, rfl⟩
theorem search_bad (v0 v1 gv : Value) (budget : Int) (w : World) (h : budget < 1 ∨ 1048576 < budget) :
    Calls Try.prog 35 #[v0, v1, .int .i64 budget, gv] w fun e w' => e = .returned (.tuple #[.pointer none, .slice none 0 0, .int .i64 1]) ∧ w = w' := by
  rcases h with h | h
  · exact search_low v0 v1 gv budget w h
  · exact search_high v0 v1 gv budget w h
end Go.Proofs.Ytipdejalohmkpaa.I
