/-
  No cell of these rows narrows 'for every input' (looked for: loops, veiled, ifaces, maps, wideKeys, modest, calm, conditions, laid).
  DERIVED. THE GIVEN ROWS OF THIS SEAT. 8 by the template 'for every input the law returns true; each argument reads behind the call as it read before'; 0 by the template 'total and deterministic' (their statements: YtipdejalohmkpaaTotals.lean).
  GIVEN WITH THE SEED: the statements are not yours to turn. If you find one false, say at which input.
  Laid BY PROGRAM, IN A SANDBOX (cutbox-rows.mjs): the forced cells as the released guide's own fill.sh prints them over the translation 04ba5da01d760c3b… (all of the seat's roots in one cut). By AI agents, Wed Nov 11 2026. No macro, syntax, notation, axiom, sorry.
-/
import Derived.Test.YtipdejalohmkpaaChecked
import GoSem.Claim
import GoSem.ClaimJoined
import GoSem.ClaimMapViews
import Derived.JoinedTies
import Derived.KernelRfl
namespace Go.Proofs.Ytipdejalohmkpaa
/- THE CELL 'sum', in the pinned program and in every row, IS THE sha256 OF THE DUMP (.gsa) THAT YtipdejalohmkpaaProg.lean LOADS. Nothing in Lean hashes anything: it is a label: what it is worth is what the hold of that sum in a sandbox is worth. -/
noncomputable def Try.pinned : Pinned := { name := "ytipdejalohmkpaa", sum := "04ba5da01d760c3b46bb6b6319b4cf943dbce6a52b6d159f0d61a937ad669a70", checked := Try.checked }
namespace Rows
def none {H : Type} : Left H := { results := [], args := [] }

/-- 'pentaglotlaw40.BestfirstSearch': WHATEVER THE INPUT: true; the input reads as it did. -/
def bestfirstSearchSpec : ChangeSpec := { name := "bestfirstSearch", fn := fun _ => fun
  | [d1, d2, d3] => { results := [.lit (.bool true)], args := [d1, d2, d3] }
  | _ => none }
def bestfirstSearchRow : OpenClaim := { program := "ytipdejalohmkpaa", sum := "04ba5da01d760c3b46bb6b6319b4cf943dbce6a52b6d159f0d61a937ad669a70", func := "pentaglot/pentaglotlaw40.BestfirstSearch", spec := "bestfirstSearch", unfollowed := true, recurses := true, apart := false }
def BestfirstSearchSaid : Prop := bestfirstSearchRow.holds Try.pinned (OpenSpec.ofChange bestfirstSearchSpec)

/-- ITS FALSE NEIGHBOUR: 'it returns false'. Refute it at one input. -/
def bestfirstSearchWrong : ChangeSpec := { name := "bestfirstSearch", fn := fun _ => fun
  | [d1, d2, d3] => { results := [.lit (.bool false)], args := [d1, d2, d3] }
  | _ => none }
def BestfirstSearchWrongFalsely : Prop := bestfirstSearchRow.holds Try.pinned (OpenSpec.ofChange bestfirstSearchWrong)

/-- 'pentaglotlaw40.BestfirstReachable': WHATEVER THE INPUT: true; the input reads as it did. -/
def bestfirstReachableSpec : ChangeSpec := { name := "bestfirstReachable", fn := fun _ => fun
  | [d1, d2, d3] => { results := [.lit (.bool true)], args := [d1, d2, d3] }
  | _ => none }
def bestfirstReachableRow : OpenClaim := { program := "ytipdejalohmkpaa", sum := "04ba5da01d760c3b46bb6b6319b4cf943dbce6a52b6d159f0d61a937ad669a70", func := "pentaglot/pentaglotlaw40.BestfirstReachable", spec := "bestfirstReachable", unfollowed := true, recurses := true, apart := false }
def BestfirstReachableSaid : Prop := bestfirstReachableRow.holds Try.pinned (OpenSpec.ofChange bestfirstReachableSpec)

/-- ITS FALSE NEIGHBOUR: 'it returns false'. Refute it at one input. -/
def bestfirstReachableWrong : ChangeSpec := { name := "bestfirstReachable", fn := fun _ => fun
  | [d1, d2, d3] => { results := [.lit (.bool false)], args := [d1, d2, d3] }
  | _ => none }
def BestfirstReachableWrongFalsely : Prop := bestfirstReachableRow.holds Try.pinned (OpenSpec.ofChange bestfirstReachableWrong)

/-- 'pentaglotlaw40.BestfirstDistance': WHATEVER THE INPUT: true; the input reads as it did. -/
def bestfirstDistanceSpec : ChangeSpec := { name := "bestfirstDistance", fn := fun _ => fun
  | [d1, d2, d3, d4] => { results := [.lit (.bool true)], args := [d1, d2, d3, d4] }
  | _ => none }
def bestfirstDistanceRow : OpenClaim := { program := "ytipdejalohmkpaa", sum := "04ba5da01d760c3b46bb6b6319b4cf943dbce6a52b6d159f0d61a937ad669a70", func := "pentaglot/pentaglotlaw40.BestfirstDistance", spec := "bestfirstDistance", unfollowed := true, recurses := true, apart := false }
def BestfirstDistanceSaid : Prop := bestfirstDistanceRow.holds Try.pinned (OpenSpec.ofChange bestfirstDistanceSpec)

/-- ITS FALSE NEIGHBOUR: 'it returns false'. Refute it at one input. -/
def bestfirstDistanceWrong : ChangeSpec := { name := "bestfirstDistance", fn := fun _ => fun
  | [d1, d2, d3, d4] => { results := [.lit (.bool false)], args := [d1, d2, d3, d4] }
  | _ => none }
def BestfirstDistanceWrongFalsely : Prop := bestfirstDistanceRow.holds Try.pinned (OpenSpec.ofChange bestfirstDistanceWrong)

/-- 'pentaglotlaw40.BestfirstOptimal': WHATEVER THE INPUT: true; the input reads as it did. -/
def bestfirstOptimalSpec : ChangeSpec := { name := "bestfirstOptimal", fn := fun _ => fun
  | [d1, d2] => { results := [.lit (.bool true)], args := [d1, d2] }
  | _ => none }
def bestfirstOptimalRow : OpenClaim := { program := "ytipdejalohmkpaa", sum := "04ba5da01d760c3b46bb6b6319b4cf943dbce6a52b6d159f0d61a937ad669a70", func := "pentaglot/pentaglotlaw40.BestfirstOptimal", spec := "bestfirstOptimal", unfollowed := true, recurses := true, apart := false }
def BestfirstOptimalSaid : Prop := bestfirstOptimalRow.holds Try.pinned (OpenSpec.ofChange bestfirstOptimalSpec)

/-- ITS FALSE NEIGHBOUR: 'it returns false'. Refute it at one input. -/
def bestfirstOptimalWrong : ChangeSpec := { name := "bestfirstOptimal", fn := fun _ => fun
  | [d1, d2] => { results := [.lit (.bool false)], args := [d1, d2] }
  | _ => none }
def BestfirstOptimalWrongFalsely : Prop := bestfirstOptimalRow.holds Try.pinned (OpenSpec.ofChange bestfirstOptimalWrong)

/-- 'pentaglotlaw40.BestfirstDistances': WHATEVER THE INPUT: true; the input reads as it did. -/
def bestfirstDistancesSpec : ChangeSpec := { name := "bestfirstDistances", fn := fun _ => fun
  | [d1, d2, d3] => { results := [.lit (.bool true)], args := [d1, d2, d3] }
  | _ => none }
def bestfirstDistancesRow : OpenClaim := { program := "ytipdejalohmkpaa", sum := "04ba5da01d760c3b46bb6b6319b4cf943dbce6a52b6d159f0d61a937ad669a70", func := "pentaglot/pentaglotlaw40.BestfirstDistances", spec := "bestfirstDistances", unfollowed := true, recurses := true, apart := false }
def BestfirstDistancesSaid : Prop := bestfirstDistancesRow.holds Try.pinned (OpenSpec.ofChange bestfirstDistancesSpec)

/-- ITS FALSE NEIGHBOUR: 'it returns false'. Refute it at one input. -/
def bestfirstDistancesWrong : ChangeSpec := { name := "bestfirstDistances", fn := fun _ => fun
  | [d1, d2, d3] => { results := [.lit (.bool false)], args := [d1, d2, d3] }
  | _ => none }
def BestfirstDistancesWrongFalsely : Prop := bestfirstDistancesRow.holds Try.pinned (OpenSpec.ofChange bestfirstDistancesWrong)

/-- 'pentaglotlaw40.BestfirstBudget': WHATEVER THE INPUT: true; the input reads as it did. -/
def bestfirstBudgetSpec : ChangeSpec := { name := "bestfirstBudget", fn := fun _ => fun
  | [d1, d2, d3, d4] => { results := [.lit (.bool true)], args := [d1, d2, d3, d4] }
  | _ => none }
def bestfirstBudgetRow : OpenClaim := { program := "ytipdejalohmkpaa", sum := "04ba5da01d760c3b46bb6b6319b4cf943dbce6a52b6d159f0d61a937ad669a70", func := "pentaglot/pentaglotlaw40.BestfirstBudget", spec := "bestfirstBudget", unfollowed := true, recurses := true, apart := false }
def BestfirstBudgetSaid : Prop := bestfirstBudgetRow.holds Try.pinned (OpenSpec.ofChange bestfirstBudgetSpec)

/-- ITS FALSE NEIGHBOUR: 'it returns false'. Refute it at one input. -/
def bestfirstBudgetWrong : ChangeSpec := { name := "bestfirstBudget", fn := fun _ => fun
  | [d1, d2, d3, d4] => { results := [.lit (.bool false)], args := [d1, d2, d3, d4] }
  | _ => none }
def BestfirstBudgetWrongFalsely : Prop := bestfirstBudgetRow.holds Try.pinned (OpenSpec.ofChange bestfirstBudgetWrong)

/-- 'pentaglotlaw40.BestfirstOrder': WHATEVER THE INPUT: true; the input reads as it did. -/
def bestfirstOrderSpec : ChangeSpec := { name := "bestfirstOrder", fn := fun _ => fun
  | [d1, d2] => { results := [.lit (.bool true)], args := [d1, d2] }
  | _ => none }
def bestfirstOrderRow : OpenClaim := { program := "ytipdejalohmkpaa", sum := "04ba5da01d760c3b46bb6b6319b4cf943dbce6a52b6d159f0d61a937ad669a70", func := "pentaglot/pentaglotlaw40.BestfirstOrder", spec := "bestfirstOrder", unfollowed := true, recurses := true, apart := false }
def BestfirstOrderSaid : Prop := bestfirstOrderRow.holds Try.pinned (OpenSpec.ofChange bestfirstOrderSpec)

/-- ITS FALSE NEIGHBOUR: 'it returns false'. Refute it at one input. -/
def bestfirstOrderWrong : ChangeSpec := { name := "bestfirstOrder", fn := fun _ => fun
  | [d1, d2] => { results := [.lit (.bool false)], args := [d1, d2] }
  | _ => none }
def BestfirstOrderWrongFalsely : Prop := bestfirstOrderRow.holds Try.pinned (OpenSpec.ofChange bestfirstOrderWrong)

/-- 'pentaglotlaw40.BestfirstGeneric': WHATEVER THE INPUT: true; the input reads as it did. -/
def bestfirstGenericSpec : ChangeSpec := { name := "bestfirstGeneric", fn := fun _ => fun
  | [d1, d2, d3] => { results := [.lit (.bool true)], args := [d1, d2, d3] }
  | _ => none }
def bestfirstGenericRow : OpenClaim := { program := "ytipdejalohmkpaa", sum := "04ba5da01d760c3b46bb6b6319b4cf943dbce6a52b6d159f0d61a937ad669a70", func := "pentaglot/pentaglotlaw40.BestfirstGeneric", spec := "bestfirstGeneric", unfollowed := true, recurses := true, apart := false }
def BestfirstGenericSaid : Prop := bestfirstGenericRow.holds Try.pinned (OpenSpec.ofChange bestfirstGenericSpec)

/-- ITS FALSE NEIGHBOUR: 'it returns false'. Refute it at one input. -/
def bestfirstGenericWrong : ChangeSpec := { name := "bestfirstGeneric", fn := fun _ => fun
  | [d1, d2, d3] => { results := [.lit (.bool false)], args := [d1, d2, d3] }
  | _ => none }
def BestfirstGenericWrongFalsely : Prop := bestfirstGenericRow.holds Try.pinned (OpenSpec.ofChange bestfirstGenericWrong)

/- THE SECOND FORM. 'bulk': how many values and letters a reading holds, each counted each time it is reached (what is shared counts as often as it is met; a slice's spare places count too). A statement '..UptoSaid' is the law's where the arguments, and the package variables that the reading takes, are together of bulk at most 1048576: NARROWER than '..Said'. Prove '..Said' where nothing that the law and all that it calls make is longer than what came in: it says more and counts as full. Else prove '..UptoSaid'. A law counts once. -/
mutual
def uptoBulk {H : Type} : DataW H → Nat
  | .lit (.string bytes) => bytes.length + 1
  | .lit _ => 1
  | .nil => 1
  | .ptr d => uptoBulk d + 1
  | .slice elems spare => uptoBulkAll elems + uptoBulkAll spare + 1
  | .agg parts => uptoBulkAll parts + 1
  | .iface _ d => uptoBulk d + 1
  | .map entries => uptoBulkEntries entries + 1
  | .held _ => 1
def uptoBulkAll {H : Type} : List (DataW H) → Nat
  | [] => 0
  | d :: r => uptoBulk d + uptoBulkAll r
def uptoBulkEntries {H : Type} : List (Lit × DataW H) → Nat
  | [] => 0
  | x :: r => uptoBulkEntry x + uptoBulkEntries r
def uptoBulkEntry {H : Type} : Lit × DataW H → Nat
  | (.string bytes, d) => bytes.length + uptoBulk d + 1
  | (_, d) => uptoBulk d + 1
 end
def uptoSmall : (H : Type) → List (DataW H) → Bool := fun _ ds => decide (uptoBulkAll ds ≤ 1048576)
def OpenSpec.upto (s : _root_.Go.ChangeSpec) : _root_.Go.OpenSpec := { _root_.Go.OpenSpec.ofChange s with cond := some uptoSmall }

/-- 'pentaglotlaw40.BestfirstSearch', WHERE WHAT IT READS IS OF BULK AT MOST 1048576: true; the input reads as it did. -/
def bestfirstSearchUptoRow : OpenClaim := { program := "ytipdejalohmkpaa", sum := "04ba5da01d760c3b46bb6b6319b4cf943dbce6a52b6d159f0d61a937ad669a70", func := "pentaglot/pentaglotlaw40.BestfirstSearch", spec := "bestfirstSearch", unfollowed := true, recurses := true, apart := false, narrowed := true }
def BestfirstSearchUptoSaid : Prop := bestfirstSearchUptoRow.holds Try.pinned (OpenSpec.upto bestfirstSearchSpec)

/-- 'pentaglotlaw40.BestfirstReachable', WHERE WHAT IT READS IS OF BULK AT MOST 1048576: true; the input reads as it did. -/
def bestfirstReachableUptoRow : OpenClaim := { program := "ytipdejalohmkpaa", sum := "04ba5da01d760c3b46bb6b6319b4cf943dbce6a52b6d159f0d61a937ad669a70", func := "pentaglot/pentaglotlaw40.BestfirstReachable", spec := "bestfirstReachable", unfollowed := true, recurses := true, apart := false, narrowed := true }
def BestfirstReachableUptoSaid : Prop := bestfirstReachableUptoRow.holds Try.pinned (OpenSpec.upto bestfirstReachableSpec)

/-- 'pentaglotlaw40.BestfirstDistance', WHERE WHAT IT READS IS OF BULK AT MOST 1048576: true; the input reads as it did. -/
def bestfirstDistanceUptoRow : OpenClaim := { program := "ytipdejalohmkpaa", sum := "04ba5da01d760c3b46bb6b6319b4cf943dbce6a52b6d159f0d61a937ad669a70", func := "pentaglot/pentaglotlaw40.BestfirstDistance", spec := "bestfirstDistance", unfollowed := true, recurses := true, apart := false, narrowed := true }
def BestfirstDistanceUptoSaid : Prop := bestfirstDistanceUptoRow.holds Try.pinned (OpenSpec.upto bestfirstDistanceSpec)

/-- 'pentaglotlaw40.BestfirstOptimal', WHERE WHAT IT READS IS OF BULK AT MOST 1048576: true; the input reads as it did. -/
def bestfirstOptimalUptoRow : OpenClaim := { program := "ytipdejalohmkpaa", sum := "04ba5da01d760c3b46bb6b6319b4cf943dbce6a52b6d159f0d61a937ad669a70", func := "pentaglot/pentaglotlaw40.BestfirstOptimal", spec := "bestfirstOptimal", unfollowed := true, recurses := true, apart := false, narrowed := true }
def BestfirstOptimalUptoSaid : Prop := bestfirstOptimalUptoRow.holds Try.pinned (OpenSpec.upto bestfirstOptimalSpec)

/-- 'pentaglotlaw40.BestfirstDistances', WHERE WHAT IT READS IS OF BULK AT MOST 1048576: true; the input reads as it did. -/
def bestfirstDistancesUptoRow : OpenClaim := { program := "ytipdejalohmkpaa", sum := "04ba5da01d760c3b46bb6b6319b4cf943dbce6a52b6d159f0d61a937ad669a70", func := "pentaglot/pentaglotlaw40.BestfirstDistances", spec := "bestfirstDistances", unfollowed := true, recurses := true, apart := false, narrowed := true }
def BestfirstDistancesUptoSaid : Prop := bestfirstDistancesUptoRow.holds Try.pinned (OpenSpec.upto bestfirstDistancesSpec)

/-- 'pentaglotlaw40.BestfirstBudget', WHERE WHAT IT READS IS OF BULK AT MOST 1048576: true; the input reads as it did. -/
def bestfirstBudgetUptoRow : OpenClaim := { program := "ytipdejalohmkpaa", sum := "04ba5da01d760c3b46bb6b6319b4cf943dbce6a52b6d159f0d61a937ad669a70", func := "pentaglot/pentaglotlaw40.BestfirstBudget", spec := "bestfirstBudget", unfollowed := true, recurses := true, apart := false, narrowed := true }
def BestfirstBudgetUptoSaid : Prop := bestfirstBudgetUptoRow.holds Try.pinned (OpenSpec.upto bestfirstBudgetSpec)

/-- 'pentaglotlaw40.BestfirstOrder', WHERE WHAT IT READS IS OF BULK AT MOST 1048576: true; the input reads as it did. -/
def bestfirstOrderUptoRow : OpenClaim := { program := "ytipdejalohmkpaa", sum := "04ba5da01d760c3b46bb6b6319b4cf943dbce6a52b6d159f0d61a937ad669a70", func := "pentaglot/pentaglotlaw40.BestfirstOrder", spec := "bestfirstOrder", unfollowed := true, recurses := true, apart := false, narrowed := true }
def BestfirstOrderUptoSaid : Prop := bestfirstOrderUptoRow.holds Try.pinned (OpenSpec.upto bestfirstOrderSpec)

/-- 'pentaglotlaw40.BestfirstGeneric', WHERE WHAT IT READS IS OF BULK AT MOST 1048576: true; the input reads as it did. -/
def bestfirstGenericUptoRow : OpenClaim := { program := "ytipdejalohmkpaa", sum := "04ba5da01d760c3b46bb6b6319b4cf943dbce6a52b6d159f0d61a937ad669a70", func := "pentaglot/pentaglotlaw40.BestfirstGeneric", spec := "bestfirstGeneric", unfollowed := true, recurses := true, apart := false, narrowed := true }
def BestfirstGenericUptoSaid : Prop := bestfirstGenericUptoRow.holds Try.pinned (OpenSpec.upto bestfirstGenericSpec)

end Rows
end Go.Proofs.Ytipdejalohmkpaa
