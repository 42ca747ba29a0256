/-
  No cell of these rows narrows 'for every input' (looked for: loops, veiled, ifaces, maps, wideKeys, modest, calm, conditions, laid).
  DERIVED. THE GIVEN ROWS OF THIS SEAT. 9 by the template 'for every input the law returns true; each argument reads behind the call as it read before'; 0 by the template 'total and deterministic' (their statements: YtiacjbandhedhaaTotals.lean).
  GIVEN WITH THE SEED: the statements are not yours to turn. If you find one false, say at which input.
  Laid BY PROGRAM, IN A SANDBOX (cutbox-rows.mjs): the forced cells as the released guide's own fill.sh prints them over the translation c594f46266f26430… (all of the seat's roots in one cut). By AI agents, Wed Nov 11 2026. No macro, syntax, notation, axiom, sorry.
-/
import Derived.Test.YtiacjbandhedhaaChecked
import GoSem.Claim
import GoSem.ClaimJoined
import GoSem.ClaimMapViews
import Derived.JoinedTies
import Derived.KernelRfl
namespace Go.Proofs.Ytiacjbandhedhaa
/- THE CELL 'sum', in the pinned program and in every row, IS THE sha256 OF THE DUMP (.gsa) THAT YtiacjbandhedhaaProg.lean LOADS. Nothing in Lean hashes anything: it is a label: what it is worth is what the hold of that sum in a sandbox is worth. -/
noncomputable def Try.pinned : Pinned := { name := "ytiacjbandhedhaa", sum := "c594f46266f26430d4d76c93aa329f64e2a5ce4b9746c1b404db44395f6e87a3", checked := Try.checked }
namespace Rows
def none {H : Type} : Left H := { results := [], args := [] }

/-- 'pentaglotlaw53.JournalFrame': WHATEVER THE INPUT: true; the input reads as it did. -/
def journalFrameSpec : ChangeSpec := { name := "journalFrame", fn := fun _ => fun
  | [d] => { results := [.lit (.bool true)], args := [d] }
  | _ => none }
def journalFrameRow : OpenClaim := { program := "ytiacjbandhedhaa", sum := "c594f46266f26430d4d76c93aa329f64e2a5ce4b9746c1b404db44395f6e87a3", func := "pentaglot/pentaglotlaw53.JournalFrame", spec := "journalFrame", apart := false }
def JournalFrameSaid : Prop := journalFrameRow.holds Try.pinned (OpenSpec.ofChange journalFrameSpec)

/-- ITS FALSE NEIGHBOUR: 'it returns false'. Refute it at one input. -/
def journalFrameWrong : ChangeSpec := { name := "journalFrame", fn := fun _ => fun
  | [d] => { results := [.lit (.bool false)], args := [d] }
  | _ => none }
def JournalFrameWrongFalsely : Prop := journalFrameRow.holds Try.pinned (OpenSpec.ofChange journalFrameWrong)

/-- 'pentaglotlaw53.JournalScan': WHATEVER THE INPUT: true; the input reads as it did. -/
def journalScanSpec : ChangeSpec := { name := "journalScan", fn := fun _ => fun
  | [d] => { results := [.lit (.bool true)], args := [d] }
  | _ => none }
def journalScanRow : OpenClaim := { program := "ytiacjbandhedhaa", sum := "c594f46266f26430d4d76c93aa329f64e2a5ce4b9746c1b404db44395f6e87a3", func := "pentaglot/pentaglotlaw53.JournalScan", spec := "journalScan", apart := false }
def JournalScanSaid : Prop := journalScanRow.holds Try.pinned (OpenSpec.ofChange journalScanSpec)

/-- ITS FALSE NEIGHBOUR: 'it returns false'. Refute it at one input. -/
def journalScanWrong : ChangeSpec := { name := "journalScan", fn := fun _ => fun
  | [d] => { results := [.lit (.bool false)], args := [d] }
  | _ => none }
def JournalScanWrongFalsely : Prop := journalScanRow.holds Try.pinned (OpenSpec.ofChange journalScanWrong)

/-- 'pentaglotlaw53.JournalFrames': WHATEVER THE INPUT: true; the input reads as it did. -/
def journalFramesSpec : ChangeSpec := { name := "journalFrames", fn := fun _ => fun
  | [d1, d2, d3] => { results := [.lit (.bool true)], args := [d1, d2, d3] }
  | _ => none }
def journalFramesRow : OpenClaim := { program := "ytiacjbandhedhaa", sum := "c594f46266f26430d4d76c93aa329f64e2a5ce4b9746c1b404db44395f6e87a3", func := "pentaglot/pentaglotlaw53.JournalFrames", spec := "journalFrames", apart := false }
def JournalFramesSaid : Prop := journalFramesRow.holds Try.pinned (OpenSpec.ofChange journalFramesSpec)

/-- ITS FALSE NEIGHBOUR: 'it returns false'. Refute it at one input. -/
def journalFramesWrong : ChangeSpec := { name := "journalFrames", fn := fun _ => fun
  | [d1, d2, d3] => { results := [.lit (.bool false)], args := [d1, d2, d3] }
  | _ => none }
def JournalFramesWrongFalsely : Prop := journalFramesRow.holds Try.pinned (OpenSpec.ofChange journalFramesWrong)

/-- 'pentaglotlaw53.JournalChanged': WHATEVER THE INPUT: true; the input reads as it did. -/
def journalChangedSpec : ChangeSpec := { name := "journalChanged", fn := fun _ => fun
  | [d1, d2, d3] => { results := [.lit (.bool true)], args := [d1, d2, d3] }
  | _ => none }
def journalChangedRow : OpenClaim := { program := "ytiacjbandhedhaa", sum := "c594f46266f26430d4d76c93aa329f64e2a5ce4b9746c1b404db44395f6e87a3", func := "pentaglot/pentaglotlaw53.JournalChanged", spec := "journalChanged", apart := false }
def JournalChangedSaid : Prop := journalChangedRow.holds Try.pinned (OpenSpec.ofChange journalChangedSpec)

/-- ITS FALSE NEIGHBOUR: 'it returns false'. Refute it at one input. -/
def journalChangedWrong : ChangeSpec := { name := "journalChanged", fn := fun _ => fun
  | [d1, d2, d3] => { results := [.lit (.bool false)], args := [d1, d2, d3] }
  | _ => none }
def JournalChangedWrongFalsely : Prop := journalChangedRow.holds Try.pinned (OpenSpec.ofChange journalChangedWrong)

/-- 'pentaglotlaw53.JournalAppends': WHATEVER THE INPUT: true; the input reads as it did. -/
def journalAppendsSpec : ChangeSpec := { name := "journalAppends", fn := fun _ => fun
  | [d1, d2] => { results := [.lit (.bool true)], args := [d1, d2] }
  | _ => none }
def journalAppendsRow : OpenClaim := { program := "ytiacjbandhedhaa", sum := "c594f46266f26430d4d76c93aa329f64e2a5ce4b9746c1b404db44395f6e87a3", func := "pentaglot/pentaglotlaw53.JournalAppends", spec := "journalAppends", apart := false }
def JournalAppendsSaid : Prop := journalAppendsRow.holds Try.pinned (OpenSpec.ofChange journalAppendsSpec)

/-- ITS FALSE NEIGHBOUR: 'it returns false'. Refute it at one input. -/
def journalAppendsWrong : ChangeSpec := { name := "journalAppends", fn := fun _ => fun
  | [d1, d2] => { results := [.lit (.bool false)], args := [d1, d2] }
  | _ => none }
def JournalAppendsWrongFalsely : Prop := journalAppendsRow.holds Try.pinned (OpenSpec.ofChange journalAppendsWrong)

/-- 'pentaglotlaw53.JournalSynced': WHATEVER THE INPUT: true; the input reads as it did. -/
def journalSyncedSpec : ChangeSpec := { name := "journalSynced", fn := fun _ => fun
  | [d1, d2, d3] => { results := [.lit (.bool true)], args := [d1, d2, d3] }
  | _ => none }
def journalSyncedRow : OpenClaim := { program := "ytiacjbandhedhaa", sum := "c594f46266f26430d4d76c93aa329f64e2a5ce4b9746c1b404db44395f6e87a3", func := "pentaglot/pentaglotlaw53.JournalSynced", spec := "journalSynced", apart := false }
def JournalSyncedSaid : Prop := journalSyncedRow.holds Try.pinned (OpenSpec.ofChange journalSyncedSpec)

/-- ITS FALSE NEIGHBOUR: 'it returns false'. Refute it at one input. -/
def journalSyncedWrong : ChangeSpec := { name := "journalSynced", fn := fun _ => fun
  | [d1, d2, d3] => { results := [.lit (.bool false)], args := [d1, d2, d3] }
  | _ => none }
def JournalSyncedWrongFalsely : Prop := journalSyncedRow.holds Try.pinned (OpenSpec.ofChange journalSyncedWrong)

/-- 'pentaglotlaw53.JournalDevice': WHATEVER THE INPUT: true; the input reads as it did. -/
def journalDeviceSpec : ChangeSpec := { name := "journalDevice", fn := fun _ => fun
  | [d1, d2] => { results := [.lit (.bool true)], args := [d1, d2] }
  | _ => none }
def journalDeviceRow : OpenClaim := { program := "ytiacjbandhedhaa", sum := "c594f46266f26430d4d76c93aa329f64e2a5ce4b9746c1b404db44395f6e87a3", func := "pentaglot/pentaglotlaw53.JournalDevice", spec := "journalDevice", apart := false }
def JournalDeviceSaid : Prop := journalDeviceRow.holds Try.pinned (OpenSpec.ofChange journalDeviceSpec)

/-- ITS FALSE NEIGHBOUR: 'it returns false'. Refute it at one input. -/
def journalDeviceWrong : ChangeSpec := { name := "journalDevice", fn := fun _ => fun
  | [d1, d2] => { results := [.lit (.bool false)], args := [d1, d2] }
  | _ => none }
def JournalDeviceWrongFalsely : Prop := journalDeviceRow.holds Try.pinned (OpenSpec.ofChange journalDeviceWrong)

/-- 'pentaglotlaw53.JournalDoes': WHATEVER THE INPUT: true; the input reads as it did. -/
def journalDoesSpec : ChangeSpec := { name := "journalDoes", fn := fun _ => fun
  | [d1, d2] => { results := [.lit (.bool true)], args := [d1, d2] }
  | _ => none }
def journalDoesRow : OpenClaim := { program := "ytiacjbandhedhaa", sum := "c594f46266f26430d4d76c93aa329f64e2a5ce4b9746c1b404db44395f6e87a3", func := "pentaglot/pentaglotlaw53.JournalDoes", spec := "journalDoes", apart := false }
def JournalDoesSaid : Prop := journalDoesRow.holds Try.pinned (OpenSpec.ofChange journalDoesSpec)

/-- ITS FALSE NEIGHBOUR: 'it returns false'. Refute it at one input. -/
def journalDoesWrong : ChangeSpec := { name := "journalDoes", fn := fun _ => fun
  | [d1, d2] => { results := [.lit (.bool false)], args := [d1, d2] }
  | _ => none }
def JournalDoesWrongFalsely : Prop := journalDoesRow.holds Try.pinned (OpenSpec.ofChange journalDoesWrong)

/-- 'pentaglotlaw53.JournalRecovers': WHATEVER THE INPUT: true; the input reads as it did. -/
def journalRecoversSpec : ChangeSpec := { name := "journalRecovers", fn := fun _ => fun
  | [d1, d2, d3] => { results := [.lit (.bool true)], args := [d1, d2, d3] }
  | _ => none }
def journalRecoversRow : OpenClaim := { program := "ytiacjbandhedhaa", sum := "c594f46266f26430d4d76c93aa329f64e2a5ce4b9746c1b404db44395f6e87a3", func := "pentaglot/pentaglotlaw53.JournalRecovers", spec := "journalRecovers", apart := false }
def JournalRecoversSaid : Prop := journalRecoversRow.holds Try.pinned (OpenSpec.ofChange journalRecoversSpec)

/-- ITS FALSE NEIGHBOUR: 'it returns false'. Refute it at one input. -/
def journalRecoversWrong : ChangeSpec := { name := "journalRecovers", fn := fun _ => fun
  | [d1, d2, d3] => { results := [.lit (.bool false)], args := [d1, d2, d3] }
  | _ => none }
def JournalRecoversWrongFalsely : Prop := journalRecoversRow.holds Try.pinned (OpenSpec.ofChange journalRecoversWrong)

/- THE SECOND FORM. 'bulk': how many values and letters a reading holds, each counted each time it is reached (what is shared counts as often as it is met; a slice's spare places count too). A statement '..UptoSaid' is the law's where the arguments, and the package variables that the reading takes, are together of bulk at most 1048576: NARROWER than '..Said'. Prove '..Said' where nothing that the law and all that it calls make is longer than what came in: it says more and counts as full. Else prove '..UptoSaid'. A law counts once. -/
mutual
def uptoBulk {H : Type} : DataW H → Nat
  | .lit (.string bytes) => bytes.length + 1
  | .lit _ => 1
  | .nil => 1
  | .ptr d => uptoBulk d + 1
  | .slice elems spare => uptoBulkAll elems + uptoBulkAll spare + 1
  | .agg parts => uptoBulkAll parts + 1
  | .iface _ d => uptoBulk d + 1
  | .map entries => uptoBulkEntries entries + 1
  | .held _ => 1
def uptoBulkAll {H : Type} : List (DataW H) → Nat
  | [] => 0
  | d :: r => uptoBulk d + uptoBulkAll r
def uptoBulkEntries {H : Type} : List (Lit × DataW H) → Nat
  | [] => 0
  | x :: r => uptoBulkEntry x + uptoBulkEntries r
def uptoBulkEntry {H : Type} : Lit × DataW H → Nat
  | (.string bytes, d) => bytes.length + uptoBulk d + 1
  | (_, d) => uptoBulk d + 1
 end
def uptoSmall : (H : Type) → List (DataW H) → Bool := fun _ ds => decide (uptoBulkAll ds ≤ 1048576)
def OpenSpec.upto (s : _root_.Go.ChangeSpec) : _root_.Go.OpenSpec := { _root_.Go.OpenSpec.ofChange s with cond := some uptoSmall }

/-- 'pentaglotlaw53.JournalFrame', WHERE WHAT IT READS IS OF BULK AT MOST 1048576: true; the input reads as it did. -/
def journalFrameUptoRow : OpenClaim := { program := "ytiacjbandhedhaa", sum := "c594f46266f26430d4d76c93aa329f64e2a5ce4b9746c1b404db44395f6e87a3", func := "pentaglot/pentaglotlaw53.JournalFrame", spec := "journalFrame", apart := false, narrowed := true }
def JournalFrameUptoSaid : Prop := journalFrameUptoRow.holds Try.pinned (OpenSpec.upto journalFrameSpec)

/-- 'pentaglotlaw53.JournalScan', WHERE WHAT IT READS IS OF BULK AT MOST 1048576: true; the input reads as it did. -/
def journalScanUptoRow : OpenClaim := { program := "ytiacjbandhedhaa", sum := "c594f46266f26430d4d76c93aa329f64e2a5ce4b9746c1b404db44395f6e87a3", func := "pentaglot/pentaglotlaw53.JournalScan", spec := "journalScan", apart := false, narrowed := true }
def JournalScanUptoSaid : Prop := journalScanUptoRow.holds Try.pinned (OpenSpec.upto journalScanSpec)

/-- 'pentaglotlaw53.JournalFrames', WHERE WHAT IT READS IS OF BULK AT MOST 1048576: true; the input reads as it did. -/
def journalFramesUptoRow : OpenClaim := { program := "ytiacjbandhedhaa", sum := "c594f46266f26430d4d76c93aa329f64e2a5ce4b9746c1b404db44395f6e87a3", func := "pentaglot/pentaglotlaw53.JournalFrames", spec := "journalFrames", apart := false, narrowed := true }
def JournalFramesUptoSaid : Prop := journalFramesUptoRow.holds Try.pinned (OpenSpec.upto journalFramesSpec)

/-- 'pentaglotlaw53.JournalChanged', WHERE WHAT IT READS IS OF BULK AT MOST 1048576: true; the input reads as it did. -/
def journalChangedUptoRow : OpenClaim := { program := "ytiacjbandhedhaa", sum := "c594f46266f26430d4d76c93aa329f64e2a5ce4b9746c1b404db44395f6e87a3", func := "pentaglot/pentaglotlaw53.JournalChanged", spec := "journalChanged", apart := false, narrowed := true }
def JournalChangedUptoSaid : Prop := journalChangedUptoRow.holds Try.pinned (OpenSpec.upto journalChangedSpec)

/-- 'pentaglotlaw53.JournalAppends', WHERE WHAT IT READS IS OF BULK AT MOST 1048576: true; the input reads as it did. -/
def journalAppendsUptoRow : OpenClaim := { program := "ytiacjbandhedhaa", sum := "c594f46266f26430d4d76c93aa329f64e2a5ce4b9746c1b404db44395f6e87a3", func := "pentaglot/pentaglotlaw53.JournalAppends", spec := "journalAppends", apart := false, narrowed := true }
def JournalAppendsUptoSaid : Prop := journalAppendsUptoRow.holds Try.pinned (OpenSpec.upto journalAppendsSpec)

/-- 'pentaglotlaw53.JournalSynced', WHERE WHAT IT READS IS OF BULK AT MOST 1048576: true; the input reads as it did. -/
def journalSyncedUptoRow : OpenClaim := { program := "ytiacjbandhedhaa", sum := "c594f46266f26430d4d76c93aa329f64e2a5ce4b9746c1b404db44395f6e87a3", func := "pentaglot/pentaglotlaw53.JournalSynced", spec := "journalSynced", apart := false, narrowed := true }
def JournalSyncedUptoSaid : Prop := journalSyncedUptoRow.holds Try.pinned (OpenSpec.upto journalSyncedSpec)

/-- 'pentaglotlaw53.JournalDevice', WHERE WHAT IT READS IS OF BULK AT MOST 1048576: true; the input reads as it did. -/
def journalDeviceUptoRow : OpenClaim := { program := "ytiacjbandhedhaa", sum := "c594f46266f26430d4d76c93aa329f64e2a5ce4b9746c1b404db44395f6e87a3", func := "pentaglot/pentaglotlaw53.JournalDevice", spec := "journalDevice", apart := false, narrowed := true }
def JournalDeviceUptoSaid : Prop := journalDeviceUptoRow.holds Try.pinned (OpenSpec.upto journalDeviceSpec)

/-- 'pentaglotlaw53.JournalDoes', WHERE WHAT IT READS IS OF BULK AT MOST 1048576: true; the input reads as it did. -/
def journalDoesUptoRow : OpenClaim := { program := "ytiacjbandhedhaa", sum := "c594f46266f26430d4d76c93aa329f64e2a5ce4b9746c1b404db44395f6e87a3", func := "pentaglot/pentaglotlaw53.JournalDoes", spec := "journalDoes", apart := false, narrowed := true }
def JournalDoesUptoSaid : Prop := journalDoesUptoRow.holds Try.pinned (OpenSpec.upto journalDoesSpec)

/-- 'pentaglotlaw53.JournalRecovers', WHERE WHAT IT READS IS OF BULK AT MOST 1048576: true; the input reads as it did. -/
def journalRecoversUptoRow : OpenClaim := { program := "ytiacjbandhedhaa", sum := "c594f46266f26430d4d76c93aa329f64e2a5ce4b9746c1b404db44395f6e87a3", func := "pentaglot/pentaglotlaw53.JournalRecovers", spec := "journalRecovers", apart := false, narrowed := true }
def JournalRecoversUptoSaid : Prop := journalRecoversUptoRow.holds Try.pinned (OpenSpec.upto journalRecoversSpec)

end Rows
end Go.Proofs.Ytiacjbandhedhaa
