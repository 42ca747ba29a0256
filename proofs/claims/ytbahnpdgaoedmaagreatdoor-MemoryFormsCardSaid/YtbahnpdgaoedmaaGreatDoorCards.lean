/-
  DERIVED. GIVEN WITH THE SEED: THE CARDS: each row of YtbahnpdgaoedmaaGreatDoorRows.lean that lists a variable, with what it lists TIED to the program's text (the seventh form; the later family's looks); each row that meets fmt, with fmt's text TOLD by the authors' own Lean function (tested against real Go, not proved from fmt's source: count such statements apart). THE CARD IS WHAT COUNTS. Prove the row's statement (the work); the ties are given (YtbahnpdgaoedmaaGreatDoorTie.lean); close each card by the builder's one call (the guide's Derived/Test/ToyasCard.lean, 'card_holds'). Laid BY PROGRAM, IN A SANDBOX (cutbox-door.mjs). By AI agents, Wed Nov 11 2026. No macro, syntax, notation, axiom, sorry.
-/
import Derived.Test.YtbahnpdgaoedmaaGreatDoorRows
import GoSem.ClaimSeven
namespace Go.Proofs.YtbahnpdgaoedmaaGreatDoor
namespace Rows

/-- THE TIED CARD OF 'pentaglotlaw52.MemoryExact'. -/
def memoryExactCard : Claim7 := { stood := { row := memoryExactRow, standIns := [], harness := (true, "fbf65e274c62c20eb874d022cfd42280684e99080fc4f1cdb62d30aa60215bb8"), looks := false }, kinds := [], alts := [], laidByText := true, laidKinds := [.data, .data, .data], laidTests := true, laidLooks := .later }
def MemoryExactCardSaid : Prop := Claim7.holds Tryz.pinned (.plain (OpenSpec.ofChange memoryExactSpec)) memoryExactCard

/-- THE TIED CARD OF 'pentaglotlaw52.MemoryRecent'. -/
def memoryRecentCard : Claim7 := { stood := { row := memoryRecentRow, standIns := [], harness := (true, "fbf65e274c62c20eb874d022cfd42280684e99080fc4f1cdb62d30aa60215bb8"), looks := false }, kinds := [], alts := [], laidByText := true, laidKinds := [.data, .data, .data], laidTests := true, laidLooks := .later }
def MemoryRecentCardSaid : Prop := Claim7.holds Tryz.pinned (.plain (OpenSpec.ofChange memoryRecentSpec)) memoryRecentCard

/-- THE TIED CARD OF 'pentaglotlaw52.MemoryForgets'. -/
def memoryForgetsCard : Claim7 := { stood := { row := memoryForgetsRow, standIns := [], harness := (true, "fbf65e274c62c20eb874d022cfd42280684e99080fc4f1cdb62d30aa60215bb8"), looks := false }, kinds := [], alts := [], laidByText := true, laidKinds := [.data, .data, .data], laidTests := true, laidLooks := .later }
def MemoryForgetsCardSaid : Prop := Claim7.holds Tryz.pinned (.plain (OpenSpec.ofChange memoryForgetsSpec)) memoryForgetsCard

/-- THE TIED CARD OF 'pentaglotlaw52.MemoryForms'. -/
def memoryFormsCard : Claim7 := { stood := { row := memoryFormsRow, standIns := [], harness := (true, "fbf65e274c62c20eb874d022cfd42280684e99080fc4f1cdb62d30aa60215bb8"), looks := false }, kinds := [], alts := [], laidByText := true, laidKinds := [.data, .data, .data], laidTests := true, laidLooks := .later }
def MemoryFormsCardSaid : Prop := Claim7.holds Tryz.pinned (.plain (OpenSpec.ofChange memoryFormsSpec)) memoryFormsCard

/-- THE SECOND FORM's CARD OF 'pentaglotlaw52.MemoryExact'. -/
def memoryExactUptoCard : Claim7 := { stood := { row := memoryExactUptoRow, standIns := [], harness := (true, "fbf65e274c62c20eb874d022cfd42280684e99080fc4f1cdb62d30aa60215bb8"), looks := false }, kinds := [], alts := [], laidByText := true, laidKinds := [.data, .data, .data], laidTests := true, laidLooks := .later }
def MemoryExactUptoCardSaid : Prop := Claim7.holds Tryz.pinned (.plain (OpenSpec.upto memoryExactSpec)) memoryExactUptoCard

/-- THE SECOND FORM's CARD OF 'pentaglotlaw52.MemoryRecent'. -/
def memoryRecentUptoCard : Claim7 := { stood := { row := memoryRecentUptoRow, standIns := [], harness := (true, "fbf65e274c62c20eb874d022cfd42280684e99080fc4f1cdb62d30aa60215bb8"), looks := false }, kinds := [], alts := [], laidByText := true, laidKinds := [.data, .data, .data], laidTests := true, laidLooks := .later }
def MemoryRecentUptoCardSaid : Prop := Claim7.holds Tryz.pinned (.plain (OpenSpec.upto memoryRecentSpec)) memoryRecentUptoCard

/-- THE SECOND FORM's CARD OF 'pentaglotlaw52.MemoryForgets'. -/
def memoryForgetsUptoCard : Claim7 := { stood := { row := memoryForgetsUptoRow, standIns := [], harness := (true, "fbf65e274c62c20eb874d022cfd42280684e99080fc4f1cdb62d30aa60215bb8"), looks := false }, kinds := [], alts := [], laidByText := true, laidKinds := [.data, .data, .data], laidTests := true, laidLooks := .later }
def MemoryForgetsUptoCardSaid : Prop := Claim7.holds Tryz.pinned (.plain (OpenSpec.upto memoryForgetsSpec)) memoryForgetsUptoCard

/-- THE SECOND FORM's CARD OF 'pentaglotlaw52.MemoryForms'. -/
def memoryFormsUptoCard : Claim7 := { stood := { row := memoryFormsUptoRow, standIns := [], harness := (true, "fbf65e274c62c20eb874d022cfd42280684e99080fc4f1cdb62d30aa60215bb8"), looks := false }, kinds := [], alts := [], laidByText := true, laidKinds := [.data, .data, .data], laidTests := true, laidLooks := .later }
def MemoryFormsUptoCardSaid : Prop := Claim7.holds Tryz.pinned (.plain (OpenSpec.upto memoryFormsSpec)) memoryFormsUptoCard
end Rows
end Go.Proofs.YtbahnpdgaoedmaaGreatDoor
