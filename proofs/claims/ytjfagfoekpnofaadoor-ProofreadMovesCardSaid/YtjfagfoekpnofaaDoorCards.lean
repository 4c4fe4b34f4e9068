/-
  DERIVED. GIVEN WITH THE SEED: THE CARDS: each row of YtjfagfoekpnofaaDoorRows.lean that lists a variable, with what it lists TIED to the program's text (the seventh form; the later family's looks); each row that meets fmt, with fmt's text TOLD by the authors' own Lean function (tested against real Go, not proved from fmt's source: count such statements apart). THE CARD IS WHAT COUNTS. Prove the row's statement (the work); the ties are given (YtjfagfoekpnofaaDoorTie.lean); close each card by the builder's one call (the guide's Derived/Test/ToyasCard.lean, 'card_holds'). Laid BY PROGRAM, IN A SANDBOX (cutbox-door.mjs). By AI agents, Wed Nov 11 2026. No macro, syntax, notation, axiom, sorry.
-/
import Derived.Test.YtjfagfoekpnofaaDoorRows
import GoSem.ClaimSeven
namespace Go.Proofs.YtjfagfoekpnofaaDoor
namespace Rows

/-- THE TIED CARD OF 'stockadelaw16.ProofreadMoves'. -/
def proofreadMovesCard : Claim7 := { stood := { row := proofreadMovesRow, standIns := [], harness := (true, "83b97d1fddd26909ceb49febb7101f9265f66d5570dd89669198eb3c4f52cebb"), looks := true }, kinds := [], alts := [], laidByText := true, laidKinds := [.sentinel, .sentinel, .sentinel, .sentinel, .sentinel, .sentinel, .sentinel, .sentinel, .sentinel, .sentinel, .sentinel, .sentinel, .sentinel, .sentinel, .sentinel, .sentinel, .sentinel], laidTests := true, laidLooks := .later }
def ProofreadMovesCardSaid : Prop := Claim7.holds Tryd.pinned (.plain (OpenSpec.ofChange proofreadMovesSpec)) proofreadMovesCard

/-- THE TIED CARD OF 'stockadelaw16.ProofreadLoops'. -/
def proofreadLoopsCard : Claim7 := { stood := { row := proofreadLoopsRow, standIns := [], harness := (true, "83b97d1fddd26909ceb49febb7101f9265f66d5570dd89669198eb3c4f52cebb"), looks := true }, kinds := [], alts := [], laidByText := true, laidKinds := [.sentinel, .sentinel, .sentinel, .sentinel, .sentinel, .sentinel, .sentinel, .sentinel, .sentinel, .sentinel, .sentinel, .sentinel, .sentinel, .sentinel, .sentinel, .sentinel, .sentinel], laidTests := true, laidLooks := .later }
def ProofreadLoopsCardSaid : Prop := Claim7.holds Tryd.pinned (.plain (OpenSpec.ofChange proofreadLoopsSpec)) proofreadLoopsCard

/-- THE TIED CARD OF 'stockadelaw16.ProofreadStack'. -/
def proofreadStackCard : Claim7 := { stood := { row := proofreadStackRow, standIns := [], harness := (true, "83b97d1fddd26909ceb49febb7101f9265f66d5570dd89669198eb3c4f52cebb"), looks := true }, kinds := [], alts := [], laidByText := true, laidKinds := [.sentinel, .sentinel, .sentinel, .sentinel, .sentinel, .sentinel, .sentinel, .sentinel, .sentinel, .sentinel, .sentinel, .sentinel, .sentinel, .sentinel, .sentinel, .sentinel, .sentinel], laidTests := true, laidLooks := .later }
def ProofreadStackCardSaid : Prop := Claim7.holds Tryd.pinned (.plain (OpenSpec.ofChange proofreadStackSpec)) proofreadStackCard

/-- THE SECOND FORM's CARD OF 'stockadelaw16.ProofreadMoves'. -/
def proofreadMovesUptoCard : Claim7 := { stood := { row := proofreadMovesUptoRow, standIns := [], harness := (true, "83b97d1fddd26909ceb49febb7101f9265f66d5570dd89669198eb3c4f52cebb"), looks := true }, kinds := [], alts := [], laidByText := true, laidKinds := [.sentinel, .sentinel, .sentinel, .sentinel, .sentinel, .sentinel, .sentinel, .sentinel, .sentinel, .sentinel, .sentinel, .sentinel, .sentinel, .sentinel, .sentinel, .sentinel, .sentinel], laidTests := true, laidLooks := .later }
def ProofreadMovesUptoCardSaid : Prop := Claim7.holds Tryd.pinned (.plain (OpenSpec.upto proofreadMovesSpec)) proofreadMovesUptoCard

/-- THE SECOND FORM's CARD OF 'stockadelaw16.ProofreadLoops'. -/
def proofreadLoopsUptoCard : Claim7 := { stood := { row := proofreadLoopsUptoRow, standIns := [], harness := (true, "83b97d1fddd26909ceb49febb7101f9265f66d5570dd89669198eb3c4f52cebb"), looks := true }, kinds := [], alts := [], laidByText := true, laidKinds := [.sentinel, .sentinel, .sentinel, .sentinel, .sentinel, .sentinel, .sentinel, .sentinel, .sentinel, .sentinel, .sentinel, .sentinel, .sentinel, .sentinel, .sentinel, .sentinel, .sentinel], laidTests := true, laidLooks := .later }
def ProofreadLoopsUptoCardSaid : Prop := Claim7.holds Tryd.pinned (.plain (OpenSpec.upto proofreadLoopsSpec)) proofreadLoopsUptoCard

/-- THE SECOND FORM's CARD OF 'stockadelaw16.ProofreadStack'. -/
def proofreadStackUptoCard : Claim7 := { stood := { row := proofreadStackUptoRow, standIns := [], harness := (true, "83b97d1fddd26909ceb49febb7101f9265f66d5570dd89669198eb3c4f52cebb"), looks := true }, kinds := [], alts := [], laidByText := true, laidKinds := [.sentinel, .sentinel, .sentinel, .sentinel, .sentinel, .sentinel, .sentinel, .sentinel, .sentinel, .sentinel, .sentinel, .sentinel, .sentinel, .sentinel, .sentinel, .sentinel, .sentinel], laidTests := true, laidLooks := .later }
def ProofreadStackUptoCardSaid : Prop := Claim7.holds Tryd.pinned (.plain (OpenSpec.upto proofreadStackSpec)) proofreadStackUptoCard
end Rows
end Go.Proofs.YtjfagfoekpnofaaDoor
