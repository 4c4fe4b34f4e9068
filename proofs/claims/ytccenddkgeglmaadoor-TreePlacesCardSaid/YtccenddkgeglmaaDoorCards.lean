/-
  DERIVED. GIVEN WITH THE SEED: THE CARDS: each row of YtccenddkgeglmaaDoorRows.lean that lists a variable, with what it lists TIED to the program's text (the seventh form; the later family's looks); each row that meets fmt, with fmt's text TOLD by the authors' own Lean function (tested against real Go, not proved from fmt's source: count such statements apart). THE CARD IS WHAT COUNTS. Prove the row's statement (the work); the ties are given (YtccenddkgeglmaaDoorTie.lean); close each card by the builder's one call (the guide's Derived/Test/ToyasCard.lean, 'card_holds'). Laid BY PROGRAM, IN A SANDBOX (cutbox-door.mjs). By AI agents, Wed Nov 11 2026. No macro, syntax, notation, axiom, sorry.
-/
import Derived.Test.YtccenddkgeglmaaDoorRows
import GoSem.ClaimSeven
namespace Go.Proofs.YtccenddkgeglmaaDoor
namespace Rows

/-- THE TIED CARD OF 'stockadelaw05.TokenBack'. -/
def tokenBackCard : Claim7 := { stood := { row := tokenBackRow, standIns := [], harness := (true, "b44672464d5ae22c4b4a8583ffe4d042fa20e77d43cc8cb8bf70fa911c194ce3"), looks := true }, kinds := [], alts := [], laidByText := true, laidKinds := [.sentinel, .sentinel, .sentinel, .sentinel, .sentinel, .sentinel, .sentinel, .sentinel, .sentinel, .sentinel, .sentinel, .sentinel, .sentinel, .sentinel, .sentinel, .sentinel, .sentinel], laidTests := true, laidLooks := .later }
def TokenBackCardSaid : Prop := Claim7.holds Tryd.pinned (.plain (OpenSpec.ofChange tokenBackSpec)) tokenBackCard

/-- THE TIED CARD OF 'stockadelaw05.TokenInts'. -/
def tokenIntsCard : Claim7 := { stood := { row := tokenIntsRow, standIns := [], harness := (true, "b44672464d5ae22c4b4a8583ffe4d042fa20e77d43cc8cb8bf70fa911c194ce3"), looks := true }, kinds := [], alts := [], laidByText := true, laidKinds := [.sentinel, .sentinel, .sentinel, .sentinel, .sentinel, .sentinel, .sentinel, .sentinel, .sentinel, .sentinel, .sentinel, .sentinel, .sentinel, .sentinel, .sentinel, .sentinel, .sentinel], laidTests := true, laidLooks := .later }
def TokenIntsCardSaid : Prop := Claim7.holds Tryd.pinned (.plain (OpenSpec.ofChange tokenIntsSpec)) tokenIntsCard

/-- THE TIED CARD OF 'stockadelaw05.TokenFloats'. -/
def tokenFloatsCard : Claim7 := { stood := { row := tokenFloatsRow, standIns := [], harness := (true, "b44672464d5ae22c4b4a8583ffe4d042fa20e77d43cc8cb8bf70fa911c194ce3"), looks := true }, kinds := [], alts := [], laidByText := true, laidKinds := [.sentinel, .sentinel, .sentinel, .sentinel, .sentinel, .sentinel, .sentinel, .sentinel, .sentinel, .sentinel, .sentinel, .sentinel, .sentinel, .sentinel, .sentinel, .sentinel, .sentinel], laidTests := true, laidLooks := .later }
def TokenFloatsCardSaid : Prop := Claim7.holds Tryd.pinned (.plain (OpenSpec.ofChange tokenFloatsSpec)) tokenFloatsCard

/-- THE TIED CARD OF 'stockadelaw05.TokenBlanks'. -/
def tokenBlanksCard : Claim7 := { stood := { row := tokenBlanksRow, standIns := [], harness := (true, "b44672464d5ae22c4b4a8583ffe4d042fa20e77d43cc8cb8bf70fa911c194ce3"), looks := true }, kinds := [], alts := [], laidByText := true, laidKinds := [.sentinel, .sentinel, .sentinel, .sentinel, .sentinel, .sentinel, .sentinel, .sentinel, .sentinel, .sentinel, .sentinel, .sentinel, .sentinel, .sentinel, .sentinel, .sentinel, .sentinel], laidTests := true, laidLooks := .later }
def TokenBlanksCardSaid : Prop := Claim7.holds Tryd.pinned (.plain (OpenSpec.ofChange tokenBlanksSpec)) tokenBlanksCard

/-- THE TIED CARD OF 'stockadelaw06.TreeExprs'. -/
def treeExprsCard : Claim7 := { stood := { row := treeExprsRow, standIns := [], harness := (true, "b44672464d5ae22c4b4a8583ffe4d042fa20e77d43cc8cb8bf70fa911c194ce3"), looks := true }, kinds := [], alts := [], laidByText := true, laidKinds := [.sentinel, .sentinel, .sentinel, .sentinel, .sentinel, .sentinel, .sentinel, .sentinel, .sentinel, .sentinel, .sentinel, .sentinel, .sentinel, .sentinel, .sentinel, .sentinel, .sentinel], laidTests := true, laidLooks := .later }
def TreeExprsCardSaid : Prop := Claim7.holds Tryd.pinned (.plain (OpenSpec.ofChange treeExprsSpec)) treeExprsCard

/-- THE TIED CARD OF 'stockadelaw06.TreeGroups'. -/
def treeGroupsCard : Claim7 := { stood := { row := treeGroupsRow, standIns := [], harness := (true, "b44672464d5ae22c4b4a8583ffe4d042fa20e77d43cc8cb8bf70fa911c194ce3"), looks := true }, kinds := [], alts := [], laidByText := true, laidKinds := [.sentinel, .sentinel, .sentinel, .sentinel, .sentinel, .sentinel, .sentinel, .sentinel, .sentinel, .sentinel, .sentinel, .sentinel, .sentinel, .sentinel, .sentinel, .sentinel, .sentinel], laidTests := true, laidLooks := .later }
def TreeGroupsCardSaid : Prop := Claim7.holds Tryd.pinned (.plain (OpenSpec.ofChange treeGroupsSpec)) treeGroupsCard

/-- THE TIED CARD OF 'stockadelaw06.TreeLevels'. -/
def treeLevelsCard : Claim7 := { stood := { row := treeLevelsRow, standIns := [], harness := (true, "b44672464d5ae22c4b4a8583ffe4d042fa20e77d43cc8cb8bf70fa911c194ce3"), looks := true }, kinds := [], alts := [], laidByText := true, laidKinds := [.sentinel, .sentinel, .sentinel, .sentinel, .sentinel, .sentinel, .sentinel, .sentinel, .sentinel, .sentinel, .sentinel, .sentinel, .sentinel, .sentinel, .sentinel, .sentinel, .sentinel], laidTests := true, laidLooks := .later }
def TreeLevelsCardSaid : Prop := Claim7.holds Tryd.pinned (.plain (OpenSpec.ofChange treeLevelsSpec)) treeLevelsCard

/-- THE TIED CARD OF 'stockadelaw05.TokenLines'. -/
def tokenLinesCard : Claim7 := { stood := { row := tokenLinesRow, standIns := [], harness := (true, "b44672464d5ae22c4b4a8583ffe4d042fa20e77d43cc8cb8bf70fa911c194ce3"), looks := true }, kinds := [], alts := [], laidByText := true, laidKinds := [.sentinel, .sentinel, .sentinel, .sentinel, .sentinel, .sentinel, .sentinel, .sentinel, .sentinel, .sentinel, .sentinel, .sentinel, .sentinel, .sentinel, .sentinel, .sentinel, .sentinel], laidTests := true, laidLooks := .later }
def TokenLinesCardSaid : Prop := Claim7.holds Tryd.pinned (.plain (OpenSpec.ofChange tokenLinesSpec)) tokenLinesCard

/-- THE TIED CARD OF 'stockadelaw06.TreeSame'. -/
def treeSameCard : Claim7 := { stood := { row := treeSameRow, standIns := [], harness := (true, "b44672464d5ae22c4b4a8583ffe4d042fa20e77d43cc8cb8bf70fa911c194ce3"), looks := true }, kinds := [], alts := [], laidByText := true, laidKinds := [.sentinel, .sentinel, .sentinel, .sentinel, .sentinel, .sentinel, .sentinel, .sentinel, .sentinel, .sentinel, .sentinel, .sentinel, .sentinel, .sentinel, .sentinel, .sentinel, .sentinel], laidTests := true, laidLooks := .later }
def TreeSameCardSaid : Prop := Claim7.holds Tryd.pinned (.plain (OpenSpec.ofChange treeSameSpec)) treeSameCard

/-- THE TIED CARD OF 'stockadelaw06.TreeBrackets'. -/
def treeBracketsCard : Claim7 := { stood := { row := treeBracketsRow, standIns := [], harness := (true, "b44672464d5ae22c4b4a8583ffe4d042fa20e77d43cc8cb8bf70fa911c194ce3"), looks := true }, kinds := [], alts := [], laidByText := true, laidKinds := [.sentinel, .sentinel, .sentinel, .sentinel, .sentinel, .sentinel, .sentinel, .sentinel, .sentinel, .sentinel, .sentinel, .sentinel, .sentinel, .sentinel, .sentinel, .sentinel, .sentinel], laidTests := true, laidLooks := .later }
def TreeBracketsCardSaid : Prop := Claim7.holds Tryd.pinned (.plain (OpenSpec.ofChange treeBracketsSpec)) treeBracketsCard

/-- THE TIED CARD OF 'stockadelaw06.TreePlaces'. -/
def treePlacesCard : Claim7 := { stood := { row := treePlacesRow, standIns := [], harness := (true, "b44672464d5ae22c4b4a8583ffe4d042fa20e77d43cc8cb8bf70fa911c194ce3"), looks := true }, kinds := [], alts := [], laidByText := true, laidKinds := [.sentinel, .sentinel, .sentinel, .sentinel, .sentinel, .sentinel, .sentinel, .sentinel, .sentinel, .sentinel, .sentinel, .sentinel, .sentinel, .sentinel, .sentinel, .sentinel, .sentinel], laidTests := true, laidLooks := .later }
def TreePlacesCardSaid : Prop := Claim7.holds Tryd.pinned (.plain (OpenSpec.ofChange treePlacesSpec)) treePlacesCard

/-- THE SECOND FORM's CARD OF 'stockadelaw05.TokenBack'. -/
def tokenBackUptoCard : Claim7 := { stood := { row := tokenBackUptoRow, standIns := [], harness := (true, "b44672464d5ae22c4b4a8583ffe4d042fa20e77d43cc8cb8bf70fa911c194ce3"), looks := true }, kinds := [], alts := [], laidByText := true, laidKinds := [.sentinel, .sentinel, .sentinel, .sentinel, .sentinel, .sentinel, .sentinel, .sentinel, .sentinel, .sentinel, .sentinel, .sentinel, .sentinel, .sentinel, .sentinel, .sentinel, .sentinel], laidTests := true, laidLooks := .later }
def TokenBackUptoCardSaid : Prop := Claim7.holds Tryd.pinned (.plain (OpenSpec.upto tokenBackSpec)) tokenBackUptoCard

/-- THE SECOND FORM's CARD OF 'stockadelaw05.TokenInts'. -/
def tokenIntsUptoCard : Claim7 := { stood := { row := tokenIntsUptoRow, standIns := [], harness := (true, "b44672464d5ae22c4b4a8583ffe4d042fa20e77d43cc8cb8bf70fa911c194ce3"), looks := true }, kinds := [], alts := [], laidByText := true, laidKinds := [.sentinel, .sentinel, .sentinel, .sentinel, .sentinel, .sentinel, .sentinel, .sentinel, .sentinel, .sentinel, .sentinel, .sentinel, .sentinel, .sentinel, .sentinel, .sentinel, .sentinel], laidTests := true, laidLooks := .later }
def TokenIntsUptoCardSaid : Prop := Claim7.holds Tryd.pinned (.plain (OpenSpec.upto tokenIntsSpec)) tokenIntsUptoCard

/-- THE SECOND FORM's CARD OF 'stockadelaw05.TokenFloats'. -/
def tokenFloatsUptoCard : Claim7 := { stood := { row := tokenFloatsUptoRow, standIns := [], harness := (true, "b44672464d5ae22c4b4a8583ffe4d042fa20e77d43cc8cb8bf70fa911c194ce3"), looks := true }, kinds := [], alts := [], laidByText := true, laidKinds := [.sentinel, .sentinel, .sentinel, .sentinel, .sentinel, .sentinel, .sentinel, .sentinel, .sentinel, .sentinel, .sentinel, .sentinel, .sentinel, .sentinel, .sentinel, .sentinel, .sentinel], laidTests := true, laidLooks := .later }
def TokenFloatsUptoCardSaid : Prop := Claim7.holds Tryd.pinned (.plain (OpenSpec.upto tokenFloatsSpec)) tokenFloatsUptoCard

/-- THE SECOND FORM's CARD OF 'stockadelaw05.TokenBlanks'. -/
def tokenBlanksUptoCard : Claim7 := { stood := { row := tokenBlanksUptoRow, standIns := [], harness := (true, "b44672464d5ae22c4b4a8583ffe4d042fa20e77d43cc8cb8bf70fa911c194ce3"), looks := true }, kinds := [], alts := [], laidByText := true, laidKinds := [.sentinel, .sentinel, .sentinel, .sentinel, .sentinel, .sentinel, .sentinel, .sentinel, .sentinel, .sentinel, .sentinel, .sentinel, .sentinel, .sentinel, .sentinel, .sentinel, .sentinel], laidTests := true, laidLooks := .later }
def TokenBlanksUptoCardSaid : Prop := Claim7.holds Tryd.pinned (.plain (OpenSpec.upto tokenBlanksSpec)) tokenBlanksUptoCard

/-- THE SECOND FORM's CARD OF 'stockadelaw06.TreeExprs'. -/
def treeExprsUptoCard : Claim7 := { stood := { row := treeExprsUptoRow, standIns := [], harness := (true, "b44672464d5ae22c4b4a8583ffe4d042fa20e77d43cc8cb8bf70fa911c194ce3"), looks := true }, kinds := [], alts := [], laidByText := true, laidKinds := [.sentinel, .sentinel, .sentinel, .sentinel, .sentinel, .sentinel, .sentinel, .sentinel, .sentinel, .sentinel, .sentinel, .sentinel, .sentinel, .sentinel, .sentinel, .sentinel, .sentinel], laidTests := true, laidLooks := .later }
def TreeExprsUptoCardSaid : Prop := Claim7.holds Tryd.pinned (.plain (OpenSpec.upto treeExprsSpec)) treeExprsUptoCard

/-- THE SECOND FORM's CARD OF 'stockadelaw06.TreeGroups'. -/
def treeGroupsUptoCard : Claim7 := { stood := { row := treeGroupsUptoRow, standIns := [], harness := (true, "b44672464d5ae22c4b4a8583ffe4d042fa20e77d43cc8cb8bf70fa911c194ce3"), looks := true }, kinds := [], alts := [], laidByText := true, laidKinds := [.sentinel, .sentinel, .sentinel, .sentinel, .sentinel, .sentinel, .sentinel, .sentinel, .sentinel, .sentinel, .sentinel, .sentinel, .sentinel, .sentinel, .sentinel, .sentinel, .sentinel], laidTests := true, laidLooks := .later }
def TreeGroupsUptoCardSaid : Prop := Claim7.holds Tryd.pinned (.plain (OpenSpec.upto treeGroupsSpec)) treeGroupsUptoCard

/-- THE SECOND FORM's CARD OF 'stockadelaw06.TreeLevels'. -/
def treeLevelsUptoCard : Claim7 := { stood := { row := treeLevelsUptoRow, standIns := [], harness := (true, "b44672464d5ae22c4b4a8583ffe4d042fa20e77d43cc8cb8bf70fa911c194ce3"), looks := true }, kinds := [], alts := [], laidByText := true, laidKinds := [.sentinel, .sentinel, .sentinel, .sentinel, .sentinel, .sentinel, .sentinel, .sentinel, .sentinel, .sentinel, .sentinel, .sentinel, .sentinel, .sentinel, .sentinel, .sentinel, .sentinel], laidTests := true, laidLooks := .later }
def TreeLevelsUptoCardSaid : Prop := Claim7.holds Tryd.pinned (.plain (OpenSpec.upto treeLevelsSpec)) treeLevelsUptoCard

/-- THE SECOND FORM's CARD OF 'stockadelaw05.TokenLines'. -/
def tokenLinesUptoCard : Claim7 := { stood := { row := tokenLinesUptoRow, standIns := [], harness := (true, "b44672464d5ae22c4b4a8583ffe4d042fa20e77d43cc8cb8bf70fa911c194ce3"), looks := true }, kinds := [], alts := [], laidByText := true, laidKinds := [.sentinel, .sentinel, .sentinel, .sentinel, .sentinel, .sentinel, .sentinel, .sentinel, .sentinel, .sentinel, .sentinel, .sentinel, .sentinel, .sentinel, .sentinel, .sentinel, .sentinel], laidTests := true, laidLooks := .later }
def TokenLinesUptoCardSaid : Prop := Claim7.holds Tryd.pinned (.plain (OpenSpec.upto tokenLinesSpec)) tokenLinesUptoCard

/-- THE SECOND FORM's CARD OF 'stockadelaw06.TreeSame'. -/
def treeSameUptoCard : Claim7 := { stood := { row := treeSameUptoRow, standIns := [], harness := (true, "b44672464d5ae22c4b4a8583ffe4d042fa20e77d43cc8cb8bf70fa911c194ce3"), looks := true }, kinds := [], alts := [], laidByText := true, laidKinds := [.sentinel, .sentinel, .sentinel, .sentinel, .sentinel, .sentinel, .sentinel, .sentinel, .sentinel, .sentinel, .sentinel, .sentinel, .sentinel, .sentinel, .sentinel, .sentinel, .sentinel], laidTests := true, laidLooks := .later }
def TreeSameUptoCardSaid : Prop := Claim7.holds Tryd.pinned (.plain (OpenSpec.upto treeSameSpec)) treeSameUptoCard

/-- THE SECOND FORM's CARD OF 'stockadelaw06.TreeBrackets'. -/
def treeBracketsUptoCard : Claim7 := { stood := { row := treeBracketsUptoRow, standIns := [], harness := (true, "b44672464d5ae22c4b4a8583ffe4d042fa20e77d43cc8cb8bf70fa911c194ce3"), looks := true }, kinds := [], alts := [], laidByText := true, laidKinds := [.sentinel, .sentinel, .sentinel, .sentinel, .sentinel, .sentinel, .sentinel, .sentinel, .sentinel, .sentinel, .sentinel, .sentinel, .sentinel, .sentinel, .sentinel, .sentinel, .sentinel], laidTests := true, laidLooks := .later }
def TreeBracketsUptoCardSaid : Prop := Claim7.holds Tryd.pinned (.plain (OpenSpec.upto treeBracketsSpec)) treeBracketsUptoCard

/-- THE SECOND FORM's CARD OF 'stockadelaw06.TreePlaces'. -/
def treePlacesUptoCard : Claim7 := { stood := { row := treePlacesUptoRow, standIns := [], harness := (true, "b44672464d5ae22c4b4a8583ffe4d042fa20e77d43cc8cb8bf70fa911c194ce3"), looks := true }, kinds := [], alts := [], laidByText := true, laidKinds := [.sentinel, .sentinel, .sentinel, .sentinel, .sentinel, .sentinel, .sentinel, .sentinel, .sentinel, .sentinel, .sentinel, .sentinel, .sentinel, .sentinel, .sentinel, .sentinel, .sentinel], laidTests := true, laidLooks := .later }
def TreePlacesUptoCardSaid : Prop := Claim7.holds Tryd.pinned (.plain (OpenSpec.upto treePlacesSpec)) treePlacesUptoCard
end Rows
end Go.Proofs.YtccenddkgeglmaaDoor
