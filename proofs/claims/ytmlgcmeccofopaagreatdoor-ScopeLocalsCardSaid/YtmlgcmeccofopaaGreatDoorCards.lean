/-
  DERIVED. GIVEN WITH THE SEED: THE CARDS: each row of YtmlgcmeccofopaaGreatDoorRows.lean that lists a variable, with what it lists TIED to the program's text (the seventh form; the later family's looks); each row that meets fmt, with fmt's text TOLD by the authors' own Lean function (tested against real Go, not proved from fmt's source: count such statements apart). THE CARD IS WHAT COUNTS. Prove the row's statement (the work); the ties are given (YtmlgcmeccofopaaGreatDoorTie.lean); close each card by the builder's one call (the guide's Derived/Test/ToyasCard.lean, 'card_holds'). Laid BY PROGRAM, IN A SANDBOX (cutbox-door.mjs). By AI agents, Wed Nov 11 2026. No macro, syntax, notation, axiom, sorry.
-/
import Derived.Test.YtmlgcmeccofopaaGreatDoorRows
import GoSem.ClaimSeven
namespace Go.Proofs.YtmlgcmeccofopaaGreatDoor
namespace Rows

/-- THE TIED CARD OF 'stockadelaw08.ScopeTrees'. -/
def scopeTreesCard : Claim7 := { stood := { row := scopeTreesRow, standIns := [], harness := (true, "496ba2b676fb428efae1977645ecd8c395098a648824b36ca509690fee1b903d"), looks := true }, kinds := [], alts := [], laidByText := true, laidKinds := [.sentinel, .sentinel, .sentinel, .sentinel, .sentinel, .sentinel, .sentinel, .sentinel, .sentinel, .sentinel, .sentinel, .sentinel, .sentinel, .sentinel, .sentinel, .sentinel, .sentinel], laidTests := true, laidLooks := .later }
def ScopeTreesCardSaid : Prop := Claim7.holds Tryz.pinned (.plain (OpenSpec.ofChange scopeTreesSpec)) scopeTreesCard

/-- THE TIED CARD OF 'stockadelaw08.ScopePlaces'. -/
def scopePlacesCard : Claim7 := { stood := { row := scopePlacesRow, standIns := [], harness := (true, "496ba2b676fb428efae1977645ecd8c395098a648824b36ca509690fee1b903d"), looks := true }, kinds := [], alts := [], laidByText := true, laidKinds := [.sentinel, .sentinel, .sentinel, .sentinel, .sentinel, .sentinel, .sentinel, .sentinel, .sentinel, .sentinel, .sentinel, .sentinel, .sentinel, .sentinel, .sentinel, .sentinel, .sentinel], laidTests := true, laidLooks := .later }
def ScopePlacesCardSaid : Prop := Claim7.holds Tryz.pinned (.plain (OpenSpec.ofChange scopePlacesSpec)) scopePlacesCard

/-- THE TIED CARD OF 'stockadelaw08.ScopeLocals'. -/
def scopeLocalsCard : Claim7 := { stood := { row := scopeLocalsRow, standIns := [], harness := (true, "496ba2b676fb428efae1977645ecd8c395098a648824b36ca509690fee1b903d"), looks := true }, kinds := [], alts := [], laidByText := true, laidKinds := [.sentinel, .sentinel, .sentinel, .sentinel, .sentinel, .sentinel, .sentinel, .sentinel, .sentinel, .sentinel, .sentinel, .sentinel, .sentinel, .sentinel, .sentinel, .sentinel, .sentinel], laidTests := true, laidLooks := .later }
def ScopeLocalsCardSaid : Prop := Claim7.holds Tryz.pinned (.plain (OpenSpec.ofChange scopeLocalsSpec)) scopeLocalsCard

/-- THE TIED CARD OF 'stockadelaw09.KindOne'. -/
def kindOneCard : Claim7 := { stood := { row := kindOneRow, standIns := [], harness := (true, "496ba2b676fb428efae1977645ecd8c395098a648824b36ca509690fee1b903d"), looks := true }, kinds := [], alts := [], laidByText := true, laidKinds := [.sentinel, .sentinel, .sentinel, .sentinel, .sentinel, .sentinel, .sentinel, .sentinel, .sentinel, .sentinel, .sentinel, .sentinel, .sentinel, .sentinel, .sentinel, .sentinel, .sentinel], laidTests := true, laidLooks := .later }
def KindOneCardSaid : Prop := Claim7.holds Tryz.pinned (.plain (OpenSpec.ofChange kindOneSpec)) kindOneCard

/-- THE TIED CARD OF 'stockadelaw09.KindTwo'. -/
def kindTwoCard : Claim7 := { stood := { row := kindTwoRow, standIns := [], harness := (true, "496ba2b676fb428efae1977645ecd8c395098a648824b36ca509690fee1b903d"), looks := true }, kinds := [], alts := [], laidByText := true, laidKinds := [.sentinel, .sentinel, .sentinel, .sentinel, .sentinel, .sentinel, .sentinel, .sentinel, .sentinel, .sentinel, .sentinel, .sentinel, .sentinel, .sentinel, .sentinel, .sentinel, .sentinel], laidTests := true, laidLooks := .later }
def KindTwoCardSaid : Prop := Claim7.holds Tryz.pinned (.plain (OpenSpec.ofChange kindTwoSpec)) kindTwoCard

/-- THE TIED CARD OF 'stockadelaw09.KindLets'. -/
def kindLetsCard : Claim7 := { stood := { row := kindLetsRow, standIns := [], harness := (true, "496ba2b676fb428efae1977645ecd8c395098a648824b36ca509690fee1b903d"), looks := true }, kinds := [], alts := [], laidByText := true, laidKinds := [.sentinel, .sentinel, .sentinel, .sentinel, .sentinel, .sentinel, .sentinel, .sentinel, .sentinel, .sentinel, .sentinel, .sentinel, .sentinel, .sentinel, .sentinel, .sentinel, .sentinel], laidTests := true, laidLooks := .later }
def KindLetsCardSaid : Prop := Claim7.holds Tryz.pinned (.plain (OpenSpec.ofChange kindLetsSpec)) kindLetsCard

/-- THE TIED CARD OF 'stockadelaw07.ShowWords'. -/
def showWordsCard : Claim7 := { stood := { row := showWordsRow, standIns := [], harness := (true, "496ba2b676fb428efae1977645ecd8c395098a648824b36ca509690fee1b903d"), looks := true }, kinds := [], alts := [], laidByText := true, laidKinds := [.data, .data, .data, .sentinel, .sentinel, .sentinel, .sentinel, .sentinel], laidTests := true, laidLooks := .later }
def ShowWordsCardSaid : Prop := Claim7.holds Tryz.pinned (.plain (OpenSpec.ofChange showWordsSpec)) showWordsCard

/-- THE TIED CARD OF 'stockadelaw07.ShowTexts'. -/
def showTextsCard : Claim7 := { stood := { row := showTextsRow, standIns := [], harness := (true, "496ba2b676fb428efae1977645ecd8c395098a648824b36ca509690fee1b903d"), looks := true }, kinds := [], alts := [], laidByText := true, laidKinds := [.data, .data, .data, .sentinel, .sentinel, .sentinel, .sentinel, .sentinel, .sentinel, .sentinel, .sentinel, .sentinel, .sentinel, .sentinel, .sentinel, .sentinel, .sentinel, .sentinel, .sentinel, .sentinel], laidTests := true, laidLooks := .later }
def ShowTextsCardSaid : Prop := Claim7.holds Tryz.pinned (.plain (OpenSpec.ofChange showTextsSpec)) showTextsCard

/-- THE TIED CARD OF 'stockadelaw07.ShowExprs'. -/
def showExprsCard : Claim7 := { stood := { row := showExprsRow, standIns := [], harness := (true, "496ba2b676fb428efae1977645ecd8c395098a648824b36ca509690fee1b903d"), looks := true }, kinds := [], alts := [], laidByText := true, laidKinds := [.data, .data, .data, .sentinel, .sentinel, .sentinel, .sentinel, .sentinel, .sentinel, .sentinel, .sentinel, .sentinel, .sentinel, .sentinel, .sentinel, .sentinel, .sentinel, .sentinel, .sentinel, .sentinel], laidTests := true, laidLooks := .later }
def ShowExprsCardSaid : Prop := Claim7.holds Tryz.pinned (.plain (OpenSpec.ofChange showExprsSpec)) showExprsCard

/-- THE SECOND FORM's CARD OF 'stockadelaw08.ScopeTrees'. -/
def scopeTreesUptoCard : Claim7 := { stood := { row := scopeTreesUptoRow, standIns := [], harness := (true, "496ba2b676fb428efae1977645ecd8c395098a648824b36ca509690fee1b903d"), looks := true }, kinds := [], alts := [], laidByText := true, laidKinds := [.sentinel, .sentinel, .sentinel, .sentinel, .sentinel, .sentinel, .sentinel, .sentinel, .sentinel, .sentinel, .sentinel, .sentinel, .sentinel, .sentinel, .sentinel, .sentinel, .sentinel], laidTests := true, laidLooks := .later }
def ScopeTreesUptoCardSaid : Prop := Claim7.holds Tryz.pinned (.plain (OpenSpec.upto scopeTreesSpec)) scopeTreesUptoCard

/-- THE SECOND FORM's CARD OF 'stockadelaw08.ScopePlaces'. -/
def scopePlacesUptoCard : Claim7 := { stood := { row := scopePlacesUptoRow, standIns := [], harness := (true, "496ba2b676fb428efae1977645ecd8c395098a648824b36ca509690fee1b903d"), looks := true }, kinds := [], alts := [], laidByText := true, laidKinds := [.sentinel, .sentinel, .sentinel, .sentinel, .sentinel, .sentinel, .sentinel, .sentinel, .sentinel, .sentinel, .sentinel, .sentinel, .sentinel, .sentinel, .sentinel, .sentinel, .sentinel], laidTests := true, laidLooks := .later }
def ScopePlacesUptoCardSaid : Prop := Claim7.holds Tryz.pinned (.plain (OpenSpec.upto scopePlacesSpec)) scopePlacesUptoCard

/-- THE SECOND FORM's CARD OF 'stockadelaw08.ScopeLocals'. -/
def scopeLocalsUptoCard : Claim7 := { stood := { row := scopeLocalsUptoRow, standIns := [], harness := (true, "496ba2b676fb428efae1977645ecd8c395098a648824b36ca509690fee1b903d"), looks := true }, kinds := [], alts := [], laidByText := true, laidKinds := [.sentinel, .sentinel, .sentinel, .sentinel, .sentinel, .sentinel, .sentinel, .sentinel, .sentinel, .sentinel, .sentinel, .sentinel, .sentinel, .sentinel, .sentinel, .sentinel, .sentinel], laidTests := true, laidLooks := .later }
def ScopeLocalsUptoCardSaid : Prop := Claim7.holds Tryz.pinned (.plain (OpenSpec.upto scopeLocalsSpec)) scopeLocalsUptoCard

/-- THE SECOND FORM's CARD OF 'stockadelaw09.KindOne'. -/
def kindOneUptoCard : Claim7 := { stood := { row := kindOneUptoRow, standIns := [], harness := (true, "496ba2b676fb428efae1977645ecd8c395098a648824b36ca509690fee1b903d"), looks := true }, kinds := [], alts := [], laidByText := true, laidKinds := [.sentinel, .sentinel, .sentinel, .sentinel, .sentinel, .sentinel, .sentinel, .sentinel, .sentinel, .sentinel, .sentinel, .sentinel, .sentinel, .sentinel, .sentinel, .sentinel, .sentinel], laidTests := true, laidLooks := .later }
def KindOneUptoCardSaid : Prop := Claim7.holds Tryz.pinned (.plain (OpenSpec.upto kindOneSpec)) kindOneUptoCard

/-- THE SECOND FORM's CARD OF 'stockadelaw09.KindTwo'. -/
def kindTwoUptoCard : Claim7 := { stood := { row := kindTwoUptoRow, standIns := [], harness := (true, "496ba2b676fb428efae1977645ecd8c395098a648824b36ca509690fee1b903d"), looks := true }, kinds := [], alts := [], laidByText := true, laidKinds := [.sentinel, .sentinel, .sentinel, .sentinel, .sentinel, .sentinel, .sentinel, .sentinel, .sentinel, .sentinel, .sentinel, .sentinel, .sentinel, .sentinel, .sentinel, .sentinel, .sentinel], laidTests := true, laidLooks := .later }
def KindTwoUptoCardSaid : Prop := Claim7.holds Tryz.pinned (.plain (OpenSpec.upto kindTwoSpec)) kindTwoUptoCard

/-- THE SECOND FORM's CARD OF 'stockadelaw09.KindLets'. -/
def kindLetsUptoCard : Claim7 := { stood := { row := kindLetsUptoRow, standIns := [], harness := (true, "496ba2b676fb428efae1977645ecd8c395098a648824b36ca509690fee1b903d"), looks := true }, kinds := [], alts := [], laidByText := true, laidKinds := [.sentinel, .sentinel, .sentinel, .sentinel, .sentinel, .sentinel, .sentinel, .sentinel, .sentinel, .sentinel, .sentinel, .sentinel, .sentinel, .sentinel, .sentinel, .sentinel, .sentinel], laidTests := true, laidLooks := .later }
def KindLetsUptoCardSaid : Prop := Claim7.holds Tryz.pinned (.plain (OpenSpec.upto kindLetsSpec)) kindLetsUptoCard

/-- THE SECOND FORM's CARD OF 'stockadelaw07.ShowWords'. -/
def showWordsUptoCard : Claim7 := { stood := { row := showWordsUptoRow, standIns := [], harness := (true, "496ba2b676fb428efae1977645ecd8c395098a648824b36ca509690fee1b903d"), looks := true }, kinds := [], alts := [], laidByText := true, laidKinds := [.data, .data, .data, .sentinel, .sentinel, .sentinel, .sentinel, .sentinel], laidTests := true, laidLooks := .later }
def ShowWordsUptoCardSaid : Prop := Claim7.holds Tryz.pinned (.plain (OpenSpec.upto showWordsSpec)) showWordsUptoCard

/-- THE SECOND FORM's CARD OF 'stockadelaw07.ShowTexts'. -/
def showTextsUptoCard : Claim7 := { stood := { row := showTextsUptoRow, standIns := [], harness := (true, "496ba2b676fb428efae1977645ecd8c395098a648824b36ca509690fee1b903d"), looks := true }, kinds := [], alts := [], laidByText := true, laidKinds := [.data, .data, .data, .sentinel, .sentinel, .sentinel, .sentinel, .sentinel, .sentinel, .sentinel, .sentinel, .sentinel, .sentinel, .sentinel, .sentinel, .sentinel, .sentinel, .sentinel, .sentinel, .sentinel], laidTests := true, laidLooks := .later }
def ShowTextsUptoCardSaid : Prop := Claim7.holds Tryz.pinned (.plain (OpenSpec.upto showTextsSpec)) showTextsUptoCard

/-- THE SECOND FORM's CARD OF 'stockadelaw07.ShowExprs'. -/
def showExprsUptoCard : Claim7 := { stood := { row := showExprsUptoRow, standIns := [], harness := (true, "496ba2b676fb428efae1977645ecd8c395098a648824b36ca509690fee1b903d"), looks := true }, kinds := [], alts := [], laidByText := true, laidKinds := [.data, .data, .data, .sentinel, .sentinel, .sentinel, .sentinel, .sentinel, .sentinel, .sentinel, .sentinel, .sentinel, .sentinel, .sentinel, .sentinel, .sentinel, .sentinel, .sentinel, .sentinel, .sentinel], laidTests := true, laidLooks := .later }
def ShowExprsUptoCardSaid : Prop := Claim7.holds Tryz.pinned (.plain (OpenSpec.upto showExprsSpec)) showExprsUptoCard
end Rows
end Go.Proofs.YtmlgcmeccofopaaGreatDoor
