/-
  DERIVED. GIVEN WITH THE SEED: THE CARDS: each row of YtgpkpopbajkklaaGreatDoorRows.lean that lists a variable, with what it lists TIED to the program's text (the seventh form; the later family's looks); each row that meets fmt, with fmt's text TOLD by the authors' own Lean function (tested against real Go, not proved from fmt's source: count such statements apart). THE CARD IS WHAT COUNTS. Prove the row's statement (the work); the ties are given (YtgpkpopbajkklaaGreatDoorTie.lean); close each card by the builder's one call (the guide's Derived/Test/ToyasCard.lean, 'card_holds'). Laid BY PROGRAM, IN A SANDBOX (cutbox-door.mjs). By AI agents, Wed Nov 11 2026. No macro, syntax, notation, axiom, sorry.
-/
import Derived.Test.YtgpkpopbajkklaaGreatDoorRows
import GoSem.ClaimSeven
namespace Go.Proofs.YtgpkpopbajkklaaGreatDoor
namespace Rows

/-- THE TIED CARD OF 'laws.FnExactSubcircuitOf'. -/
def fnExactSubcircuitOfCard : Claim7 := { stood := { row := fnExactSubcircuitOfRow, standIns := [], harness := (true, "f71588391801e6e25296ab63b04e81ddbc4a055ec0d51b628fc19d6c8fca9db0"), looks := true }, kinds := [], alts := [], laidByText := true, laidKinds := [.data, .data, .data, .data, .sentinel, .sentinel, .widerDeep, .pinned], laidTests := true, laidLooks := .later }
def FnExactSubcircuitOfCardSaid : Prop := Claim7.holds Tryz.pinned (.plain (OpenSpec.ofChange fnExactSubcircuitOfSpec)) fnExactSubcircuitOfCard

/-- THE TIED CARD OF 'laws.FnCircuitTexts'. -/
def fnCircuitTextsCard : Claim7 := { stood := { row := fnCircuitTextsRow, standIns := [], harness := (true, "f71588391801e6e25296ab63b04e81ddbc4a055ec0d51b628fc19d6c8fca9db0"), looks := true }, kinds := [], alts := [], laidByText := true, laidKinds := [.data, .data, .data, .data, .sentinel, .sentinel, .widerDeep, .pinned], laidTests := true, laidLooks := .later }
def FnCircuitTextsCardSaid : Prop := Claim7.holds Tryz.pinned (.plain (OpenSpec.ofChange fnCircuitTextsSpec)) fnCircuitTextsCard

/-- THE TIED CARD OF 'laws.FnExactCheckText'. -/
def fnExactCheckTextCard : Claim7 := { stood := { row := fnExactCheckTextRow, standIns := [], harness := (true, "f71588391801e6e25296ab63b04e81ddbc4a055ec0d51b628fc19d6c8fca9db0"), looks := true }, kinds := [], alts := [], laidByText := true, laidKinds := [.data, .data, .data, .data, .sentinel, .sentinel, .widerDeep, .pinned], laidTests := true, laidLooks := .later }
def FnExactCheckTextCardSaid : Prop := Claim7.holds Tryz.pinned (.plain (OpenSpec.ofChange fnExactCheckTextSpec)) fnExactCheckTextCard

/-- THE TIED CARD OF 'laws.FnExactDefinedNames'. -/
def fnExactDefinedNamesCard : Claim7 := { stood := { row := fnExactDefinedNamesRow, standIns := [], harness := (true, "f71588391801e6e25296ab63b04e81ddbc4a055ec0d51b628fc19d6c8fca9db0"), looks := true }, kinds := [], alts := [], laidByText := true, laidKinds := [.data, .data, .data, .data, .sentinel, .sentinel, .widerDeep, .pinned], laidTests := true, laidLooks := .later }
def FnExactDefinedNamesCardSaid : Prop := Claim7.holds Tryz.pinned (.plain (OpenSpec.ofChange fnExactDefinedNamesSpec)) fnExactDefinedNamesCard

/-- THE TIED CARD OF 'laws.FnExactParseCircuit'. -/
def fnExactParseCircuitCard : Claim7 := { stood := { row := fnExactParseCircuitRow, standIns := [], harness := (true, "f71588391801e6e25296ab63b04e81ddbc4a055ec0d51b628fc19d6c8fca9db0"), looks := true }, kinds := [], alts := [], laidByText := true, laidKinds := [.data, .data, .data, .data, .sentinel, .sentinel, .widerDeep, .pinned], laidTests := true, laidLooks := .later }
def FnExactParseCircuitCardSaid : Prop := Claim7.holds Tryz.pinned (.plain (OpenSpec.ofChange fnExactParseCircuitSpec)) fnExactParseCircuitCard

/-- THE SECOND FORM's CARD OF 'laws.FnExactSubcircuitOf'. -/
def fnExactSubcircuitOfUptoCard : Claim7 := { stood := { row := fnExactSubcircuitOfUptoRow, standIns := [], harness := (true, "f71588391801e6e25296ab63b04e81ddbc4a055ec0d51b628fc19d6c8fca9db0"), looks := true }, kinds := [], alts := [], laidByText := true, laidKinds := [.data, .data, .data, .data, .sentinel, .sentinel, .widerDeep, .pinned], laidTests := true, laidLooks := .later }
def FnExactSubcircuitOfUptoCardSaid : Prop := Claim7.holds Tryz.pinned (.plain (OpenSpec.upto fnExactSubcircuitOfSpec)) fnExactSubcircuitOfUptoCard

/-- THE SECOND FORM's CARD OF 'laws.FnCircuitTexts'. -/
def fnCircuitTextsUptoCard : Claim7 := { stood := { row := fnCircuitTextsUptoRow, standIns := [], harness := (true, "f71588391801e6e25296ab63b04e81ddbc4a055ec0d51b628fc19d6c8fca9db0"), looks := true }, kinds := [], alts := [], laidByText := true, laidKinds := [.data, .data, .data, .data, .sentinel, .sentinel, .widerDeep, .pinned], laidTests := true, laidLooks := .later }
def FnCircuitTextsUptoCardSaid : Prop := Claim7.holds Tryz.pinned (.plain (OpenSpec.upto fnCircuitTextsSpec)) fnCircuitTextsUptoCard

/-- THE SECOND FORM's CARD OF 'laws.FnExactCheckText'. -/
def fnExactCheckTextUptoCard : Claim7 := { stood := { row := fnExactCheckTextUptoRow, standIns := [], harness := (true, "f71588391801e6e25296ab63b04e81ddbc4a055ec0d51b628fc19d6c8fca9db0"), looks := true }, kinds := [], alts := [], laidByText := true, laidKinds := [.data, .data, .data, .data, .sentinel, .sentinel, .widerDeep, .pinned], laidTests := true, laidLooks := .later }
def FnExactCheckTextUptoCardSaid : Prop := Claim7.holds Tryz.pinned (.plain (OpenSpec.upto fnExactCheckTextSpec)) fnExactCheckTextUptoCard

/-- THE SECOND FORM's CARD OF 'laws.FnExactDefinedNames'. -/
def fnExactDefinedNamesUptoCard : Claim7 := { stood := { row := fnExactDefinedNamesUptoRow, standIns := [], harness := (true, "f71588391801e6e25296ab63b04e81ddbc4a055ec0d51b628fc19d6c8fca9db0"), looks := true }, kinds := [], alts := [], laidByText := true, laidKinds := [.data, .data, .data, .data, .sentinel, .sentinel, .widerDeep, .pinned], laidTests := true, laidLooks := .later }
def FnExactDefinedNamesUptoCardSaid : Prop := Claim7.holds Tryz.pinned (.plain (OpenSpec.upto fnExactDefinedNamesSpec)) fnExactDefinedNamesUptoCard

/-- THE SECOND FORM's CARD OF 'laws.FnExactParseCircuit'. -/
def fnExactParseCircuitUptoCard : Claim7 := { stood := { row := fnExactParseCircuitUptoRow, standIns := [], harness := (true, "f71588391801e6e25296ab63b04e81ddbc4a055ec0d51b628fc19d6c8fca9db0"), looks := true }, kinds := [], alts := [], laidByText := true, laidKinds := [.data, .data, .data, .data, .sentinel, .sentinel, .widerDeep, .pinned], laidTests := true, laidLooks := .later }
def FnExactParseCircuitUptoCardSaid : Prop := Claim7.holds Tryz.pinned (.plain (OpenSpec.upto fnExactParseCircuitSpec)) fnExactParseCircuitUptoCard
end Rows
end Go.Proofs.YtgpkpopbajkklaaGreatDoor
