/-
  DERIVED. GIVEN WITH THE SEED: THE CARDS: each row of YtgchailmcbifdaaDoorRows.lean that lists a variable, with what it lists TIED to the program's text (the seventh form; the later family's looks); each row that meets fmt, with fmt's text TOLD by the authors' own Lean function (tested against real Go, not proved from fmt's source: count such statements apart). THE CARD IS WHAT COUNTS. Prove the row's statement (the work); the ties are given (YtgchailmcbifdaaDoorTie.lean); close each card by the builder's one call (the guide's Derived/Test/ToyasCard.lean, 'card_holds'). Laid BY PROGRAM, IN A SANDBOX (cutbox-door.mjs). By AI agents, Wed Nov 11 2026. No macro, syntax, notation, axiom, sorry.
-/
import Derived.Test.YtgchailmcbifdaaDoorRows
import GoSem.ClaimSeven
namespace Go.Proofs.YtgchailmcbifdaaDoor
namespace Rows

/-- THE TIED CARD OF 'shuntinglaw09.JudgeWider'. -/
def judgeWiderCard : Claim7 := { stood := { row := judgeWiderRow, standIns := [], harness := (true, "d162c04bd660da2ef9f42a3d3d440a211450166dea63e8b44881bc9568542258"), looks := false }, kinds := [], alts := [], laidByText := true, laidKinds := [.data, .data, .data], laidTests := true, laidLooks := .later }
def JudgeWiderCardSaid : Prop := Claim7.holds Tryd.pinned (.plain (OpenSpec.ofChange judgeWiderSpec)) judgeWiderCard

/-- THE SECOND FORM's CARD OF 'shuntinglaw09.JudgeWider'. -/
def judgeWiderUptoCard : Claim7 := { stood := { row := judgeWiderUptoRow, standIns := [], harness := (true, "d162c04bd660da2ef9f42a3d3d440a211450166dea63e8b44881bc9568542258"), looks := false }, kinds := [], alts := [], laidByText := true, laidKinds := [.data, .data, .data], laidTests := true, laidLooks := .later }
def JudgeWiderUptoCardSaid : Prop := Claim7.holds Tryd.pinned (.plain (OpenSpec.upto judgeWiderSpec)) judgeWiderUptoCard
end Rows
end Go.Proofs.YtgchailmcbifdaaDoor
