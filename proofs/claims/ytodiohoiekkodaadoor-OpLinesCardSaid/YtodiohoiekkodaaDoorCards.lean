/-
  DERIVED. GIVEN WITH THE SEED: THE CARDS: each row of YtodiohoiekkodaaDoorRows.lean that lists a variable, with what it lists TIED to the program's text (the seventh form; the later family's looks); each row that meets fmt, with fmt's text TOLD by the authors' own Lean function (tested against real Go, not proved from fmt's source: count such statements apart). THE CARD IS WHAT COUNTS. Prove the row's statement (the work); the ties are given (YtodiohoiekkodaaDoorTie.lean); close each card by the builder's one call (the guide's Derived/Test/ToyasCard.lean, 'card_holds'). Laid BY PROGRAM, IN A SANDBOX (cutbox-door.mjs). By AI agents, Wed Nov 11 2026. No macro, syntax, notation, axiom, sorry.
-/
import Derived.Test.YtodiohoiekkodaaDoorRows
import GoSem.ClaimSeven
namespace Go.Proofs.YtodiohoiekkodaaDoor
namespace Rows

/-- THE TIED CARD OF 'bellmanlaw19.OpLines'. -/
def opLinesCard : Claim7 := { stood := { row := opLinesRow, standIns := [], harness := (true, "e8279ef68f21cac350eb17164672003ca6825fd79bb3348a1d852b41fcadf7c1"), looks := true }, kinds := [], alts := [], laidByText := true, laidKinds := [.data, .data, .data, .data, .sentinel, .sentinel, .pinned], laidTests := true, laidLooks := .later }
def OpLinesCardSaid : Prop := Claim7.holds Tryd.pinned (.plain (OpenSpec.ofChange opLinesSpec)) opLinesCard

/-- THE TIED CARD OF 'bellmanlaw19.OpParses'. -/
def opParsesCard : Claim7 := { stood := { row := opParsesRow, standIns := [], harness := (true, "e8279ef68f21cac350eb17164672003ca6825fd79bb3348a1d852b41fcadf7c1"), looks := true }, kinds := [], alts := [], laidByText := true, laidKinds := [.data, .data, .data, .data, .sentinel, .sentinel, .pinned], laidTests := true, laidLooks := .later }
def OpParsesCardSaid : Prop := Claim7.holds Tryd.pinned (.plain (OpenSpec.ofChange opParsesSpec)) opParsesCard

/-- THE TIED CARD OF 'bellmanlaw27.RowsTell'. -/
def rowsTellCard : Claim7 := { stood := { row := rowsTellRow, standIns := [], harness := (true, "e8279ef68f21cac350eb17164672003ca6825fd79bb3348a1d852b41fcadf7c1"), looks := true }, kinds := [], alts := [], laidByText := true, laidKinds := [.data, .data, .data, .data, .sentinel, .sentinel, .pinned], laidTests := true, laidLooks := .later }
def RowsTellCardSaid : Prop := Claim7.holds Tryd.pinned (.plain (OpenSpec.ofChange rowsTellSpec)) rowsTellCard

/-- THE TIED CARD OF 'bellmanlaw27.RowsTake'. -/
def rowsTakeCard : Claim7 := { stood := { row := rowsTakeRow, standIns := [], harness := (true, "e8279ef68f21cac350eb17164672003ca6825fd79bb3348a1d852b41fcadf7c1"), looks := true }, kinds := [], alts := [], laidByText := true, laidKinds := [.data, .data, .data, .data, .sentinel, .sentinel, .pinned], laidTests := true, laidLooks := .later }
def RowsTakeCardSaid : Prop := Claim7.holds Tryd.pinned (.plain (OpenSpec.ofChange rowsTakeSpec)) rowsTakeCard

/-- THE TIED CARD OF 'bellmanlaw20.ScriptCuts'. -/
def scriptCutsCard : Claim7 := { stood := { row := scriptCutsRow, standIns := [], harness := (true, "e8279ef68f21cac350eb17164672003ca6825fd79bb3348a1d852b41fcadf7c1"), looks := true }, kinds := [], alts := [], laidByText := true, laidKinds := [.data, .data, .data, .data, .sentinel, .sentinel, .pinned], laidTests := true, laidLooks := .later }
def ScriptCutsCardSaid : Prop := Claim7.holds Tryd.pinned (.plain (OpenSpec.ofChange scriptCutsSpec)) scriptCutsCard

/-- THE SECOND FORM's CARD OF 'bellmanlaw19.OpLines'. -/
def opLinesUptoCard : Claim7 := { stood := { row := opLinesUptoRow, standIns := [], harness := (true, "e8279ef68f21cac350eb17164672003ca6825fd79bb3348a1d852b41fcadf7c1"), looks := true }, kinds := [], alts := [], laidByText := true, laidKinds := [.data, .data, .data, .data, .sentinel, .sentinel, .pinned], laidTests := true, laidLooks := .later }
def OpLinesUptoCardSaid : Prop := Claim7.holds Tryd.pinned (.plain (OpenSpec.upto opLinesSpec)) opLinesUptoCard

/-- THE SECOND FORM's CARD OF 'bellmanlaw19.OpParses'. -/
def opParsesUptoCard : Claim7 := { stood := { row := opParsesUptoRow, standIns := [], harness := (true, "e8279ef68f21cac350eb17164672003ca6825fd79bb3348a1d852b41fcadf7c1"), looks := true }, kinds := [], alts := [], laidByText := true, laidKinds := [.data, .data, .data, .data, .sentinel, .sentinel, .pinned], laidTests := true, laidLooks := .later }
def OpParsesUptoCardSaid : Prop := Claim7.holds Tryd.pinned (.plain (OpenSpec.upto opParsesSpec)) opParsesUptoCard

/-- THE SECOND FORM's CARD OF 'bellmanlaw27.RowsTell'. -/
def rowsTellUptoCard : Claim7 := { stood := { row := rowsTellUptoRow, standIns := [], harness := (true, "e8279ef68f21cac350eb17164672003ca6825fd79bb3348a1d852b41fcadf7c1"), looks := true }, kinds := [], alts := [], laidByText := true, laidKinds := [.data, .data, .data, .data, .sentinel, .sentinel, .pinned], laidTests := true, laidLooks := .later }
def RowsTellUptoCardSaid : Prop := Claim7.holds Tryd.pinned (.plain (OpenSpec.upto rowsTellSpec)) rowsTellUptoCard

/-- THE SECOND FORM's CARD OF 'bellmanlaw27.RowsTake'. -/
def rowsTakeUptoCard : Claim7 := { stood := { row := rowsTakeUptoRow, standIns := [], harness := (true, "e8279ef68f21cac350eb17164672003ca6825fd79bb3348a1d852b41fcadf7c1"), looks := true }, kinds := [], alts := [], laidByText := true, laidKinds := [.data, .data, .data, .data, .sentinel, .sentinel, .pinned], laidTests := true, laidLooks := .later }
def RowsTakeUptoCardSaid : Prop := Claim7.holds Tryd.pinned (.plain (OpenSpec.upto rowsTakeSpec)) rowsTakeUptoCard

/-- THE SECOND FORM's CARD OF 'bellmanlaw20.ScriptCuts'. -/
def scriptCutsUptoCard : Claim7 := { stood := { row := scriptCutsUptoRow, standIns := [], harness := (true, "e8279ef68f21cac350eb17164672003ca6825fd79bb3348a1d852b41fcadf7c1"), looks := true }, kinds := [], alts := [], laidByText := true, laidKinds := [.data, .data, .data, .data, .sentinel, .sentinel, .pinned], laidTests := true, laidLooks := .later }
def ScriptCutsUptoCardSaid : Prop := Claim7.holds Tryd.pinned (.plain (OpenSpec.upto scriptCutsSpec)) scriptCutsUptoCard
end Rows
end Go.Proofs.YtodiohoiekkodaaDoor
