/-
  DERIVED. GIVEN WITH THE SEED: THE CARDS: each row of YtadlbegecgpaaaaDoorRows.lean that lists a variable, with what it lists TIED to the program's text (the seventh form; the later family's looks); each row that meets fmt, with fmt's text TOLD by the authors' own Lean function (tested against real Go, not proved from fmt's source: count such statements apart). THE CARD IS WHAT COUNTS. Prove the row's statement (the work); the ties are given (YtadlbegecgpaaaaDoorTie.lean); close each card by the builder's one call (the guide's Derived/Test/ToyasCard.lean, 'card_holds'). Laid BY PROGRAM, IN A SANDBOX (cutbox-door.mjs). By AI agents, Wed Nov 11 2026. No macro, syntax, notation, axiom, sorry.
-/
import Derived.Test.YtadlbegecgpaaaaDoorRows
import GoSem.ClaimSeven
namespace Go.Proofs.YtadlbegecgpaaaaDoor
namespace Rows

/-- THE TIED CARD OF 'sorrellaw07.EnvSets'. -/
def envSetsCard : Claim7 := { stood := { row := envSetsRow, standIns := [], harness := (true, "5db11033485b865913586ce855026d20401384c4d1e6ce605d44c058dd23d4f1"), looks := true }, kinds := [], alts := [], laidByText := true, laidKinds := [.data, .data], laidTests := true, laidLooks := .later }
def EnvSetsCardSaid : Prop := Claim7.holds Tryd.pinned (.plain (OpenSpec.ofChange envSetsSpec)) envSetsCard

/-- THE TIED CARD OF 'sorrellaw07.EnvReads'. -/
def envReadsCard : Claim7 := { stood := { row := envReadsRow, standIns := [], harness := (true, "5db11033485b865913586ce855026d20401384c4d1e6ce605d44c058dd23d4f1"), looks := true }, kinds := [], alts := [], laidByText := true, laidKinds := [.data, .data, .data, .pinned], laidTests := true, laidLooks := .later }
def EnvReadsCardSaid : Prop := Claim7.holds Tryd.pinned (.plain (OpenSpec.ofChange envReadsSpec)) envReadsCard

/-- THE TIED CARD OF 'sorrellaw07.EnvPlays'. -/
def envPlaysCard : Claim7 := { stood := { row := envPlaysRow, standIns := [], harness := (true, "5db11033485b865913586ce855026d20401384c4d1e6ce605d44c058dd23d4f1"), looks := true }, kinds := [], alts := [], laidByText := true, laidKinds := [.data, .data, .data, .data, .data], laidTests := true, laidLooks := .later }
def EnvPlaysCardSaid : Prop := Claim7.holds Tryd.pinned (.plain (OpenSpec.ofChange envPlaysSpec)) envPlaysCard

/-- THE TIED CARD OF 'sorrellaw04.ParseBrackets'. -/
def parseBracketsCard : Claim7 := { stood := { row := parseBracketsRow, standIns := [], harness := (true, "5db11033485b865913586ce855026d20401384c4d1e6ce605d44c058dd23d4f1"), looks := true }, kinds := [], alts := [], laidByText := true, laidKinds := [.data, .data, .data, .pinned], laidTests := true, laidLooks := .later }
def ParseBracketsCardSaid : Prop := Claim7.holds Tryd.pinned (.plain (OpenSpec.ofChange parseBracketsSpec)) parseBracketsCard

/-- THE TIED CARD OF 'sorrellaw04.ParseJoins'. -/
def parseJoinsCard : Claim7 := { stood := { row := parseJoinsRow, standIns := [], harness := (true, "5db11033485b865913586ce855026d20401384c4d1e6ce605d44c058dd23d4f1"), looks := true }, kinds := [], alts := [], laidByText := true, laidKinds := [.data, .data, .data, .pinned], laidTests := true, laidLooks := .later }
def ParseJoinsCardSaid : Prop := Claim7.holds Tryd.pinned (.plain (OpenSpec.ofChange parseJoinsSpec)) parseJoinsCard

/-- THE TIED CARD OF 'sorrellaw04.ParsePlays'. -/
def parsePlaysCard : Claim7 := { stood := { row := parsePlaysRow, standIns := [], harness := (true, "5db11033485b865913586ce855026d20401384c4d1e6ce605d44c058dd23d4f1"), looks := true }, kinds := [], alts := [], laidByText := true, laidKinds := [.data, .data, .data, .pinned], laidTests := true, laidLooks := .later }
def ParsePlaysCardSaid : Prop := Claim7.holds Tryd.pinned (.plain (OpenSpec.ofChange parsePlaysSpec)) parsePlaysCard

/-- THE TIED CARD OF 'sorrellaw04.ParseWrites'. -/
def parseWritesCard : Claim7 := { stood := { row := parseWritesRow, standIns := [], harness := (true, "5db11033485b865913586ce855026d20401384c4d1e6ce605d44c058dd23d4f1"), looks := true }, kinds := [], alts := [], laidByText := true, laidKinds := [.data, .data, .data, .pinned], laidTests := true, laidLooks := .later }
def ParseWritesCardSaid : Prop := Claim7.holds Tryd.pinned (.plain (OpenSpec.ofChange parseWritesSpec)) parseWritesCard

/-- THE TIED CARD OF 'sorrellaw04.ParseSpelled'. -/
def parseSpelledCard : Claim7 := { stood := { row := parseSpelledRow, standIns := [], harness := (true, "5db11033485b865913586ce855026d20401384c4d1e6ce605d44c058dd23d4f1"), looks := true }, kinds := [], alts := [], laidByText := true, laidKinds := [.data, .data, .data, .pinned], laidTests := true, laidLooks := .later }
def ParseSpelledCardSaid : Prop := Claim7.holds Tryd.pinned (.plain (OpenSpec.ofChange parseSpelledSpec)) parseSpelledCard

/-- THE TIED CARD OF 'sorrellaw04.ParseKeeps'. -/
def parseKeepsCard : Claim7 := { stood := { row := parseKeepsRow, standIns := [], harness := (true, "5db11033485b865913586ce855026d20401384c4d1e6ce605d44c058dd23d4f1"), looks := true }, kinds := [], alts := [], laidByText := true, laidKinds := [.data, .data, .data, .pinned], laidTests := true, laidLooks := .later }
def ParseKeepsCardSaid : Prop := Claim7.holds Tryd.pinned (.plain (OpenSpec.ofChange parseKeepsSpec)) parseKeepsCard

/-- THE TIED CARD OF 'sorrellaw07.EnvBack'. -/
def envBackCard : Claim7 := { stood := { row := envBackRow, standIns := [], harness := (true, "5db11033485b865913586ce855026d20401384c4d1e6ce605d44c058dd23d4f1"), looks := true }, kinds := [], alts := [], laidByText := true, laidKinds := [.data, .data, .data, .data, .data, .data, .pinned], laidTests := true, laidLooks := .later }
def EnvBackCardSaid : Prop := Claim7.holds Tryd.pinned (.plain (OpenSpec.ofChange envBackSpec)) envBackCard

/-- THE TIED CARD OF 'sorrellaw07.EnvKeeps'. -/
def envKeepsCard : Claim7 := { stood := { row := envKeepsRow, standIns := [], harness := (true, "5db11033485b865913586ce855026d20401384c4d1e6ce605d44c058dd23d4f1"), looks := true }, kinds := [], alts := [], laidByText := true, laidKinds := [.data, .data, .data, .data, .data, .data, .pinned], laidTests := true, laidLooks := .later }
def EnvKeepsCardSaid : Prop := Claim7.holds Tryd.pinned (.plain (OpenSpec.ofChange envKeepsSpec)) envKeepsCard

/-- THE SECOND FORM's CARD OF 'sorrellaw07.EnvSets'. -/
def envSetsUptoCard : Claim7 := { stood := { row := envSetsUptoRow, standIns := [], harness := (true, "5db11033485b865913586ce855026d20401384c4d1e6ce605d44c058dd23d4f1"), looks := true }, kinds := [], alts := [], laidByText := true, laidKinds := [.data, .data], laidTests := true, laidLooks := .later }
def EnvSetsUptoCardSaid : Prop := Claim7.holds Tryd.pinned (.plain (OpenSpec.upto envSetsSpec)) envSetsUptoCard

/-- THE SECOND FORM's CARD OF 'sorrellaw07.EnvReads'. -/
def envReadsUptoCard : Claim7 := { stood := { row := envReadsUptoRow, standIns := [], harness := (true, "5db11033485b865913586ce855026d20401384c4d1e6ce605d44c058dd23d4f1"), looks := true }, kinds := [], alts := [], laidByText := true, laidKinds := [.data, .data, .data, .pinned], laidTests := true, laidLooks := .later }
def EnvReadsUptoCardSaid : Prop := Claim7.holds Tryd.pinned (.plain (OpenSpec.upto envReadsSpec)) envReadsUptoCard

/-- THE SECOND FORM's CARD OF 'sorrellaw07.EnvPlays'. -/
def envPlaysUptoCard : Claim7 := { stood := { row := envPlaysUptoRow, standIns := [], harness := (true, "5db11033485b865913586ce855026d20401384c4d1e6ce605d44c058dd23d4f1"), looks := true }, kinds := [], alts := [], laidByText := true, laidKinds := [.data, .data, .data, .data, .data], laidTests := true, laidLooks := .later }
def EnvPlaysUptoCardSaid : Prop := Claim7.holds Tryd.pinned (.plain (OpenSpec.upto envPlaysSpec)) envPlaysUptoCard

/-- THE SECOND FORM's CARD OF 'sorrellaw04.ParseBrackets'. -/
def parseBracketsUptoCard : Claim7 := { stood := { row := parseBracketsUptoRow, standIns := [], harness := (true, "5db11033485b865913586ce855026d20401384c4d1e6ce605d44c058dd23d4f1"), looks := true }, kinds := [], alts := [], laidByText := true, laidKinds := [.data, .data, .data, .pinned], laidTests := true, laidLooks := .later }
def ParseBracketsUptoCardSaid : Prop := Claim7.holds Tryd.pinned (.plain (OpenSpec.upto parseBracketsSpec)) parseBracketsUptoCard

/-- THE SECOND FORM's CARD OF 'sorrellaw04.ParseJoins'. -/
def parseJoinsUptoCard : Claim7 := { stood := { row := parseJoinsUptoRow, standIns := [], harness := (true, "5db11033485b865913586ce855026d20401384c4d1e6ce605d44c058dd23d4f1"), looks := true }, kinds := [], alts := [], laidByText := true, laidKinds := [.data, .data, .data, .pinned], laidTests := true, laidLooks := .later }
def ParseJoinsUptoCardSaid : Prop := Claim7.holds Tryd.pinned (.plain (OpenSpec.upto parseJoinsSpec)) parseJoinsUptoCard

/-- THE SECOND FORM's CARD OF 'sorrellaw04.ParsePlays'. -/
def parsePlaysUptoCard : Claim7 := { stood := { row := parsePlaysUptoRow, standIns := [], harness := (true, "5db11033485b865913586ce855026d20401384c4d1e6ce605d44c058dd23d4f1"), looks := true }, kinds := [], alts := [], laidByText := true, laidKinds := [.data, .data, .data, .pinned], laidTests := true, laidLooks := .later }
def ParsePlaysUptoCardSaid : Prop := Claim7.holds Tryd.pinned (.plain (OpenSpec.upto parsePlaysSpec)) parsePlaysUptoCard

/-- THE SECOND FORM's CARD OF 'sorrellaw04.ParseWrites'. -/
def parseWritesUptoCard : Claim7 := { stood := { row := parseWritesUptoRow, standIns := [], harness := (true, "5db11033485b865913586ce855026d20401384c4d1e6ce605d44c058dd23d4f1"), looks := true }, kinds := [], alts := [], laidByText := true, laidKinds := [.data, .data, .data, .pinned], laidTests := true, laidLooks := .later }
def ParseWritesUptoCardSaid : Prop := Claim7.holds Tryd.pinned (.plain (OpenSpec.upto parseWritesSpec)) parseWritesUptoCard

/-- THE SECOND FORM's CARD OF 'sorrellaw04.ParseSpelled'. -/
def parseSpelledUptoCard : Claim7 := { stood := { row := parseSpelledUptoRow, standIns := [], harness := (true, "5db11033485b865913586ce855026d20401384c4d1e6ce605d44c058dd23d4f1"), looks := true }, kinds := [], alts := [], laidByText := true, laidKinds := [.data, .data, .data, .pinned], laidTests := true, laidLooks := .later }
def ParseSpelledUptoCardSaid : Prop := Claim7.holds Tryd.pinned (.plain (OpenSpec.upto parseSpelledSpec)) parseSpelledUptoCard

/-- THE SECOND FORM's CARD OF 'sorrellaw04.ParseKeeps'. -/
def parseKeepsUptoCard : Claim7 := { stood := { row := parseKeepsUptoRow, standIns := [], harness := (true, "5db11033485b865913586ce855026d20401384c4d1e6ce605d44c058dd23d4f1"), looks := true }, kinds := [], alts := [], laidByText := true, laidKinds := [.data, .data, .data, .pinned], laidTests := true, laidLooks := .later }
def ParseKeepsUptoCardSaid : Prop := Claim7.holds Tryd.pinned (.plain (OpenSpec.upto parseKeepsSpec)) parseKeepsUptoCard

/-- THE SECOND FORM's CARD OF 'sorrellaw07.EnvBack'. -/
def envBackUptoCard : Claim7 := { stood := { row := envBackUptoRow, standIns := [], harness := (true, "5db11033485b865913586ce855026d20401384c4d1e6ce605d44c058dd23d4f1"), looks := true }, kinds := [], alts := [], laidByText := true, laidKinds := [.data, .data, .data, .data, .data, .data, .pinned], laidTests := true, laidLooks := .later }
def EnvBackUptoCardSaid : Prop := Claim7.holds Tryd.pinned (.plain (OpenSpec.upto envBackSpec)) envBackUptoCard

/-- THE SECOND FORM's CARD OF 'sorrellaw07.EnvKeeps'. -/
def envKeepsUptoCard : Claim7 := { stood := { row := envKeepsUptoRow, standIns := [], harness := (true, "5db11033485b865913586ce855026d20401384c4d1e6ce605d44c058dd23d4f1"), looks := true }, kinds := [], alts := [], laidByText := true, laidKinds := [.data, .data, .data, .data, .data, .data, .pinned], laidTests := true, laidLooks := .later }
def EnvKeepsUptoCardSaid : Prop := Claim7.holds Tryd.pinned (.plain (OpenSpec.upto envKeepsSpec)) envKeepsUptoCard
end Rows
end Go.Proofs.YtadlbegecgpaaaaDoor
