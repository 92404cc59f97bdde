/-
  DERIVED. GIVEN WITH THE SEED: THE CARDS: each row of YtcdlmpiihcopaaaDoorRows.lean that lists a variable, with what it lists TIED to the program's text (the seventh form; the later family's looks); each row that meets fmt, with fmt's text TOLD by the authors' own Lean function (tested against real Go, not proved from fmt's source: count such statements apart). THE CARD IS WHAT COUNTS. Prove the row's statement (the work); the ties are given (YtcdlmpiihcopaaaDoorTie.lean); close each card by the builder's one call (the guide's Derived/Test/ToyasCard.lean, 'card_holds'). Laid BY PROGRAM, IN A SANDBOX (cutbox-door.mjs). By AI agents, Wed Nov 11 2026. No macro, syntax, notation, axiom, sorry.
-/
import Derived.Test.YtcdlmpiihcopaaaDoorRows
import GoSem.ClaimSeven
namespace Go.Proofs.YtcdlmpiihcopaaaDoor
namespace Rows

/-- THE TIED CARD OF 'corncriblaw04.HeadsNames'. -/
def headsNamesCard : Claim7 := { stood := { row := headsNamesRow, standIns := [], harness := (true, "977451e2c7275e7a48d301441985c5b5ed868cdc4a5757951ee02f443f956804"), looks := true }, kinds := [], alts := [], laidByText := true, laidKinds := [.data, .data, .data], laidTests := true, laidLooks := .later }
def HeadsNamesCardSaid : Prop := Claim7.holds Tryd.pinned (.plain (OpenSpec.ofChange headsNamesSpec)) headsNamesCard

/-- THE TIED CARD OF 'corncriblaw04.HeadsPut'. -/
def headsPutCard : Claim7 := { stood := { row := headsPutRow, standIns := [], harness := (true, "977451e2c7275e7a48d301441985c5b5ed868cdc4a5757951ee02f443f956804"), looks := true }, kinds := [], alts := [], laidByText := true, laidKinds := [.data, .data, .data], laidTests := true, laidLooks := .later }
def HeadsPutCardSaid : Prop := Claim7.holds Tryd.pinned (.plain (OpenSpec.ofChange headsPutSpec)) headsPutCard

/-- THE TIED CARD OF 'corncriblaw04.HeadsGet'. -/
def headsGetCard : Claim7 := { stood := { row := headsGetRow, standIns := [], harness := (true, "977451e2c7275e7a48d301441985c5b5ed868cdc4a5757951ee02f443f956804"), looks := true }, kinds := [], alts := [], laidByText := true, laidKinds := [.data, .data, .data], laidTests := true, laidLooks := .later }
def HeadsGetCardSaid : Prop := Claim7.holds Tryd.pinned (.plain (OpenSpec.ofChange headsGetSpec)) headsGetCard

/-- THE TIED CARD OF 'corncriblaw04.HeadsBack'. -/
def headsBackCard : Claim7 := { stood := { row := headsBackRow, standIns := [], harness := (true, "977451e2c7275e7a48d301441985c5b5ed868cdc4a5757951ee02f443f956804"), looks := true }, kinds := [], alts := [], laidByText := true, laidKinds := [.data, .data, .data], laidTests := true, laidLooks := .later }
def HeadsBackCardSaid : Prop := Claim7.holds Tryd.pinned (.plain (OpenSpec.ofChange headsBackSpec)) headsBackCard

/-- THE TIED CARD OF 'corncriblaw04.HeadsKinds'. -/
def headsKindsCard : Claim7 := { stood := { row := headsKindsRow, standIns := [], harness := (true, "977451e2c7275e7a48d301441985c5b5ed868cdc4a5757951ee02f443f956804"), looks := true }, kinds := [], alts := [], laidByText := true, laidKinds := [.data, .data, .data], laidTests := true, laidLooks := .later }
def HeadsKindsCardSaid : Prop := Claim7.holds Tryd.pinned (.plain (OpenSpec.ofChange headsKindsSpec)) headsKindsCard

/-- THE SECOND FORM's CARD OF 'corncriblaw04.HeadsNames'. -/
def headsNamesUptoCard : Claim7 := { stood := { row := headsNamesUptoRow, standIns := [], harness := (true, "977451e2c7275e7a48d301441985c5b5ed868cdc4a5757951ee02f443f956804"), looks := true }, kinds := [], alts := [], laidByText := true, laidKinds := [.data, .data, .data], laidTests := true, laidLooks := .later }
def HeadsNamesUptoCardSaid : Prop := Claim7.holds Tryd.pinned (.plain (OpenSpec.upto headsNamesSpec)) headsNamesUptoCard

/-- THE SECOND FORM's CARD OF 'corncriblaw04.HeadsPut'. -/
def headsPutUptoCard : Claim7 := { stood := { row := headsPutUptoRow, standIns := [], harness := (true, "977451e2c7275e7a48d301441985c5b5ed868cdc4a5757951ee02f443f956804"), looks := true }, kinds := [], alts := [], laidByText := true, laidKinds := [.data, .data, .data], laidTests := true, laidLooks := .later }
def HeadsPutUptoCardSaid : Prop := Claim7.holds Tryd.pinned (.plain (OpenSpec.upto headsPutSpec)) headsPutUptoCard

/-- THE SECOND FORM's CARD OF 'corncriblaw04.HeadsGet'. -/
def headsGetUptoCard : Claim7 := { stood := { row := headsGetUptoRow, standIns := [], harness := (true, "977451e2c7275e7a48d301441985c5b5ed868cdc4a5757951ee02f443f956804"), looks := true }, kinds := [], alts := [], laidByText := true, laidKinds := [.data, .data, .data], laidTests := true, laidLooks := .later }
def HeadsGetUptoCardSaid : Prop := Claim7.holds Tryd.pinned (.plain (OpenSpec.upto headsGetSpec)) headsGetUptoCard

/-- THE SECOND FORM's CARD OF 'corncriblaw04.HeadsBack'. -/
def headsBackUptoCard : Claim7 := { stood := { row := headsBackUptoRow, standIns := [], harness := (true, "977451e2c7275e7a48d301441985c5b5ed868cdc4a5757951ee02f443f956804"), looks := true }, kinds := [], alts := [], laidByText := true, laidKinds := [.data, .data, .data], laidTests := true, laidLooks := .later }
def HeadsBackUptoCardSaid : Prop := Claim7.holds Tryd.pinned (.plain (OpenSpec.upto headsBackSpec)) headsBackUptoCard

/-- THE SECOND FORM's CARD OF 'corncriblaw04.HeadsKinds'. -/
def headsKindsUptoCard : Claim7 := { stood := { row := headsKindsUptoRow, standIns := [], harness := (true, "977451e2c7275e7a48d301441985c5b5ed868cdc4a5757951ee02f443f956804"), looks := true }, kinds := [], alts := [], laidByText := true, laidKinds := [.data, .data, .data], laidTests := true, laidLooks := .later }
def HeadsKindsUptoCardSaid : Prop := Claim7.holds Tryd.pinned (.plain (OpenSpec.upto headsKindsSpec)) headsKindsUptoCard
end Rows
end Go.Proofs.YtcdlmpiihcopaaaDoor
