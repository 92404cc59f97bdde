/-
  DERIVED. GIVEN WITH THE SEED: THE CARDS: each row of YtmmmakfmpopniaaDoorRows.lean that lists a variable, with what it lists TIED to the program's text (the seventh form; the later family's looks); each row that meets fmt, with fmt's text TOLD by the authors' own Lean function (tested against real Go, not proved from fmt's source: count such statements apart). THE CARD IS WHAT COUNTS. Prove the row's statement (the work); the ties are given (YtmmmakfmpopniaaDoorTie.lean); close each card by the builder's one call (the guide's Derived/Test/ToyasCard.lean, 'card_holds'). Laid BY PROGRAM, IN A SANDBOX (cutbox-door.mjs). By AI agents, Wed Nov 11 2026. No macro, syntax, notation, axiom, sorry.
-/
import Derived.Test.YtmmmakfmpopniaaDoorRows
import GoSem.ClaimSeven
namespace Go.Proofs.YtmmmakfmpopniaaDoor
namespace Rows

/-- THE TIED CARD OF 'corncriblaw06.ScanAll'. -/
def scanAllCard : Claim7 := { stood := { row := scanAllRow, standIns := [], harness := (true, "32953cb4b927b201c24e484029dd6841def156c7846a20512ed3a6cfcb4f9176"), looks := true }, kinds := [], alts := [], laidByText := true, laidKinds := [.handle], laidTests := true, laidLooks := .later }
def ScanAllCardSaid : Prop := Claim7.holds Tryd.pinned (.plain (OpenSpec.ofChange scanAllSpec)) scanAllCard

/-- THE TIED CARD OF 'corncriblaw06.ScanFrom'. -/
def scanFromCard : Claim7 := { stood := { row := scanFromRow, standIns := [], harness := (true, "32953cb4b927b201c24e484029dd6841def156c7846a20512ed3a6cfcb4f9176"), looks := true }, kinds := [], alts := [], laidByText := true, laidKinds := [.handle], laidTests := true, laidLooks := .later }
def ScanFromCardSaid : Prop := Claim7.holds Tryd.pinned (.plain (OpenSpec.ofChange scanFromSpec)) scanFromCard

/-- THE TIED CARD OF 'corncriblaw06.ScanMore'. -/
def scanMoreCard : Claim7 := { stood := { row := scanMoreRow, standIns := [], harness := (true, "32953cb4b927b201c24e484029dd6841def156c7846a20512ed3a6cfcb4f9176"), looks := true }, kinds := [], alts := [], laidByText := true, laidKinds := [.handle], laidTests := true, laidLooks := .later }
def ScanMoreCardSaid : Prop := Claim7.holds Tryd.pinned (.plain (OpenSpec.ofChange scanMoreSpec)) scanMoreCard

/-- THE TIED CARD OF 'corncriblaw06.ScanSuper'. -/
def scanSuperCard : Claim7 := { stood := { row := scanSuperRow, standIns := [], harness := (true, "32953cb4b927b201c24e484029dd6841def156c7846a20512ed3a6cfcb4f9176"), looks := true }, kinds := [], alts := [], laidByText := true, laidKinds := [.handle], laidTests := true, laidLooks := .later }
def ScanSuperCardSaid : Prop := Claim7.holds Tryd.pinned (.plain (OpenSpec.ofChange scanSuperSpec)) scanSuperCard

/-- THE SECOND FORM's CARD OF 'corncriblaw06.ScanAll'. -/
def scanAllUptoCard : Claim7 := { stood := { row := scanAllUptoRow, standIns := [], harness := (true, "32953cb4b927b201c24e484029dd6841def156c7846a20512ed3a6cfcb4f9176"), looks := true }, kinds := [], alts := [], laidByText := true, laidKinds := [.handle], laidTests := true, laidLooks := .later }
def ScanAllUptoCardSaid : Prop := Claim7.holds Tryd.pinned (.plain (OpenSpec.upto scanAllSpec)) scanAllUptoCard

/-- THE SECOND FORM's CARD OF 'corncriblaw06.ScanFrom'. -/
def scanFromUptoCard : Claim7 := { stood := { row := scanFromUptoRow, standIns := [], harness := (true, "32953cb4b927b201c24e484029dd6841def156c7846a20512ed3a6cfcb4f9176"), looks := true }, kinds := [], alts := [], laidByText := true, laidKinds := [.handle], laidTests := true, laidLooks := .later }
def ScanFromUptoCardSaid : Prop := Claim7.holds Tryd.pinned (.plain (OpenSpec.upto scanFromSpec)) scanFromUptoCard

/-- THE SECOND FORM's CARD OF 'corncriblaw06.ScanMore'. -/
def scanMoreUptoCard : Claim7 := { stood := { row := scanMoreUptoRow, standIns := [], harness := (true, "32953cb4b927b201c24e484029dd6841def156c7846a20512ed3a6cfcb4f9176"), looks := true }, kinds := [], alts := [], laidByText := true, laidKinds := [.handle], laidTests := true, laidLooks := .later }
def ScanMoreUptoCardSaid : Prop := Claim7.holds Tryd.pinned (.plain (OpenSpec.upto scanMoreSpec)) scanMoreUptoCard

/-- THE SECOND FORM's CARD OF 'corncriblaw06.ScanSuper'. -/
def scanSuperUptoCard : Claim7 := { stood := { row := scanSuperUptoRow, standIns := [], harness := (true, "32953cb4b927b201c24e484029dd6841def156c7846a20512ed3a6cfcb4f9176"), looks := true }, kinds := [], alts := [], laidByText := true, laidKinds := [.handle], laidTests := true, laidLooks := .later }
def ScanSuperUptoCardSaid : Prop := Claim7.holds Tryd.pinned (.plain (OpenSpec.upto scanSuperSpec)) scanSuperUptoCard
end Rows
end Go.Proofs.YtmmmakfmpopniaaDoor
