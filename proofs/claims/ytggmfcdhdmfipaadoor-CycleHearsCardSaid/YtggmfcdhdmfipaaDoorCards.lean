/-
  DERIVED. GIVEN WITH THE SEED: THE CARDS: each row of YtggmfcdhdmfipaaDoorRows.lean that lists a variable, with what it lists TIED to the program's text (the seventh form; the later family's looks); each row that meets fmt, with fmt's text TOLD by the authors' own Lean function (tested against real Go, not proved from fmt's source: count such statements apart). THE CARD IS WHAT COUNTS. Prove the row's statement (the work); the ties are given (YtggmfcdhdmfipaaDoorTie.lean); close each card by the builder's one call (the guide's Derived/Test/ToyasCard.lean, 'card_holds'). Laid BY PROGRAM, IN A SANDBOX (cutbox-door.mjs). By AI agents, Wed Nov 11 2026. No macro, syntax, notation, axiom, sorry.
-/
import Derived.Test.YtggmfcdhdmfipaaDoorRows
import GoSem.ClaimSeven
namespace Go.Proofs.YtggmfcdhdmfipaaDoor
namespace Rows

/-- THE TIED CARD OF 'paybooklaw12.CycleHears'. -/
def cycleHearsCard : Claim7 := { stood := { row := cycleHearsRow, standIns := [], harness := (true, "5606b971c7f6c175f2947384a3481c6e7ff4a05ea6a9c2230a58fb5aeca1d2c4"), looks := false }, kinds := [], alts := [], laidByText := true, laidKinds := [.data], laidTests := true, laidLooks := .later }
def CycleHearsCardSaid : Prop := Claim7.holds Tryd.pinned (.plain (OpenSpec.ofChange cycleHearsSpec)) cycleHearsCard

/-- THE TIED CARD OF 'paybooklaw12.CycleEnds'. -/
def cycleEndsCard : Claim7 := { stood := { row := cycleEndsRow, standIns := [], harness := (true, "5606b971c7f6c175f2947384a3481c6e7ff4a05ea6a9c2230a58fb5aeca1d2c4"), looks := false }, kinds := [], alts := [], laidByText := true, laidKinds := [.data], laidTests := true, laidLooks := .later }
def CycleEndsCardSaid : Prop := Claim7.holds Tryd.pinned (.plain (OpenSpec.ofChange cycleEndsSpec)) cycleEndsCard

/-- THE TIED CARD OF 'paybooklaw12.CycleNames'. -/
def cycleNamesCard : Claim7 := { stood := { row := cycleNamesRow, standIns := [], harness := (true, "5606b971c7f6c175f2947384a3481c6e7ff4a05ea6a9c2230a58fb5aeca1d2c4"), looks := false }, kinds := [], alts := [], laidByText := true, laidKinds := [.data], laidTests := true, laidLooks := .later }
def CycleNamesCardSaid : Prop := Claim7.holds Tryd.pinned (.plain (OpenSpec.ofChange cycleNamesSpec)) cycleNamesCard

/-- THE SECOND FORM's CARD OF 'paybooklaw12.CycleHears'. -/
def cycleHearsUptoCard : Claim7 := { stood := { row := cycleHearsUptoRow, standIns := [], harness := (true, "5606b971c7f6c175f2947384a3481c6e7ff4a05ea6a9c2230a58fb5aeca1d2c4"), looks := false }, kinds := [], alts := [], laidByText := true, laidKinds := [.data], laidTests := true, laidLooks := .later }
def CycleHearsUptoCardSaid : Prop := Claim7.holds Tryd.pinned (.plain (OpenSpec.upto cycleHearsSpec)) cycleHearsUptoCard

/-- THE SECOND FORM's CARD OF 'paybooklaw12.CycleEnds'. -/
def cycleEndsUptoCard : Claim7 := { stood := { row := cycleEndsUptoRow, standIns := [], harness := (true, "5606b971c7f6c175f2947384a3481c6e7ff4a05ea6a9c2230a58fb5aeca1d2c4"), looks := false }, kinds := [], alts := [], laidByText := true, laidKinds := [.data], laidTests := true, laidLooks := .later }
def CycleEndsUptoCardSaid : Prop := Claim7.holds Tryd.pinned (.plain (OpenSpec.upto cycleEndsSpec)) cycleEndsUptoCard

/-- THE SECOND FORM's CARD OF 'paybooklaw12.CycleNames'. -/
def cycleNamesUptoCard : Claim7 := { stood := { row := cycleNamesUptoRow, standIns := [], harness := (true, "5606b971c7f6c175f2947384a3481c6e7ff4a05ea6a9c2230a58fb5aeca1d2c4"), looks := false }, kinds := [], alts := [], laidByText := true, laidKinds := [.data], laidTests := true, laidLooks := .later }
def CycleNamesUptoCardSaid : Prop := Claim7.holds Tryd.pinned (.plain (OpenSpec.upto cycleNamesSpec)) cycleNamesUptoCard
end Rows
end Go.Proofs.YtggmfcdhdmfipaaDoor
