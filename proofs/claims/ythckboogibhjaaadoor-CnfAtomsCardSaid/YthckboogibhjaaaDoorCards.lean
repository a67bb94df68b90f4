/-
  DERIVED. GIVEN WITH THE SEED: THE CARDS: each row of YthckboogibhjaaaDoorRows.lean that lists a variable, with what it lists TIED to the program's text (the seventh form; the later family's looks); each row that meets fmt, with fmt's text TOLD by the authors' own Lean function (tested against real Go, not proved from fmt's source: count such statements apart). THE CARD IS WHAT COUNTS. Prove the row's statement (the work); the ties are given (YthckboogibhjaaaDoorTie.lean); close each card by the builder's one call (the guide's Derived/Test/ToyasCard.lean, 'card_holds'). Laid BY PROGRAM, IN A SANDBOX (cutbox-door.mjs). By AI agents, Wed Nov 11 2026. No macro, syntax, notation, axiom, sorry.
-/
import Derived.Test.YthckboogibhjaaaDoorRows
import GoSem.ClaimSeven
namespace Go.Proofs.YthckboogibhjaaaDoor
namespace Rows

/-- THE TIED CARD OF 'ashlarlaw07.CnfTells'. -/
def cnfTellsCard : Claim7 := { stood := { row := cnfTellsRow, standIns := [], harness := (true, "ba3621b6cdfbff6cf5ff2684f4c8b145bef57948d7b7245fd41cd7a910a8fad4"), looks := false }, kinds := [], alts := [], laidByText := true, laidKinds := [.data, .pinned], laidTests := true, laidLooks := .later }
def CnfTellsCardSaid : Prop := Claim7.holds Tryd.pinned (.plain (OpenSpec.ofChange cnfTellsSpec)) cnfTellsCard

/-- THE TIED CARD OF 'ashlarlaw07.CnfMeans'. -/
def cnfMeansCard : Claim7 := { stood := { row := cnfMeansRow, standIns := [], harness := (true, "ba3621b6cdfbff6cf5ff2684f4c8b145bef57948d7b7245fd41cd7a910a8fad4"), looks := false }, kinds := [], alts := [], laidByText := true, laidKinds := [.data, .pinned], laidTests := true, laidLooks := .later }
def CnfMeansCardSaid : Prop := Claim7.holds Tryd.pinned (.plain (OpenSpec.ofChange cnfMeansSpec)) cnfMeansCard

/-- THE TIED CARD OF 'ashlarlaw07.CnfAtoms'. -/
def cnfAtomsCard : Claim7 := { stood := { row := cnfAtomsRow, standIns := [], harness := (true, "ba3621b6cdfbff6cf5ff2684f4c8b145bef57948d7b7245fd41cd7a910a8fad4"), looks := false }, kinds := [], alts := [], laidByText := true, laidKinds := [.data, .pinned], laidTests := true, laidLooks := .later }
def CnfAtomsCardSaid : Prop := Claim7.holds Tryd.pinned (.plain (OpenSpec.ofChange cnfAtomsSpec)) cnfAtomsCard

/-- THE TIED CARD OF 'ashlarlaw07.CnfNot'. -/
def cnfNotCard : Claim7 := { stood := { row := cnfNotRow, standIns := [], harness := (true, "ba3621b6cdfbff6cf5ff2684f4c8b145bef57948d7b7245fd41cd7a910a8fad4"), looks := false }, kinds := [], alts := [], laidByText := true, laidKinds := [.data, .pinned], laidTests := true, laidLooks := .later }
def CnfNotCardSaid : Prop := Claim7.holds Tryd.pinned (.plain (OpenSpec.ofChange cnfNotSpec)) cnfNotCard

/-- THE TIED CARD OF 'ashlarlaw07.CnfTwice'. -/
def cnfTwiceCard : Claim7 := { stood := { row := cnfTwiceRow, standIns := [], harness := (true, "ba3621b6cdfbff6cf5ff2684f4c8b145bef57948d7b7245fd41cd7a910a8fad4"), looks := false }, kinds := [], alts := [], laidByText := true, laidKinds := [.data, .pinned], laidTests := true, laidLooks := .later }
def CnfTwiceCardSaid : Prop := Claim7.holds Tryd.pinned (.plain (OpenSpec.ofChange cnfTwiceSpec)) cnfTwiceCard

/-- THE TIED CARD OF 'ashlarlaw07.CnfSizes'. -/
def cnfSizesCard : Claim7 := { stood := { row := cnfSizesRow, standIns := [], harness := (true, "ba3621b6cdfbff6cf5ff2684f4c8b145bef57948d7b7245fd41cd7a910a8fad4"), looks := false }, kinds := [], alts := [], laidByText := true, laidKinds := [.data, .pinned], laidTests := true, laidLooks := .later }
def CnfSizesCardSaid : Prop := Claim7.holds Tryd.pinned (.plain (OpenSpec.ofChange cnfSizesSpec)) cnfSizesCard

/-- THE SECOND FORM's CARD OF 'ashlarlaw07.CnfTells'. -/
def cnfTellsUptoCard : Claim7 := { stood := { row := cnfTellsUptoRow, standIns := [], harness := (true, "ba3621b6cdfbff6cf5ff2684f4c8b145bef57948d7b7245fd41cd7a910a8fad4"), looks := false }, kinds := [], alts := [], laidByText := true, laidKinds := [.data, .pinned], laidTests := true, laidLooks := .later }
def CnfTellsUptoCardSaid : Prop := Claim7.holds Tryd.pinned (.plain (OpenSpec.upto cnfTellsSpec)) cnfTellsUptoCard

/-- THE SECOND FORM's CARD OF 'ashlarlaw07.CnfMeans'. -/
def cnfMeansUptoCard : Claim7 := { stood := { row := cnfMeansUptoRow, standIns := [], harness := (true, "ba3621b6cdfbff6cf5ff2684f4c8b145bef57948d7b7245fd41cd7a910a8fad4"), looks := false }, kinds := [], alts := [], laidByText := true, laidKinds := [.data, .pinned], laidTests := true, laidLooks := .later }
def CnfMeansUptoCardSaid : Prop := Claim7.holds Tryd.pinned (.plain (OpenSpec.upto cnfMeansSpec)) cnfMeansUptoCard

/-- THE SECOND FORM's CARD OF 'ashlarlaw07.CnfAtoms'. -/
def cnfAtomsUptoCard : Claim7 := { stood := { row := cnfAtomsUptoRow, standIns := [], harness := (true, "ba3621b6cdfbff6cf5ff2684f4c8b145bef57948d7b7245fd41cd7a910a8fad4"), looks := false }, kinds := [], alts := [], laidByText := true, laidKinds := [.data, .pinned], laidTests := true, laidLooks := .later }
def CnfAtomsUptoCardSaid : Prop := Claim7.holds Tryd.pinned (.plain (OpenSpec.upto cnfAtomsSpec)) cnfAtomsUptoCard

/-- THE SECOND FORM's CARD OF 'ashlarlaw07.CnfNot'. -/
def cnfNotUptoCard : Claim7 := { stood := { row := cnfNotUptoRow, standIns := [], harness := (true, "ba3621b6cdfbff6cf5ff2684f4c8b145bef57948d7b7245fd41cd7a910a8fad4"), looks := false }, kinds := [], alts := [], laidByText := true, laidKinds := [.data, .pinned], laidTests := true, laidLooks := .later }
def CnfNotUptoCardSaid : Prop := Claim7.holds Tryd.pinned (.plain (OpenSpec.upto cnfNotSpec)) cnfNotUptoCard

/-- THE SECOND FORM's CARD OF 'ashlarlaw07.CnfTwice'. -/
def cnfTwiceUptoCard : Claim7 := { stood := { row := cnfTwiceUptoRow, standIns := [], harness := (true, "ba3621b6cdfbff6cf5ff2684f4c8b145bef57948d7b7245fd41cd7a910a8fad4"), looks := false }, kinds := [], alts := [], laidByText := true, laidKinds := [.data, .pinned], laidTests := true, laidLooks := .later }
def CnfTwiceUptoCardSaid : Prop := Claim7.holds Tryd.pinned (.plain (OpenSpec.upto cnfTwiceSpec)) cnfTwiceUptoCard

/-- THE SECOND FORM's CARD OF 'ashlarlaw07.CnfSizes'. -/
def cnfSizesUptoCard : Claim7 := { stood := { row := cnfSizesUptoRow, standIns := [], harness := (true, "ba3621b6cdfbff6cf5ff2684f4c8b145bef57948d7b7245fd41cd7a910a8fad4"), looks := false }, kinds := [], alts := [], laidByText := true, laidKinds := [.data, .pinned], laidTests := true, laidLooks := .later }
def CnfSizesUptoCardSaid : Prop := Claim7.holds Tryd.pinned (.plain (OpenSpec.upto cnfSizesSpec)) cnfSizesUptoCard
end Rows
end Go.Proofs.YthckboogibhjaaaDoor
