/-
  DERIVED. GIVEN WITH THE SEED: THE CARDS: each row of YtfigcncaadknlaaDoorRows.lean that lists a variable, with what it lists TIED to the program's text (the seventh form; the later family's looks); each row that meets fmt, with fmt's text TOLD by the authors' own Lean function (tested against real Go, not proved from fmt's source: count such statements apart). THE CARD IS WHAT COUNTS. Prove the row's statement (the work); the ties are given (YtfigcncaadknlaaDoorTie.lean); close each card by the builder's one call (the guide's Derived/Test/ToyasCard.lean, 'card_holds'). Laid BY PROGRAM, IN A SANDBOX (cutbox-door.mjs). By AI agents, Wed Nov 11 2026. No macro, syntax, notation, axiom, sorry.
-/
import Derived.Test.YtfigcncaadknlaaDoorRows
import GoSem.ClaimSeven
namespace Go.Proofs.YtfigcncaadknlaaDoor
namespace Rows

/-- THE TIED CARD OF 'souklaw02.BasisPoints'. -/
def basisPointsCard : Claim7 := { stood := { row := basisPointsRow, standIns := [], harness := (true, "411aa2efc704065d8c0bbf307c52dc754550b76e7a20d11f657700e01c47682f"), looks := false }, kinds := [], alts := [], laidByText := true, laidKinds := [.data, .data, .data], laidTests := true, laidLooks := .later }
def BasisPointsCardSaid : Prop := Claim7.holds Tryd.pinned (.plain (OpenSpec.ofChange basisPointsSpec)) basisPointsCard

/-- THE TIED CARD OF 'souklaw02.BasisRatios'. -/
def basisRatiosCard : Claim7 := { stood := { row := basisRatiosRow, standIns := [], harness := (true, "411aa2efc704065d8c0bbf307c52dc754550b76e7a20d11f657700e01c47682f"), looks := false }, kinds := [], alts := [], laidByText := true, laidKinds := [.data, .data, .data], laidTests := true, laidLooks := .later }
def BasisRatiosCardSaid : Prop := Claim7.holds Tryd.pinned (.plain (OpenSpec.ofChange basisRatiosSpec)) basisRatiosCard

/-- THE TIED CARD OF 'souklaw02.BasisOrder'. -/
def basisOrderCard : Claim7 := { stood := { row := basisOrderRow, standIns := [], harness := (true, "411aa2efc704065d8c0bbf307c52dc754550b76e7a20d11f657700e01c47682f"), looks := false }, kinds := [], alts := [], laidByText := true, laidKinds := [.data, .data, .data], laidTests := true, laidLooks := .later }
def BasisOrderCardSaid : Prop := Claim7.holds Tryd.pinned (.plain (OpenSpec.ofChange basisOrderSpec)) basisOrderCard

/-- THE SECOND FORM's CARD OF 'souklaw02.BasisPoints'. -/
def basisPointsUptoCard : Claim7 := { stood := { row := basisPointsUptoRow, standIns := [], harness := (true, "411aa2efc704065d8c0bbf307c52dc754550b76e7a20d11f657700e01c47682f"), looks := false }, kinds := [], alts := [], laidByText := true, laidKinds := [.data, .data, .data], laidTests := true, laidLooks := .later }
def BasisPointsUptoCardSaid : Prop := Claim7.holds Tryd.pinned (.plain (OpenSpec.upto basisPointsSpec)) basisPointsUptoCard

/-- THE SECOND FORM's CARD OF 'souklaw02.BasisRatios'. -/
def basisRatiosUptoCard : Claim7 := { stood := { row := basisRatiosUptoRow, standIns := [], harness := (true, "411aa2efc704065d8c0bbf307c52dc754550b76e7a20d11f657700e01c47682f"), looks := false }, kinds := [], alts := [], laidByText := true, laidKinds := [.data, .data, .data], laidTests := true, laidLooks := .later }
def BasisRatiosUptoCardSaid : Prop := Claim7.holds Tryd.pinned (.plain (OpenSpec.upto basisRatiosSpec)) basisRatiosUptoCard

/-- THE SECOND FORM's CARD OF 'souklaw02.BasisOrder'. -/
def basisOrderUptoCard : Claim7 := { stood := { row := basisOrderUptoRow, standIns := [], harness := (true, "411aa2efc704065d8c0bbf307c52dc754550b76e7a20d11f657700e01c47682f"), looks := false }, kinds := [], alts := [], laidByText := true, laidKinds := [.data, .data, .data], laidTests := true, laidLooks := .later }
def BasisOrderUptoCardSaid : Prop := Claim7.holds Tryd.pinned (.plain (OpenSpec.upto basisOrderSpec)) basisOrderUptoCard
end Rows
end Go.Proofs.YtfigcncaadknlaaDoor
