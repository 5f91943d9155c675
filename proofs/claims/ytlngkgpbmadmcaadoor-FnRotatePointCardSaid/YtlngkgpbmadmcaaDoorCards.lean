/-
  DERIVED. GIVEN WITH THE SEED: THE CARDS: each row of YtlngkgpbmadmcaaDoorRows.lean that lists a variable, with what it lists TIED to the program's text (the seventh form; the later family's looks); each row that meets fmt, with fmt's text TOLD by the authors' own Lean function (tested against real Go, not proved from fmt's source: count such statements apart). THE CARD IS WHAT COUNTS. Prove the row's statement (the work); the ties are given (YtlngkgpbmadmcaaDoorTie.lean); close each card by the builder's one call (the guide's Derived/Test/ToyasCard.lean, 'card_holds'). Laid BY PROGRAM, IN A SANDBOX (cutbox-door.mjs). By AI agents, Wed Nov 11 2026. No macro, syntax, notation, axiom, sorry.
-/
import Derived.Test.YtlngkgpbmadmcaaDoorRows
import GoSem.ClaimSeven
namespace Go.Proofs.YtlngkgpbmadmcaaDoor
namespace Rows

/-- THE TIED CARD OF 'laws.FnExactSine'. -/
def fnExactSineCard : Claim7 := { stood := { row := fnExactSineRow, standIns := [], harness := (true, "ea8374f85c4f9e5ce2e7bf72290c1c4fbe94408adb395a757af16f730ae64a0b"), looks := false }, kinds := [], alts := [], laidByText := true, laidKinds := [.data, .data, .data], laidTests := true, laidLooks := .later }
def FnExactSineCardSaid : Prop := Claim7.holds Tryd.pinned (.plain (OpenSpec.ofChange fnExactSineSpec)) fnExactSineCard

/-- THE TIED CARD OF 'laws.FnExactCosine'. -/
def fnExactCosineCard : Claim7 := { stood := { row := fnExactCosineRow, standIns := [], harness := (true, "ea8374f85c4f9e5ce2e7bf72290c1c4fbe94408adb395a757af16f730ae64a0b"), looks := false }, kinds := [], alts := [], laidByText := true, laidKinds := [.data, .data, .data], laidTests := true, laidLooks := .later }
def FnExactCosineCardSaid : Prop := Claim7.holds Tryd.pinned (.plain (OpenSpec.ofChange fnExactCosineSpec)) fnExactCosineCard

/-- THE TIED CARD OF 'laws.FnSine'. -/
def fnSineCard : Claim7 := { stood := { row := fnSineRow, standIns := [], harness := (true, "ea8374f85c4f9e5ce2e7bf72290c1c4fbe94408adb395a757af16f730ae64a0b"), looks := false }, kinds := [], alts := [], laidByText := true, laidKinds := [.data, .data, .data], laidTests := true, laidLooks := .later }
def FnSineCardSaid : Prop := Claim7.holds Tryd.pinned (.plain (OpenSpec.ofChange fnSineSpec)) fnSineCard

/-- THE TIED CARD OF 'laws.FnCosine'. -/
def fnCosineCard : Claim7 := { stood := { row := fnCosineRow, standIns := [], harness := (true, "ea8374f85c4f9e5ce2e7bf72290c1c4fbe94408adb395a757af16f730ae64a0b"), looks := false }, kinds := [], alts := [], laidByText := true, laidKinds := [.data, .data, .data], laidTests := true, laidLooks := .later }
def FnCosineCardSaid : Prop := Claim7.holds Tryd.pinned (.plain (OpenSpec.ofChange fnCosineSpec)) fnCosineCard

/-- THE TIED CARD OF 'laws.FnExactRotatePoint'. -/
def fnExactRotatePointCard : Claim7 := { stood := { row := fnExactRotatePointRow, standIns := [], harness := (true, "ea8374f85c4f9e5ce2e7bf72290c1c4fbe94408adb395a757af16f730ae64a0b"), looks := false }, kinds := [], alts := [], laidByText := true, laidKinds := [.data, .data, .data], laidTests := true, laidLooks := .later }
def FnExactRotatePointCardSaid : Prop := Claim7.holds Tryd.pinned (.plain (OpenSpec.ofChange fnExactRotatePointSpec)) fnExactRotatePointCard

/-- THE TIED CARD OF 'laws.FnRotatePoint'. -/
def fnRotatePointCard : Claim7 := { stood := { row := fnRotatePointRow, standIns := [], harness := (true, "ea8374f85c4f9e5ce2e7bf72290c1c4fbe94408adb395a757af16f730ae64a0b"), looks := false }, kinds := [], alts := [], laidByText := true, laidKinds := [.data, .data, .data], laidTests := true, laidLooks := .later }
def FnRotatePointCardSaid : Prop := Claim7.holds Tryd.pinned (.plain (OpenSpec.ofChange fnRotatePointSpec)) fnRotatePointCard

/-- THE TIED CARD OF 'laws.FnExactDirectionOf'. -/
def fnExactDirectionOfCard : Claim7 := { stood := { row := fnExactDirectionOfRow, standIns := [], harness := (true, "ea8374f85c4f9e5ce2e7bf72290c1c4fbe94408adb395a757af16f730ae64a0b"), looks := false }, kinds := [], alts := [], laidByText := true, laidKinds := [.data, .data, .data], laidTests := true, laidLooks := .later }
def FnExactDirectionOfCardSaid : Prop := Claim7.holds Tryd.pinned (.plain (OpenSpec.ofChange fnExactDirectionOfSpec)) fnExactDirectionOfCard

/-- THE TIED CARD OF 'laws.FnDirectionOf'. -/
def fnDirectionOfCard : Claim7 := { stood := { row := fnDirectionOfRow, standIns := [], harness := (true, "ea8374f85c4f9e5ce2e7bf72290c1c4fbe94408adb395a757af16f730ae64a0b"), looks := false }, kinds := [], alts := [], laidByText := true, laidKinds := [.data, .data, .data], laidTests := true, laidLooks := .later }
def FnDirectionOfCardSaid : Prop := Claim7.holds Tryd.pinned (.plain (OpenSpec.ofChange fnDirectionOfSpec)) fnDirectionOfCard

/-- THE SECOND FORM's CARD OF 'laws.FnExactSine'. -/
def fnExactSineUptoCard : Claim7 := { stood := { row := fnExactSineUptoRow, standIns := [], harness := (true, "ea8374f85c4f9e5ce2e7bf72290c1c4fbe94408adb395a757af16f730ae64a0b"), looks := false }, kinds := [], alts := [], laidByText := true, laidKinds := [.data, .data, .data], laidTests := true, laidLooks := .later }
def FnExactSineUptoCardSaid : Prop := Claim7.holds Tryd.pinned (.plain (OpenSpec.upto fnExactSineSpec)) fnExactSineUptoCard

/-- THE SECOND FORM's CARD OF 'laws.FnExactCosine'. -/
def fnExactCosineUptoCard : Claim7 := { stood := { row := fnExactCosineUptoRow, standIns := [], harness := (true, "ea8374f85c4f9e5ce2e7bf72290c1c4fbe94408adb395a757af16f730ae64a0b"), looks := false }, kinds := [], alts := [], laidByText := true, laidKinds := [.data, .data, .data], laidTests := true, laidLooks := .later }
def FnExactCosineUptoCardSaid : Prop := Claim7.holds Tryd.pinned (.plain (OpenSpec.upto fnExactCosineSpec)) fnExactCosineUptoCard

/-- THE SECOND FORM's CARD OF 'laws.FnSine'. -/
def fnSineUptoCard : Claim7 := { stood := { row := fnSineUptoRow, standIns := [], harness := (true, "ea8374f85c4f9e5ce2e7bf72290c1c4fbe94408adb395a757af16f730ae64a0b"), looks := false }, kinds := [], alts := [], laidByText := true, laidKinds := [.data, .data, .data], laidTests := true, laidLooks := .later }
def FnSineUptoCardSaid : Prop := Claim7.holds Tryd.pinned (.plain (OpenSpec.upto fnSineSpec)) fnSineUptoCard

/-- THE SECOND FORM's CARD OF 'laws.FnCosine'. -/
def fnCosineUptoCard : Claim7 := { stood := { row := fnCosineUptoRow, standIns := [], harness := (true, "ea8374f85c4f9e5ce2e7bf72290c1c4fbe94408adb395a757af16f730ae64a0b"), looks := false }, kinds := [], alts := [], laidByText := true, laidKinds := [.data, .data, .data], laidTests := true, laidLooks := .later }
def FnCosineUptoCardSaid : Prop := Claim7.holds Tryd.pinned (.plain (OpenSpec.upto fnCosineSpec)) fnCosineUptoCard

/-- THE SECOND FORM's CARD OF 'laws.FnExactRotatePoint'. -/
def fnExactRotatePointUptoCard : Claim7 := { stood := { row := fnExactRotatePointUptoRow, standIns := [], harness := (true, "ea8374f85c4f9e5ce2e7bf72290c1c4fbe94408adb395a757af16f730ae64a0b"), looks := false }, kinds := [], alts := [], laidByText := true, laidKinds := [.data, .data, .data], laidTests := true, laidLooks := .later }
def FnExactRotatePointUptoCardSaid : Prop := Claim7.holds Tryd.pinned (.plain (OpenSpec.upto fnExactRotatePointSpec)) fnExactRotatePointUptoCard

/-- THE SECOND FORM's CARD OF 'laws.FnRotatePoint'. -/
def fnRotatePointUptoCard : Claim7 := { stood := { row := fnRotatePointUptoRow, standIns := [], harness := (true, "ea8374f85c4f9e5ce2e7bf72290c1c4fbe94408adb395a757af16f730ae64a0b"), looks := false }, kinds := [], alts := [], laidByText := true, laidKinds := [.data, .data, .data], laidTests := true, laidLooks := .later }
def FnRotatePointUptoCardSaid : Prop := Claim7.holds Tryd.pinned (.plain (OpenSpec.upto fnRotatePointSpec)) fnRotatePointUptoCard

/-- THE SECOND FORM's CARD OF 'laws.FnExactDirectionOf'. -/
def fnExactDirectionOfUptoCard : Claim7 := { stood := { row := fnExactDirectionOfUptoRow, standIns := [], harness := (true, "ea8374f85c4f9e5ce2e7bf72290c1c4fbe94408adb395a757af16f730ae64a0b"), looks := false }, kinds := [], alts := [], laidByText := true, laidKinds := [.data, .data, .data], laidTests := true, laidLooks := .later }
def FnExactDirectionOfUptoCardSaid : Prop := Claim7.holds Tryd.pinned (.plain (OpenSpec.upto fnExactDirectionOfSpec)) fnExactDirectionOfUptoCard

/-- THE SECOND FORM's CARD OF 'laws.FnDirectionOf'. -/
def fnDirectionOfUptoCard : Claim7 := { stood := { row := fnDirectionOfUptoRow, standIns := [], harness := (true, "ea8374f85c4f9e5ce2e7bf72290c1c4fbe94408adb395a757af16f730ae64a0b"), looks := false }, kinds := [], alts := [], laidByText := true, laidKinds := [.data, .data, .data], laidTests := true, laidLooks := .later }
def FnDirectionOfUptoCardSaid : Prop := Claim7.holds Tryd.pinned (.plain (OpenSpec.upto fnDirectionOfSpec)) fnDirectionOfUptoCard
end Rows
end Go.Proofs.YtlngkgpbmadmcaaDoor
