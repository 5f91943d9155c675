/-
  DERIVED. GIVEN WITH THE SEED: THE CARDS: each row of YtegmhflbndnadaaDoorRows.lean that lists a variable, with what it lists TIED to the program's text (the seventh form; the later family's looks); each row that meets fmt, with fmt's text TOLD by the authors' own Lean function (tested against real Go, not proved from fmt's source: count such statements apart). THE CARD IS WHAT COUNTS. Prove the row's statement (the work); the ties are given (YtegmhflbndnadaaDoorTie.lean); close each card by the builder's one call (the guide's Derived/Test/ToyasCard.lean, 'card_holds'). Laid BY PROGRAM, IN A SANDBOX (cutbox-door.mjs). By AI agents, Wed Nov 11 2026. No macro, syntax, notation, axiom, sorry.
-/
import Derived.Test.YtegmhflbndnadaaDoorRows
import GoSem.ClaimSeven
namespace Go.Proofs.YtegmhflbndnadaaDoor
namespace Rows

/-- THE TIED CARD OF 'laws.FnExactTipOf'. -/
def fnExactTipOfCard : Claim7 := { stood := { row := fnExactTipOfRow, standIns := [], harness := (true, "03f185bd6a0039b5c2354483eb655e47d0847bbe158a00b79e0488207aa63ddd"), looks := false }, kinds := [], alts := [], laidByText := true, laidKinds := [.data, .data, .data], laidTests := true, laidLooks := .later }
def FnExactTipOfCardSaid : Prop := Claim7.holds Tryd.pinned (.plain (OpenSpec.ofChange fnExactTipOfSpec)) fnExactTipOfCard

/-- THE TIED CARD OF 'laws.FnTipOf'. -/
def fnTipOfCard : Claim7 := { stood := { row := fnTipOfRow, standIns := [], harness := (true, "03f185bd6a0039b5c2354483eb655e47d0847bbe158a00b79e0488207aa63ddd"), looks := false }, kinds := [], alts := [], laidByText := true, laidKinds := [.data, .data, .data], laidTests := true, laidLooks := .later }
def FnTipOfCardSaid : Prop := Claim7.holds Tryd.pinned (.plain (OpenSpec.ofChange fnTipOfSpec)) fnTipOfCard

/-- THE TIED CARD OF 'laws.FnExactArmPoints'. -/
def fnExactArmPointsCard : Claim7 := { stood := { row := fnExactArmPointsRow, standIns := [], harness := (true, "03f185bd6a0039b5c2354483eb655e47d0847bbe158a00b79e0488207aa63ddd"), looks := false }, kinds := [], alts := [], laidByText := true, laidKinds := [.data, .data, .data], laidTests := true, laidLooks := .later }
def FnExactArmPointsCardSaid : Prop := Claim7.holds Tryd.pinned (.plain (OpenSpec.ofChange fnExactArmPointsSpec)) fnExactArmPointsCard

/-- THE TIED CARD OF 'laws.FnArmPoints'. -/
def fnArmPointsCard : Claim7 := { stood := { row := fnArmPointsRow, standIns := [], harness := (true, "03f185bd6a0039b5c2354483eb655e47d0847bbe158a00b79e0488207aa63ddd"), looks := false }, kinds := [], alts := [], laidByText := true, laidKinds := [.data, .data, .data], laidTests := true, laidLooks := .later }
def FnArmPointsCardSaid : Prop := Claim7.holds Tryd.pinned (.plain (OpenSpec.ofChange fnArmPointsSpec)) fnArmPointsCard

/-- THE TIED CARD OF 'laws.FnExactStepJoints'. -/
def fnExactStepJointsCard : Claim7 := { stood := { row := fnExactStepJointsRow, standIns := [], harness := (true, "03f185bd6a0039b5c2354483eb655e47d0847bbe158a00b79e0488207aa63ddd"), looks := false }, kinds := [], alts := [], laidByText := true, laidKinds := [.data, .data, .data], laidTests := true, laidLooks := .later }
def FnExactStepJointsCardSaid : Prop := Claim7.holds Tryd.pinned (.plain (OpenSpec.ofChange fnExactStepJointsSpec)) fnExactStepJointsCard

/-- THE TIED CARD OF 'laws.FnStepJoints'. -/
def fnStepJointsCard : Claim7 := { stood := { row := fnStepJointsRow, standIns := [], harness := (true, "03f185bd6a0039b5c2354483eb655e47d0847bbe158a00b79e0488207aa63ddd"), looks := false }, kinds := [], alts := [], laidByText := true, laidKinds := [.data, .data, .data], laidTests := true, laidLooks := .later }
def FnStepJointsCardSaid : Prop := Claim7.holds Tryd.pinned (.plain (OpenSpec.ofChange fnStepJointsSpec)) fnStepJointsCard

/-- THE SECOND FORM's CARD OF 'laws.FnExactTipOf'. -/
def fnExactTipOfUptoCard : Claim7 := { stood := { row := fnExactTipOfUptoRow, standIns := [], harness := (true, "03f185bd6a0039b5c2354483eb655e47d0847bbe158a00b79e0488207aa63ddd"), looks := false }, kinds := [], alts := [], laidByText := true, laidKinds := [.data, .data, .data], laidTests := true, laidLooks := .later }
def FnExactTipOfUptoCardSaid : Prop := Claim7.holds Tryd.pinned (.plain (OpenSpec.upto fnExactTipOfSpec)) fnExactTipOfUptoCard

/-- THE SECOND FORM's CARD OF 'laws.FnTipOf'. -/
def fnTipOfUptoCard : Claim7 := { stood := { row := fnTipOfUptoRow, standIns := [], harness := (true, "03f185bd6a0039b5c2354483eb655e47d0847bbe158a00b79e0488207aa63ddd"), looks := false }, kinds := [], alts := [], laidByText := true, laidKinds := [.data, .data, .data], laidTests := true, laidLooks := .later }
def FnTipOfUptoCardSaid : Prop := Claim7.holds Tryd.pinned (.plain (OpenSpec.upto fnTipOfSpec)) fnTipOfUptoCard

/-- THE SECOND FORM's CARD OF 'laws.FnExactArmPoints'. -/
def fnExactArmPointsUptoCard : Claim7 := { stood := { row := fnExactArmPointsUptoRow, standIns := [], harness := (true, "03f185bd6a0039b5c2354483eb655e47d0847bbe158a00b79e0488207aa63ddd"), looks := false }, kinds := [], alts := [], laidByText := true, laidKinds := [.data, .data, .data], laidTests := true, laidLooks := .later }
def FnExactArmPointsUptoCardSaid : Prop := Claim7.holds Tryd.pinned (.plain (OpenSpec.upto fnExactArmPointsSpec)) fnExactArmPointsUptoCard

/-- THE SECOND FORM's CARD OF 'laws.FnArmPoints'. -/
def fnArmPointsUptoCard : Claim7 := { stood := { row := fnArmPointsUptoRow, standIns := [], harness := (true, "03f185bd6a0039b5c2354483eb655e47d0847bbe158a00b79e0488207aa63ddd"), looks := false }, kinds := [], alts := [], laidByText := true, laidKinds := [.data, .data, .data], laidTests := true, laidLooks := .later }
def FnArmPointsUptoCardSaid : Prop := Claim7.holds Tryd.pinned (.plain (OpenSpec.upto fnArmPointsSpec)) fnArmPointsUptoCard

/-- THE SECOND FORM's CARD OF 'laws.FnExactStepJoints'. -/
def fnExactStepJointsUptoCard : Claim7 := { stood := { row := fnExactStepJointsUptoRow, standIns := [], harness := (true, "03f185bd6a0039b5c2354483eb655e47d0847bbe158a00b79e0488207aa63ddd"), looks := false }, kinds := [], alts := [], laidByText := true, laidKinds := [.data, .data, .data], laidTests := true, laidLooks := .later }
def FnExactStepJointsUptoCardSaid : Prop := Claim7.holds Tryd.pinned (.plain (OpenSpec.upto fnExactStepJointsSpec)) fnExactStepJointsUptoCard

/-- THE SECOND FORM's CARD OF 'laws.FnStepJoints'. -/
def fnStepJointsUptoCard : Claim7 := { stood := { row := fnStepJointsUptoRow, standIns := [], harness := (true, "03f185bd6a0039b5c2354483eb655e47d0847bbe158a00b79e0488207aa63ddd"), looks := false }, kinds := [], alts := [], laidByText := true, laidKinds := [.data, .data, .data], laidTests := true, laidLooks := .later }
def FnStepJointsUptoCardSaid : Prop := Claim7.holds Tryd.pinned (.plain (OpenSpec.upto fnStepJointsSpec)) fnStepJointsUptoCard
end Rows
end Go.Proofs.YtegmhflbndnadaaDoor
