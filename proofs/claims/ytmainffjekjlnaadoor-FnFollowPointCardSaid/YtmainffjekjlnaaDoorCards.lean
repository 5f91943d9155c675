/-
  DERIVED. GIVEN WITH THE SEED: THE CARDS: each row of YtmainffjekjlnaaDoorRows.lean that lists a variable, with what it lists TIED to the program's text (the seventh form; the later family's looks); each row that meets fmt, with fmt's text TOLD by the authors' own Lean function (tested against real Go, not proved from fmt's source: count such statements apart). THE CARD IS WHAT COUNTS. Prove the row's statement (the work); the ties are given (YtmainffjekjlnaaDoorTie.lean); close each card by the builder's one call (the guide's Derived/Test/ToyasCard.lean, 'card_holds'). Laid BY PROGRAM, IN A SANDBOX (cutbox-door.mjs). By AI agents, Wed Nov 11 2026. No macro, syntax, notation, axiom, sorry.
-/
import Derived.Test.YtmainffjekjlnaaDoorRows
import GoSem.ClaimSeven
namespace Go.Proofs.YtmainffjekjlnaaDoor
namespace Rows

/-- THE TIED CARD OF 'laws.FnReachSolve'. -/
def fnReachSolveCard : Claim7 := { stood := { row := fnReachSolveRow, standIns := [], harness := (true, "93a7d8943fba560fcf8c7ca76f507c19b15707da8092a46e0532a4902c1ccc6d"), looks := false }, kinds := [], alts := [], laidByText := true, laidKinds := [.data, .data, .data], laidTests := true, laidLooks := .later }
def FnReachSolveCardSaid : Prop := Claim7.holds Tryd.pinned (.plain (OpenSpec.ofChange fnReachSolveSpec)) fnReachSolveCard

/-- THE TIED CARD OF 'laws.FnExactSolveArm'. -/
def fnExactSolveArmCard : Claim7 := { stood := { row := fnExactSolveArmRow, standIns := [], harness := (true, "93a7d8943fba560fcf8c7ca76f507c19b15707da8092a46e0532a4902c1ccc6d"), looks := false }, kinds := [], alts := [], laidByText := true, laidKinds := [.data, .data, .data], laidTests := true, laidLooks := .later }
def FnExactSolveArmCardSaid : Prop := Claim7.holds Tryd.pinned (.plain (OpenSpec.ofChange fnExactSolveArmSpec)) fnExactSolveArmCard

/-- THE TIED CARD OF 'laws.FnSolveArm'. -/
def fnSolveArmCard : Claim7 := { stood := { row := fnSolveArmRow, standIns := [], harness := (true, "93a7d8943fba560fcf8c7ca76f507c19b15707da8092a46e0532a4902c1ccc6d"), looks := false }, kinds := [], alts := [], laidByText := true, laidKinds := [.data, .data, .data], laidTests := true, laidLooks := .later }
def FnSolveArmCardSaid : Prop := Claim7.holds Tryd.pinned (.plain (OpenSpec.ofChange fnSolveArmSpec)) fnSolveArmCard

/-- THE TIED CARD OF 'laws.FnExactFollowPoint'. -/
def fnExactFollowPointCard : Claim7 := { stood := { row := fnExactFollowPointRow, standIns := [], harness := (true, "93a7d8943fba560fcf8c7ca76f507c19b15707da8092a46e0532a4902c1ccc6d"), looks := false }, kinds := [], alts := [], laidByText := true, laidKinds := [.data, .data, .data], laidTests := true, laidLooks := .later }
def FnExactFollowPointCardSaid : Prop := Claim7.holds Tryd.pinned (.plain (OpenSpec.ofChange fnExactFollowPointSpec)) fnExactFollowPointCard

/-- THE TIED CARD OF 'laws.FnFollowPoint'. -/
def fnFollowPointCard : Claim7 := { stood := { row := fnFollowPointRow, standIns := [], harness := (true, "93a7d8943fba560fcf8c7ca76f507c19b15707da8092a46e0532a4902c1ccc6d"), looks := false }, kinds := [], alts := [], laidByText := true, laidKinds := [.data, .data, .data], laidTests := true, laidLooks := .later }
def FnFollowPointCardSaid : Prop := Claim7.holds Tryd.pinned (.plain (OpenSpec.ofChange fnFollowPointSpec)) fnFollowPointCard

/-- THE TIED CARD OF 'laws.FnFollowSolve'. -/
def fnFollowSolveCard : Claim7 := { stood := { row := fnFollowSolveRow, standIns := [], harness := (true, "93a7d8943fba560fcf8c7ca76f507c19b15707da8092a46e0532a4902c1ccc6d"), looks := false }, kinds := [], alts := [], laidByText := true, laidKinds := [.data, .data, .data], laidTests := true, laidLooks := .later }
def FnFollowSolveCardSaid : Prop := Claim7.holds Tryd.pinned (.plain (OpenSpec.ofChange fnFollowSolveSpec)) fnFollowSolveCard

/-- THE SECOND FORM's CARD OF 'laws.FnReachSolve'. -/
def fnReachSolveUptoCard : Claim7 := { stood := { row := fnReachSolveUptoRow, standIns := [], harness := (true, "93a7d8943fba560fcf8c7ca76f507c19b15707da8092a46e0532a4902c1ccc6d"), looks := false }, kinds := [], alts := [], laidByText := true, laidKinds := [.data, .data, .data], laidTests := true, laidLooks := .later }
def FnReachSolveUptoCardSaid : Prop := Claim7.holds Tryd.pinned (.plain (OpenSpec.upto fnReachSolveSpec)) fnReachSolveUptoCard

/-- THE SECOND FORM's CARD OF 'laws.FnExactSolveArm'. -/
def fnExactSolveArmUptoCard : Claim7 := { stood := { row := fnExactSolveArmUptoRow, standIns := [], harness := (true, "93a7d8943fba560fcf8c7ca76f507c19b15707da8092a46e0532a4902c1ccc6d"), looks := false }, kinds := [], alts := [], laidByText := true, laidKinds := [.data, .data, .data], laidTests := true, laidLooks := .later }
def FnExactSolveArmUptoCardSaid : Prop := Claim7.holds Tryd.pinned (.plain (OpenSpec.upto fnExactSolveArmSpec)) fnExactSolveArmUptoCard

/-- THE SECOND FORM's CARD OF 'laws.FnSolveArm'. -/
def fnSolveArmUptoCard : Claim7 := { stood := { row := fnSolveArmUptoRow, standIns := [], harness := (true, "93a7d8943fba560fcf8c7ca76f507c19b15707da8092a46e0532a4902c1ccc6d"), looks := false }, kinds := [], alts := [], laidByText := true, laidKinds := [.data, .data, .data], laidTests := true, laidLooks := .later }
def FnSolveArmUptoCardSaid : Prop := Claim7.holds Tryd.pinned (.plain (OpenSpec.upto fnSolveArmSpec)) fnSolveArmUptoCard

/-- THE SECOND FORM's CARD OF 'laws.FnExactFollowPoint'. -/
def fnExactFollowPointUptoCard : Claim7 := { stood := { row := fnExactFollowPointUptoRow, standIns := [], harness := (true, "93a7d8943fba560fcf8c7ca76f507c19b15707da8092a46e0532a4902c1ccc6d"), looks := false }, kinds := [], alts := [], laidByText := true, laidKinds := [.data, .data, .data], laidTests := true, laidLooks := .later }
def FnExactFollowPointUptoCardSaid : Prop := Claim7.holds Tryd.pinned (.plain (OpenSpec.upto fnExactFollowPointSpec)) fnExactFollowPointUptoCard

/-- THE SECOND FORM's CARD OF 'laws.FnFollowPoint'. -/
def fnFollowPointUptoCard : Claim7 := { stood := { row := fnFollowPointUptoRow, standIns := [], harness := (true, "93a7d8943fba560fcf8c7ca76f507c19b15707da8092a46e0532a4902c1ccc6d"), looks := false }, kinds := [], alts := [], laidByText := true, laidKinds := [.data, .data, .data], laidTests := true, laidLooks := .later }
def FnFollowPointUptoCardSaid : Prop := Claim7.holds Tryd.pinned (.plain (OpenSpec.upto fnFollowPointSpec)) fnFollowPointUptoCard

/-- THE SECOND FORM's CARD OF 'laws.FnFollowSolve'. -/
def fnFollowSolveUptoCard : Claim7 := { stood := { row := fnFollowSolveUptoRow, standIns := [], harness := (true, "93a7d8943fba560fcf8c7ca76f507c19b15707da8092a46e0532a4902c1ccc6d"), looks := false }, kinds := [], alts := [], laidByText := true, laidKinds := [.data, .data, .data], laidTests := true, laidLooks := .later }
def FnFollowSolveUptoCardSaid : Prop := Claim7.holds Tryd.pinned (.plain (OpenSpec.upto fnFollowSolveSpec)) fnFollowSolveUptoCard
end Rows
end Go.Proofs.YtmainffjekjlnaaDoor
