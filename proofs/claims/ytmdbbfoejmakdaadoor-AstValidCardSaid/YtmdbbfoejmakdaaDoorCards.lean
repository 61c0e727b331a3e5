/-
  DERIVED. GIVEN WITH THE SEED: THE CARDS: each row of YtmdbbfoejmakdaaDoorRows.lean that lists a variable, with what it lists TIED to the program's text (the seventh form; the later family's looks); each row that meets fmt, with fmt's text TOLD by the authors' own Lean function (tested against real Go, not proved from fmt's source: count such statements apart). THE CARD IS WHAT COUNTS. Prove the row's statement (the work); the ties are given (YtmdbbfoejmakdaaDoorTie.lean); close each card by the builder's one call (the guide's Derived/Test/ToyasCard.lean, 'card_holds'). Laid BY PROGRAM, IN A SANDBOX (cutbox-door.mjs). By AI agents, Wed Nov 11 2026. No macro, syntax, notation, axiom, sorry.
-/
import Derived.Test.YtmdbbfoejmakdaaDoorRows
import GoSem.ClaimSeven
namespace Go.Proofs.YtmdbbfoejmakdaaDoor
namespace Rows

/-- THE TIED CARD OF 'ontimelaw12.AstKinds'. -/
def astKindsCard : Claim7 := { stood := { row := astKindsRow, standIns := [], harness := (true, "8a0a1a33f6f98972e775d94d36761eea2e821a1361b3f59cc3616ce4009e1958"), looks := true }, kinds := [], alts := [], laidByText := true, laidKinds := [.listed, .data], laidTests := true, laidLooks := .later }
def AstKindsCardSaid : Prop := Claim7.holds Tryd.pinned (.plain (OpenSpec.ofChange astKindsSpec)) astKindsCard

/-- THE TIED CARD OF 'ontimelaw12.AstMeasures'. -/
def astMeasuresCard : Claim7 := { stood := { row := astMeasuresRow, standIns := [], harness := (true, "8a0a1a33f6f98972e775d94d36761eea2e821a1361b3f59cc3616ce4009e1958"), looks := true }, kinds := [], alts := [], laidByText := true, laidKinds := [.listed, .data], laidTests := true, laidLooks := .later }
def AstMeasuresCardSaid : Prop := Claim7.holds Tryd.pinned (.plain (OpenSpec.ofChange astMeasuresSpec)) astMeasuresCard

/-- THE TIED CARD OF 'ontimelaw12.AstWalk'. -/
def astWalkCard : Claim7 := { stood := { row := astWalkRow, standIns := [], harness := (true, "8a0a1a33f6f98972e775d94d36761eea2e821a1361b3f59cc3616ce4009e1958"), looks := true }, kinds := [], alts := [], laidByText := true, laidKinds := [.listed, .data], laidTests := true, laidLooks := .later }
def AstWalkCardSaid : Prop := Claim7.holds Tryd.pinned (.plain (OpenSpec.ofChange astWalkSpec)) astWalkCard

/-- THE TIED CARD OF 'ontimelaw12.AstParts'. -/
def astPartsCard : Claim7 := { stood := { row := astPartsRow, standIns := [], harness := (true, "8a0a1a33f6f98972e775d94d36761eea2e821a1361b3f59cc3616ce4009e1958"), looks := true }, kinds := [], alts := [], laidByText := true, laidKinds := [.listed, .data], laidTests := true, laidLooks := .later }
def AstPartsCardSaid : Prop := Claim7.holds Tryd.pinned (.plain (OpenSpec.ofChange astPartsSpec)) astPartsCard

/-- THE TIED CARD OF 'ontimelaw12.AstEqual'. -/
def astEqualCard : Claim7 := { stood := { row := astEqualRow, standIns := [], harness := (true, "8a0a1a33f6f98972e775d94d36761eea2e821a1361b3f59cc3616ce4009e1958"), looks := true }, kinds := [], alts := [], laidByText := true, laidKinds := [.listed, .data], laidTests := true, laidLooks := .later }
def AstEqualCardSaid : Prop := Claim7.holds Tryd.pinned (.plain (OpenSpec.ofChange astEqualSpec)) astEqualCard

/-- THE TIED CARD OF 'ontimelaw12.AstAt'. -/
def astAtCard : Claim7 := { stood := { row := astAtRow, standIns := [], harness := (true, "8a0a1a33f6f98972e775d94d36761eea2e821a1361b3f59cc3616ce4009e1958"), looks := true }, kinds := [], alts := [], laidByText := true, laidKinds := [.listed, .data], laidTests := true, laidLooks := .later }
def AstAtCardSaid : Prop := Claim7.holds Tryd.pinned (.plain (OpenSpec.ofChange astAtSpec)) astAtCard

/-- THE TIED CARD OF 'ontimelaw12.AstClone'. -/
def astCloneCard : Claim7 := { stood := { row := astCloneRow, standIns := [], harness := (true, "8a0a1a33f6f98972e775d94d36761eea2e821a1361b3f59cc3616ce4009e1958"), looks := true }, kinds := [], alts := [], laidByText := true, laidKinds := [.listed, .data], laidTests := true, laidLooks := .later }
def AstCloneCardSaid : Prop := Claim7.holds Tryd.pinned (.plain (OpenSpec.ofChange astCloneSpec)) astCloneCard

/-- THE TIED CARD OF 'ontimelaw12.AstCounts'. -/
def astCountsCard : Claim7 := { stood := { row := astCountsRow, standIns := [], harness := (true, "8a0a1a33f6f98972e775d94d36761eea2e821a1361b3f59cc3616ce4009e1958"), looks := true }, kinds := [], alts := [], laidByText := true, laidKinds := [.listed, .data], laidTests := true, laidLooks := .later }
def AstCountsCardSaid : Prop := Claim7.holds Tryd.pinned (.plain (OpenSpec.ofChange astCountsSpec)) astCountsCard

/-- THE TIED CARD OF 'ontimelaw12.AstValid'. -/
def astValidCard : Claim7 := { stood := { row := astValidRow, standIns := [], harness := (true, "8a0a1a33f6f98972e775d94d36761eea2e821a1361b3f59cc3616ce4009e1958"), looks := true }, kinds := [], alts := [], laidByText := true, laidKinds := [.listed, .data], laidTests := true, laidLooks := .later }
def AstValidCardSaid : Prop := Claim7.holds Tryd.pinned (.plain (OpenSpec.ofChange astValidSpec)) astValidCard

/-- THE TIED CARD OF 'ontimelaw15.CheckFaults'. -/
def checkFaultsCard : Claim7 := { stood := { row := checkFaultsRow, standIns := [], harness := (true, "8a0a1a33f6f98972e775d94d36761eea2e821a1361b3f59cc3616ce4009e1958"), looks := true }, kinds := [], alts := [], laidByText := true, laidKinds := [.listed, .data], laidTests := true, laidLooks := .later }
def CheckFaultsCardSaid : Prop := Claim7.holds Tryd.pinned (.plain (OpenSpec.ofChange checkFaultsSpec)) checkFaultsCard

/-- THE TIED CARD OF 'ontimelaw15.CheckTasks'. -/
def checkTasksCard : Claim7 := { stood := { row := checkTasksRow, standIns := [], harness := (true, "8a0a1a33f6f98972e775d94d36761eea2e821a1361b3f59cc3616ce4009e1958"), looks := true }, kinds := [], alts := [], laidByText := true, laidKinds := [.listed, .data], laidTests := true, laidLooks := .later }
def CheckTasksCardSaid : Prop := Claim7.holds Tryd.pinned (.plain (OpenSpec.ofChange checkTasksSpec)) checkTasksCard

/-- THE TIED CARD OF 'ontimelaw15.CheckTwice'. -/
def checkTwiceCard : Claim7 := { stood := { row := checkTwiceRow, standIns := [], harness := (true, "8a0a1a33f6f98972e775d94d36761eea2e821a1361b3f59cc3616ce4009e1958"), looks := true }, kinds := [], alts := [], laidByText := true, laidKinds := [.listed, .data], laidTests := true, laidLooks := .later }
def CheckTwiceCardSaid : Prop := Claim7.holds Tryd.pinned (.plain (OpenSpec.ofChange checkTwiceSpec)) checkTwiceCard

/-- THE TIED CARD OF 'ontimelaw15.CheckUndeclared'. -/
def checkUndeclaredCard : Claim7 := { stood := { row := checkUndeclaredRow, standIns := [], harness := (true, "8a0a1a33f6f98972e775d94d36761eea2e821a1361b3f59cc3616ce4009e1958"), looks := true }, kinds := [], alts := [], laidByText := true, laidKinds := [.listed, .data], laidTests := true, laidLooks := .later }
def CheckUndeclaredCardSaid : Prop := Claim7.holds Tryd.pinned (.plain (OpenSpec.ofChange checkUndeclaredSpec)) checkUndeclaredCard

/-- THE TIED CARD OF 'ontimelaw15.CheckUnlocked'. -/
def checkUnlockedCard : Claim7 := { stood := { row := checkUnlockedRow, standIns := [], harness := (true, "8a0a1a33f6f98972e775d94d36761eea2e821a1361b3f59cc3616ce4009e1958"), looks := true }, kinds := [], alts := [], laidByText := true, laidKinds := [.listed, .data], laidTests := true, laidLooks := .later }
def CheckUnlockedCardSaid : Prop := Claim7.holds Tryd.pinned (.plain (OpenSpec.ofChange checkUnlockedSpec)) checkUnlockedCard

/-- THE TIED CARD OF 'ontimelaw15.CheckNested'. -/
def checkNestedCard : Claim7 := { stood := { row := checkNestedRow, standIns := [], harness := (true, "8a0a1a33f6f98972e775d94d36761eea2e821a1361b3f59cc3616ce4009e1958"), looks := true }, kinds := [], alts := [], laidByText := true, laidKinds := [.listed, .data], laidTests := true, laidLooks := .later }
def CheckNestedCardSaid : Prop := Claim7.holds Tryd.pinned (.plain (OpenSpec.ofChange checkNestedSpec)) checkNestedCard

/-- THE TIED CARD OF 'ontimelaw15.CheckRenames'. -/
def checkRenamesCard : Claim7 := { stood := { row := checkRenamesRow, standIns := [], harness := (true, "8a0a1a33f6f98972e775d94d36761eea2e821a1361b3f59cc3616ce4009e1958"), looks := true }, kinds := [], alts := [], laidByText := true, laidKinds := [.listed, .data], laidTests := true, laidLooks := .later }
def CheckRenamesCardSaid : Prop := Claim7.holds Tryd.pinned (.plain (OpenSpec.ofChange checkRenamesSpec)) checkRenamesCard

/-- THE TIED CARD OF 'ontimelaw15.CheckObjects'. -/
def checkObjectsCard : Claim7 := { stood := { row := checkObjectsRow, standIns := [], harness := (true, "8a0a1a33f6f98972e775d94d36761eea2e821a1361b3f59cc3616ce4009e1958"), looks := true }, kinds := [], alts := [], laidByText := true, laidKinds := [.listed, .data], laidTests := true, laidLooks := .later }
def CheckObjectsCardSaid : Prop := Claim7.holds Tryd.pinned (.plain (OpenSpec.ofChange checkObjectsSpec)) checkObjectsCard

/-- THE TIED CARD OF 'ontimelaw15.CheckLoopVariables'. -/
def checkLoopVariablesCard : Claim7 := { stood := { row := checkLoopVariablesRow, standIns := [], harness := (true, "8a0a1a33f6f98972e775d94d36761eea2e821a1361b3f59cc3616ce4009e1958"), looks := true }, kinds := [], alts := [], laidByText := true, laidKinds := [.listed, .data], laidTests := true, laidLooks := .later }
def CheckLoopVariablesCardSaid : Prop := Claim7.holds Tryd.pinned (.plain (OpenSpec.ofChange checkLoopVariablesSpec)) checkLoopVariablesCard

/-- THE SECOND FORM's CARD OF 'ontimelaw12.AstKinds'. -/
def astKindsUptoCard : Claim7 := { stood := { row := astKindsUptoRow, standIns := [], harness := (true, "8a0a1a33f6f98972e775d94d36761eea2e821a1361b3f59cc3616ce4009e1958"), looks := true }, kinds := [], alts := [], laidByText := true, laidKinds := [.listed, .data], laidTests := true, laidLooks := .later }
def AstKindsUptoCardSaid : Prop := Claim7.holds Tryd.pinned (.plain (OpenSpec.upto astKindsSpec)) astKindsUptoCard

/-- THE SECOND FORM's CARD OF 'ontimelaw12.AstMeasures'. -/
def astMeasuresUptoCard : Claim7 := { stood := { row := astMeasuresUptoRow, standIns := [], harness := (true, "8a0a1a33f6f98972e775d94d36761eea2e821a1361b3f59cc3616ce4009e1958"), looks := true }, kinds := [], alts := [], laidByText := true, laidKinds := [.listed, .data], laidTests := true, laidLooks := .later }
def AstMeasuresUptoCardSaid : Prop := Claim7.holds Tryd.pinned (.plain (OpenSpec.upto astMeasuresSpec)) astMeasuresUptoCard

/-- THE SECOND FORM's CARD OF 'ontimelaw12.AstWalk'. -/
def astWalkUptoCard : Claim7 := { stood := { row := astWalkUptoRow, standIns := [], harness := (true, "8a0a1a33f6f98972e775d94d36761eea2e821a1361b3f59cc3616ce4009e1958"), looks := true }, kinds := [], alts := [], laidByText := true, laidKinds := [.listed, .data], laidTests := true, laidLooks := .later }
def AstWalkUptoCardSaid : Prop := Claim7.holds Tryd.pinned (.plain (OpenSpec.upto astWalkSpec)) astWalkUptoCard

/-- THE SECOND FORM's CARD OF 'ontimelaw12.AstParts'. -/
def astPartsUptoCard : Claim7 := { stood := { row := astPartsUptoRow, standIns := [], harness := (true, "8a0a1a33f6f98972e775d94d36761eea2e821a1361b3f59cc3616ce4009e1958"), looks := true }, kinds := [], alts := [], laidByText := true, laidKinds := [.listed, .data], laidTests := true, laidLooks := .later }
def AstPartsUptoCardSaid : Prop := Claim7.holds Tryd.pinned (.plain (OpenSpec.upto astPartsSpec)) astPartsUptoCard

/-- THE SECOND FORM's CARD OF 'ontimelaw12.AstEqual'. -/
def astEqualUptoCard : Claim7 := { stood := { row := astEqualUptoRow, standIns := [], harness := (true, "8a0a1a33f6f98972e775d94d36761eea2e821a1361b3f59cc3616ce4009e1958"), looks := true }, kinds := [], alts := [], laidByText := true, laidKinds := [.listed, .data], laidTests := true, laidLooks := .later }
def AstEqualUptoCardSaid : Prop := Claim7.holds Tryd.pinned (.plain (OpenSpec.upto astEqualSpec)) astEqualUptoCard

/-- THE SECOND FORM's CARD OF 'ontimelaw12.AstAt'. -/
def astAtUptoCard : Claim7 := { stood := { row := astAtUptoRow, standIns := [], harness := (true, "8a0a1a33f6f98972e775d94d36761eea2e821a1361b3f59cc3616ce4009e1958"), looks := true }, kinds := [], alts := [], laidByText := true, laidKinds := [.listed, .data], laidTests := true, laidLooks := .later }
def AstAtUptoCardSaid : Prop := Claim7.holds Tryd.pinned (.plain (OpenSpec.upto astAtSpec)) astAtUptoCard

/-- THE SECOND FORM's CARD OF 'ontimelaw12.AstClone'. -/
def astCloneUptoCard : Claim7 := { stood := { row := astCloneUptoRow, standIns := [], harness := (true, "8a0a1a33f6f98972e775d94d36761eea2e821a1361b3f59cc3616ce4009e1958"), looks := true }, kinds := [], alts := [], laidByText := true, laidKinds := [.listed, .data], laidTests := true, laidLooks := .later }
def AstCloneUptoCardSaid : Prop := Claim7.holds Tryd.pinned (.plain (OpenSpec.upto astCloneSpec)) astCloneUptoCard

/-- THE SECOND FORM's CARD OF 'ontimelaw12.AstCounts'. -/
def astCountsUptoCard : Claim7 := { stood := { row := astCountsUptoRow, standIns := [], harness := (true, "8a0a1a33f6f98972e775d94d36761eea2e821a1361b3f59cc3616ce4009e1958"), looks := true }, kinds := [], alts := [], laidByText := true, laidKinds := [.listed, .data], laidTests := true, laidLooks := .later }
def AstCountsUptoCardSaid : Prop := Claim7.holds Tryd.pinned (.plain (OpenSpec.upto astCountsSpec)) astCountsUptoCard

/-- THE SECOND FORM's CARD OF 'ontimelaw12.AstValid'. -/
def astValidUptoCard : Claim7 := { stood := { row := astValidUptoRow, standIns := [], harness := (true, "8a0a1a33f6f98972e775d94d36761eea2e821a1361b3f59cc3616ce4009e1958"), looks := true }, kinds := [], alts := [], laidByText := true, laidKinds := [.listed, .data], laidTests := true, laidLooks := .later }
def AstValidUptoCardSaid : Prop := Claim7.holds Tryd.pinned (.plain (OpenSpec.upto astValidSpec)) astValidUptoCard

/-- THE SECOND FORM's CARD OF 'ontimelaw15.CheckFaults'. -/
def checkFaultsUptoCard : Claim7 := { stood := { row := checkFaultsUptoRow, standIns := [], harness := (true, "8a0a1a33f6f98972e775d94d36761eea2e821a1361b3f59cc3616ce4009e1958"), looks := true }, kinds := [], alts := [], laidByText := true, laidKinds := [.listed, .data], laidTests := true, laidLooks := .later }
def CheckFaultsUptoCardSaid : Prop := Claim7.holds Tryd.pinned (.plain (OpenSpec.upto checkFaultsSpec)) checkFaultsUptoCard

/-- THE SECOND FORM's CARD OF 'ontimelaw15.CheckTasks'. -/
def checkTasksUptoCard : Claim7 := { stood := { row := checkTasksUptoRow, standIns := [], harness := (true, "8a0a1a33f6f98972e775d94d36761eea2e821a1361b3f59cc3616ce4009e1958"), looks := true }, kinds := [], alts := [], laidByText := true, laidKinds := [.listed, .data], laidTests := true, laidLooks := .later }
def CheckTasksUptoCardSaid : Prop := Claim7.holds Tryd.pinned (.plain (OpenSpec.upto checkTasksSpec)) checkTasksUptoCard

/-- THE SECOND FORM's CARD OF 'ontimelaw15.CheckTwice'. -/
def checkTwiceUptoCard : Claim7 := { stood := { row := checkTwiceUptoRow, standIns := [], harness := (true, "8a0a1a33f6f98972e775d94d36761eea2e821a1361b3f59cc3616ce4009e1958"), looks := true }, kinds := [], alts := [], laidByText := true, laidKinds := [.listed, .data], laidTests := true, laidLooks := .later }
def CheckTwiceUptoCardSaid : Prop := Claim7.holds Tryd.pinned (.plain (OpenSpec.upto checkTwiceSpec)) checkTwiceUptoCard

/-- THE SECOND FORM's CARD OF 'ontimelaw15.CheckUndeclared'. -/
def checkUndeclaredUptoCard : Claim7 := { stood := { row := checkUndeclaredUptoRow, standIns := [], harness := (true, "8a0a1a33f6f98972e775d94d36761eea2e821a1361b3f59cc3616ce4009e1958"), looks := true }, kinds := [], alts := [], laidByText := true, laidKinds := [.listed, .data], laidTests := true, laidLooks := .later }
def CheckUndeclaredUptoCardSaid : Prop := Claim7.holds Tryd.pinned (.plain (OpenSpec.upto checkUndeclaredSpec)) checkUndeclaredUptoCard

/-- THE SECOND FORM's CARD OF 'ontimelaw15.CheckUnlocked'. -/
def checkUnlockedUptoCard : Claim7 := { stood := { row := checkUnlockedUptoRow, standIns := [], harness := (true, "8a0a1a33f6f98972e775d94d36761eea2e821a1361b3f59cc3616ce4009e1958"), looks := true }, kinds := [], alts := [], laidByText := true, laidKinds := [.listed, .data], laidTests := true, laidLooks := .later }
def CheckUnlockedUptoCardSaid : Prop := Claim7.holds Tryd.pinned (.plain (OpenSpec.upto checkUnlockedSpec)) checkUnlockedUptoCard

/-- THE SECOND FORM's CARD OF 'ontimelaw15.CheckNested'. -/
def checkNestedUptoCard : Claim7 := { stood := { row := checkNestedUptoRow, standIns := [], harness := (true, "8a0a1a33f6f98972e775d94d36761eea2e821a1361b3f59cc3616ce4009e1958"), looks := true }, kinds := [], alts := [], laidByText := true, laidKinds := [.listed, .data], laidTests := true, laidLooks := .later }
def CheckNestedUptoCardSaid : Prop := Claim7.holds Tryd.pinned (.plain (OpenSpec.upto checkNestedSpec)) checkNestedUptoCard

/-- THE SECOND FORM's CARD OF 'ontimelaw15.CheckRenames'. -/
def checkRenamesUptoCard : Claim7 := { stood := { row := checkRenamesUptoRow, standIns := [], harness := (true, "8a0a1a33f6f98972e775d94d36761eea2e821a1361b3f59cc3616ce4009e1958"), looks := true }, kinds := [], alts := [], laidByText := true, laidKinds := [.listed, .data], laidTests := true, laidLooks := .later }
def CheckRenamesUptoCardSaid : Prop := Claim7.holds Tryd.pinned (.plain (OpenSpec.upto checkRenamesSpec)) checkRenamesUptoCard

/-- THE SECOND FORM's CARD OF 'ontimelaw15.CheckObjects'. -/
def checkObjectsUptoCard : Claim7 := { stood := { row := checkObjectsUptoRow, standIns := [], harness := (true, "8a0a1a33f6f98972e775d94d36761eea2e821a1361b3f59cc3616ce4009e1958"), looks := true }, kinds := [], alts := [], laidByText := true, laidKinds := [.listed, .data], laidTests := true, laidLooks := .later }
def CheckObjectsUptoCardSaid : Prop := Claim7.holds Tryd.pinned (.plain (OpenSpec.upto checkObjectsSpec)) checkObjectsUptoCard

/-- THE SECOND FORM's CARD OF 'ontimelaw15.CheckLoopVariables'. -/
def checkLoopVariablesUptoCard : Claim7 := { stood := { row := checkLoopVariablesUptoRow, standIns := [], harness := (true, "8a0a1a33f6f98972e775d94d36761eea2e821a1361b3f59cc3616ce4009e1958"), looks := true }, kinds := [], alts := [], laidByText := true, laidKinds := [.listed, .data], laidTests := true, laidLooks := .later }
def CheckLoopVariablesUptoCardSaid : Prop := Claim7.holds Tryd.pinned (.plain (OpenSpec.upto checkLoopVariablesSpec)) checkLoopVariablesUptoCard
end Rows
end Go.Proofs.YtmdbbfoejmakdaaDoor
