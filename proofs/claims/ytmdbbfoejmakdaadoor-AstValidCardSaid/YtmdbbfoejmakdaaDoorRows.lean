/-
  NARROWER THAN 'FOR EVERY INPUT', by the rows' own cells (each row's printed sentence says how): AstKinds: loops, laid · AstMeasures: loops, laid · AstWalk: loops, laid · AstParts: loops, laid · AstEqual: loops, laid · AstAt: loops, laid · AstClone: loops, laid · AstCounts: loops, laid · AstValid: loops, laid · CheckFaults: loops, laid · CheckTasks: loops, laid · CheckTwice: loops, laid · CheckUndeclared: loops, laid · CheckUnlocked: loops, laid · CheckNested: loops, laid · CheckRenames: loops, laid · CheckObjects: loops, laid · CheckLoopVariables: loops, laid.
  DERIVED. THE GIVEN ROWS OF THIS SEAT. 18 by the template 'for every input the law returns true; each argument reads behind the call as it read before'; 0 by the template 'total and deterministic' (their statements: YtmdbbfoejmakdaaDoorTotals.lean).
  GIVEN WITH THE SEED: the statements are not yours to turn. If you find one false, say at which input.
  Laid BY PROGRAM, IN A SANDBOX (cutbox-rows.mjs): the forced cells as the released guide's own fill.sh prints them over the translation 1a47cf34708ab502… (all of the seat's roots in one cut). By AI agents, Wed Nov 11 2026. No macro, syntax, notation, axiom, sorry.
-/
import Derived.Test.YtmdbbfoejmakdaaDoorChecked
import GoSem.Claim
import GoSem.ClaimJoined
import GoSem.ClaimMapViews
import Derived.JoinedTies
import Derived.KernelRfl
namespace Go.Proofs.YtmdbbfoejmakdaaDoor
/- THE CELL 'sum', in the pinned program and in every row, IS THE sha256 OF THE DUMP (.gsa) THAT YtmdbbfoejmakdaaDoorProg.lean LOADS. Nothing in Lean hashes anything: it is a label: what it is worth is what the hold of that sum in a sandbox is worth. -/
noncomputable def Tryd.pinned : Pinned := { name := "ytmdbbfoejmakdaadoor", sum := "1a47cf34708ab502c6e048229974ddb43e34b028ded26ee923f77cc42f1f4ab2", checked := Tryd.checked }
namespace Rows
def none {H : Type} : Left H := { results := [], args := [] }

/- WHAT THE LISTED PACKAGE-LEVEL VARIABLES READ AS WHEN THE CALL BEGINS. Each datum BY PROGRAM (the guide's laid-datum.mjs) off the statement by which the dump's own 'gosem.cut.vars' lays the variable. In a bare row this is a premise. The card (YtmdbbfoejmakdaaDoorCards.lean) ties it to the program's text. -/
def laid_unicode_White_Space {H : Type} : DataW H := .ptr (.agg [.slice [.agg [.lit (.int .u16 9), .lit (.int .u16 13), .lit (.int .u16 1)], .agg [.lit (.int .u16 32), .lit (.int .u16 133), .lit (.int .u16 101)], .agg [.lit (.int .u16 160), .lit (.int .u16 5760), .lit (.int .u16 5600)], .agg [.lit (.int .u16 8192), .lit (.int .u16 8202), .lit (.int .u16 1)], .agg [.lit (.int .u16 8232), .lit (.int .u16 8233), .lit (.int .u16 1)], .agg [.lit (.int .u16 8239), .lit (.int .u16 8287), .lit (.int .u16 48)], .agg [.lit (.int .u16 12288), .lit (.int .u16 12288), .lit (.int .u16 1)]] [], .nil, .lit (.int .i64 2)])
def laid_strings_asciiSpace {H : Type} : DataW H := .agg [.lit (.int .u8 0), .lit (.int .u8 0), .lit (.int .u8 0), .lit (.int .u8 0), .lit (.int .u8 0), .lit (.int .u8 0), .lit (.int .u8 0), .lit (.int .u8 0), .lit (.int .u8 0), .lit (.int .u8 1), .lit (.int .u8 1), .lit (.int .u8 1), .lit (.int .u8 1), .lit (.int .u8 1), .lit (.int .u8 0), .lit (.int .u8 0), .lit (.int .u8 0), .lit (.int .u8 0), .lit (.int .u8 0), .lit (.int .u8 0), .lit (.int .u8 0), .lit (.int .u8 0), .lit (.int .u8 0), .lit (.int .u8 0), .lit (.int .u8 0), .lit (.int .u8 0), .lit (.int .u8 0), .lit (.int .u8 0), .lit (.int .u8 0), .lit (.int .u8 0), .lit (.int .u8 0), .lit (.int .u8 0), .lit (.int .u8 1), .lit (.int .u8 0), .lit (.int .u8 0), .lit (.int .u8 0), .lit (.int .u8 0), .lit (.int .u8 0), .lit (.int .u8 0), .lit (.int .u8 0), .lit (.int .u8 0), .lit (.int .u8 0), .lit (.int .u8 0), .lit (.int .u8 0), .lit (.int .u8 0), .lit (.int .u8 0), .lit (.int .u8 0), .lit (.int .u8 0), .lit (.int .u8 0), .lit (.int .u8 0), .lit (.int .u8 0), .lit (.int .u8 0), .lit (.int .u8 0), .lit (.int .u8 0), .lit (.int .u8 0), .lit (.int .u8 0), .lit (.int .u8 0), .lit (.int .u8 0), .lit (.int .u8 0), .lit (.int .u8 0), .lit (.int .u8 0), .lit (.int .u8 0), .lit (.int .u8 0), .lit (.int .u8 0), .lit (.int .u8 0), .lit (.int .u8 0), .lit (.int .u8 0), .lit (.int .u8 0), .lit (.int .u8 0), .lit (.int .u8 0), .lit (.int .u8 0), .lit (.int .u8 0), .lit (.int .u8 0), .lit (.int .u8 0), .lit (.int .u8 0), .lit (.int .u8 0), .lit (.int .u8 0), .lit (.int .u8 0), .lit (.int .u8 0), .lit (.int .u8 0), .lit (.int .u8 0), .lit (.int .u8 0), .lit (.int .u8 0), .lit (.int .u8 0), .lit (.int .u8 0), .lit (.int .u8 0), .lit (.int .u8 0), .lit (.int .u8 0), .lit (.int .u8 0), .lit (.int .u8 0), .lit (.int .u8 0), .lit (.int .u8 0), .lit (.int .u8 0), .lit (.int .u8 0), .lit (.int .u8 0), .lit (.int .u8 0), .lit (.int .u8 0), .lit (.int .u8 0), .lit (.int .u8 0), .lit (.int .u8 0), .lit (.int .u8 0), .lit (.int .u8 0), .lit (.int .u8 0), .lit (.int .u8 0), .lit (.int .u8 0), .lit (.int .u8 0), .lit (.int .u8 0), .lit (.int .u8 0), .lit (.int .u8 0), .lit (.int .u8 0), .lit (.int .u8 0), .lit (.int .u8 0), .lit (.int .u8 0), .lit (.int .u8 0), .lit (.int .u8 0), .lit (.int .u8 0), .lit (.int .u8 0), .lit (.int .u8 0), .lit (.int .u8 0), .lit (.int .u8 0), .lit (.int .u8 0), .lit (.int .u8 0), .lit (.int .u8 0), .lit (.int .u8 0), .lit (.int .u8 0), .lit (.int .u8 0), .lit (.int .u8 0), .lit (.int .u8 0), .lit (.int .u8 0), .lit (.int .u8 0), .lit (.int .u8 0), .lit (.int .u8 0), .lit (.int .u8 0), .lit (.int .u8 0), .lit (.int .u8 0), .lit (.int .u8 0), .lit (.int .u8 0), .lit (.int .u8 0), .lit (.int .u8 0), .lit (.int .u8 0), .lit (.int .u8 0), .lit (.int .u8 0), .lit (.int .u8 0), .lit (.int .u8 0), .lit (.int .u8 0), .lit (.int .u8 0), .lit (.int .u8 0), .lit (.int .u8 0), .lit (.int .u8 0), .lit (.int .u8 0), .lit (.int .u8 0), .lit (.int .u8 0), .lit (.int .u8 0), .lit (.int .u8 0), .lit (.int .u8 0), .lit (.int .u8 0), .lit (.int .u8 0), .lit (.int .u8 0), .lit (.int .u8 0), .lit (.int .u8 0), .lit (.int .u8 0), .lit (.int .u8 0), .lit (.int .u8 0), .lit (.int .u8 0), .lit (.int .u8 0), .lit (.int .u8 0), .lit (.int .u8 0), .lit (.int .u8 0), .lit (.int .u8 0), .lit (.int .u8 0), .lit (.int .u8 0), .lit (.int .u8 0), .lit (.int .u8 0), .lit (.int .u8 0), .lit (.int .u8 0), .lit (.int .u8 0), .lit (.int .u8 0), .lit (.int .u8 0), .lit (.int .u8 0), .lit (.int .u8 0), .lit (.int .u8 0), .lit (.int .u8 0), .lit (.int .u8 0), .lit (.int .u8 0), .lit (.int .u8 0), .lit (.int .u8 0), .lit (.int .u8 0), .lit (.int .u8 0), .lit (.int .u8 0), .lit (.int .u8 0), .lit (.int .u8 0), .lit (.int .u8 0), .lit (.int .u8 0), .lit (.int .u8 0), .lit (.int .u8 0), .lit (.int .u8 0), .lit (.int .u8 0), .lit (.int .u8 0), .lit (.int .u8 0), .lit (.int .u8 0), .lit (.int .u8 0), .lit (.int .u8 0), .lit (.int .u8 0), .lit (.int .u8 0), .lit (.int .u8 0), .lit (.int .u8 0), .lit (.int .u8 0), .lit (.int .u8 0), .lit (.int .u8 0), .lit (.int .u8 0), .lit (.int .u8 0), .lit (.int .u8 0), .lit (.int .u8 0), .lit (.int .u8 0), .lit (.int .u8 0), .lit (.int .u8 0), .lit (.int .u8 0), .lit (.int .u8 0), .lit (.int .u8 0), .lit (.int .u8 0), .lit (.int .u8 0), .lit (.int .u8 0), .lit (.int .u8 0), .lit (.int .u8 0), .lit (.int .u8 0), .lit (.int .u8 0), .lit (.int .u8 0), .lit (.int .u8 0), .lit (.int .u8 0), .lit (.int .u8 0), .lit (.int .u8 0), .lit (.int .u8 0), .lit (.int .u8 0), .lit (.int .u8 0), .lit (.int .u8 0), .lit (.int .u8 0), .lit (.int .u8 0), .lit (.int .u8 0), .lit (.int .u8 0), .lit (.int .u8 0), .lit (.int .u8 0), .lit (.int .u8 0), .lit (.int .u8 0), .lit (.int .u8 0), .lit (.int .u8 0), .lit (.int .u8 0), .lit (.int .u8 0), .lit (.int .u8 0), .lit (.int .u8 0), .lit (.int .u8 0), .lit (.int .u8 0), .lit (.int .u8 0), .lit (.int .u8 0), .lit (.int .u8 0), .lit (.int .u8 0), .lit (.int .u8 0)]

/-- 'ontimelaw12.AstKinds': WHATEVER THE INPUT: true; the input reads as it did. -/
def astKindsSpec : ChangeSpec := { name := "astKinds", fn := fun _ => fun
  | [d] => { results := [.lit (.bool true)], args := [d] }
  | _ => none }
def astKindsRow : OpenClaim := { program := "ytmdbbfoejmakdaadoor", sum := "1a47cf34708ab502c6e048229974ddb43e34b028ded26ee923f77cc42f1f4ab2", func := "ontime/ontimelaw12.AstKinds", spec := "astKinds", unfollowed := true, recurses := true, named := ["strings.asciiSpace", "unicode.White_Space"], loops := true, apart := false, laid := [("unicode.White_Space", laid_unicode_White_Space), ("strings.asciiSpace", laid_strings_asciiSpace)] }
def AstKindsSaid : Prop := astKindsRow.holds Tryd.pinned (OpenSpec.ofChange astKindsSpec)

/-- ITS FALSE NEIGHBOUR: 'it returns false'. Refute it at one input. -/
def astKindsWrong : ChangeSpec := { name := "astKinds", fn := fun _ => fun
  | [d] => { results := [.lit (.bool false)], args := [d] }
  | _ => none }
def AstKindsWrongFalsely : Prop := astKindsRow.holds Tryd.pinned (OpenSpec.ofChange astKindsWrong)

/-- 'ontimelaw12.AstMeasures': WHATEVER THE INPUT: true; the input reads as it did. -/
def astMeasuresSpec : ChangeSpec := { name := "astMeasures", fn := fun _ => fun
  | [d] => { results := [.lit (.bool true)], args := [d] }
  | _ => none }
def astMeasuresRow : OpenClaim := { program := "ytmdbbfoejmakdaadoor", sum := "1a47cf34708ab502c6e048229974ddb43e34b028ded26ee923f77cc42f1f4ab2", func := "ontime/ontimelaw12.AstMeasures", spec := "astMeasures", unfollowed := true, recurses := true, named := ["strings.asciiSpace", "unicode.White_Space"], loops := true, apart := false, laid := [("unicode.White_Space", laid_unicode_White_Space), ("strings.asciiSpace", laid_strings_asciiSpace)] }
def AstMeasuresSaid : Prop := astMeasuresRow.holds Tryd.pinned (OpenSpec.ofChange astMeasuresSpec)

/-- ITS FALSE NEIGHBOUR: 'it returns false'. Refute it at one input. -/
def astMeasuresWrong : ChangeSpec := { name := "astMeasures", fn := fun _ => fun
  | [d] => { results := [.lit (.bool false)], args := [d] }
  | _ => none }
def AstMeasuresWrongFalsely : Prop := astMeasuresRow.holds Tryd.pinned (OpenSpec.ofChange astMeasuresWrong)

/-- 'ontimelaw12.AstWalk': WHATEVER THE INPUT: true; the input reads as it did. -/
def astWalkSpec : ChangeSpec := { name := "astWalk", fn := fun _ => fun
  | [d1, d2] => { results := [.lit (.bool true)], args := [d1, d2] }
  | _ => none }
def astWalkRow : OpenClaim := { program := "ytmdbbfoejmakdaadoor", sum := "1a47cf34708ab502c6e048229974ddb43e34b028ded26ee923f77cc42f1f4ab2", func := "ontime/ontimelaw12.AstWalk", spec := "astWalk", unfollowed := true, recurses := true, named := ["strings.asciiSpace", "unicode.White_Space"], loops := true, apart := false, laid := [("unicode.White_Space", laid_unicode_White_Space), ("strings.asciiSpace", laid_strings_asciiSpace)] }
def AstWalkSaid : Prop := astWalkRow.holds Tryd.pinned (OpenSpec.ofChange astWalkSpec)

/-- ITS FALSE NEIGHBOUR: 'it returns false'. Refute it at one input. -/
def astWalkWrong : ChangeSpec := { name := "astWalk", fn := fun _ => fun
  | [d1, d2] => { results := [.lit (.bool false)], args := [d1, d2] }
  | _ => none }
def AstWalkWrongFalsely : Prop := astWalkRow.holds Tryd.pinned (OpenSpec.ofChange astWalkWrong)

/-- 'ontimelaw12.AstParts': WHATEVER THE INPUT: true; the input reads as it did. -/
def astPartsSpec : ChangeSpec := { name := "astParts", fn := fun _ => fun
  | [d1, d2] => { results := [.lit (.bool true)], args := [d1, d2] }
  | _ => none }
def astPartsRow : OpenClaim := { program := "ytmdbbfoejmakdaadoor", sum := "1a47cf34708ab502c6e048229974ddb43e34b028ded26ee923f77cc42f1f4ab2", func := "ontime/ontimelaw12.AstParts", spec := "astParts", unfollowed := true, recurses := true, named := ["strings.asciiSpace", "unicode.White_Space"], loops := true, apart := false, laid := [("unicode.White_Space", laid_unicode_White_Space), ("strings.asciiSpace", laid_strings_asciiSpace)] }
def AstPartsSaid : Prop := astPartsRow.holds Tryd.pinned (OpenSpec.ofChange astPartsSpec)

/-- ITS FALSE NEIGHBOUR: 'it returns false'. Refute it at one input. -/
def astPartsWrong : ChangeSpec := { name := "astParts", fn := fun _ => fun
  | [d1, d2] => { results := [.lit (.bool false)], args := [d1, d2] }
  | _ => none }
def AstPartsWrongFalsely : Prop := astPartsRow.holds Tryd.pinned (OpenSpec.ofChange astPartsWrong)

/-- 'ontimelaw12.AstEqual': WHATEVER THE INPUT: true; the input reads as it did. -/
def astEqualSpec : ChangeSpec := { name := "astEqual", fn := fun _ => fun
  | [d1, d2, d3] => { results := [.lit (.bool true)], args := [d1, d2, d3] }
  | _ => none }
def astEqualRow : OpenClaim := { program := "ytmdbbfoejmakdaadoor", sum := "1a47cf34708ab502c6e048229974ddb43e34b028ded26ee923f77cc42f1f4ab2", func := "ontime/ontimelaw12.AstEqual", spec := "astEqual", unfollowed := true, recurses := true, named := ["strings.asciiSpace", "unicode.White_Space"], loops := true, apart := false, laid := [("unicode.White_Space", laid_unicode_White_Space), ("strings.asciiSpace", laid_strings_asciiSpace)] }
def AstEqualSaid : Prop := astEqualRow.holds Tryd.pinned (OpenSpec.ofChange astEqualSpec)

/-- ITS FALSE NEIGHBOUR: 'it returns false'. Refute it at one input. -/
def astEqualWrong : ChangeSpec := { name := "astEqual", fn := fun _ => fun
  | [d1, d2, d3] => { results := [.lit (.bool false)], args := [d1, d2, d3] }
  | _ => none }
def AstEqualWrongFalsely : Prop := astEqualRow.holds Tryd.pinned (OpenSpec.ofChange astEqualWrong)

/-- 'ontimelaw12.AstAt': WHATEVER THE INPUT: true; the input reads as it did. -/
def astAtSpec : ChangeSpec := { name := "astAt", fn := fun _ => fun
  | [d1, d2] => { results := [.lit (.bool true)], args := [d1, d2] }
  | _ => none }
def astAtRow : OpenClaim := { program := "ytmdbbfoejmakdaadoor", sum := "1a47cf34708ab502c6e048229974ddb43e34b028ded26ee923f77cc42f1f4ab2", func := "ontime/ontimelaw12.AstAt", spec := "astAt", unfollowed := true, recurses := true, named := ["strings.asciiSpace", "unicode.White_Space"], loops := true, apart := false, laid := [("unicode.White_Space", laid_unicode_White_Space), ("strings.asciiSpace", laid_strings_asciiSpace)] }
def AstAtSaid : Prop := astAtRow.holds Tryd.pinned (OpenSpec.ofChange astAtSpec)

/-- ITS FALSE NEIGHBOUR: 'it returns false'. Refute it at one input. -/
def astAtWrong : ChangeSpec := { name := "astAt", fn := fun _ => fun
  | [d1, d2] => { results := [.lit (.bool false)], args := [d1, d2] }
  | _ => none }
def AstAtWrongFalsely : Prop := astAtRow.holds Tryd.pinned (OpenSpec.ofChange astAtWrong)

/-- 'ontimelaw12.AstClone': WHATEVER THE INPUT: true; the input reads as it did. -/
def astCloneSpec : ChangeSpec := { name := "astClone", fn := fun _ => fun
  | [d] => { results := [.lit (.bool true)], args := [d] }
  | _ => none }
def astCloneRow : OpenClaim := { program := "ytmdbbfoejmakdaadoor", sum := "1a47cf34708ab502c6e048229974ddb43e34b028ded26ee923f77cc42f1f4ab2", func := "ontime/ontimelaw12.AstClone", spec := "astClone", unfollowed := true, recurses := true, named := ["strings.asciiSpace", "unicode.White_Space"], loops := true, apart := false, laid := [("unicode.White_Space", laid_unicode_White_Space), ("strings.asciiSpace", laid_strings_asciiSpace)] }
def AstCloneSaid : Prop := astCloneRow.holds Tryd.pinned (OpenSpec.ofChange astCloneSpec)

/-- ITS FALSE NEIGHBOUR: 'it returns false'. Refute it at one input. -/
def astCloneWrong : ChangeSpec := { name := "astClone", fn := fun _ => fun
  | [d] => { results := [.lit (.bool false)], args := [d] }
  | _ => none }
def AstCloneWrongFalsely : Prop := astCloneRow.holds Tryd.pinned (OpenSpec.ofChange astCloneWrong)

/-- 'ontimelaw12.AstCounts': WHATEVER THE INPUT: true; the input reads as it did. -/
def astCountsSpec : ChangeSpec := { name := "astCounts", fn := fun _ => fun
  | [d] => { results := [.lit (.bool true)], args := [d] }
  | _ => none }
def astCountsRow : OpenClaim := { program := "ytmdbbfoejmakdaadoor", sum := "1a47cf34708ab502c6e048229974ddb43e34b028ded26ee923f77cc42f1f4ab2", func := "ontime/ontimelaw12.AstCounts", spec := "astCounts", unfollowed := true, recurses := true, named := ["strings.asciiSpace", "unicode.White_Space"], loops := true, apart := false, laid := [("unicode.White_Space", laid_unicode_White_Space), ("strings.asciiSpace", laid_strings_asciiSpace)] }
def AstCountsSaid : Prop := astCountsRow.holds Tryd.pinned (OpenSpec.ofChange astCountsSpec)

/-- ITS FALSE NEIGHBOUR: 'it returns false'. Refute it at one input. -/
def astCountsWrong : ChangeSpec := { name := "astCounts", fn := fun _ => fun
  | [d] => { results := [.lit (.bool false)], args := [d] }
  | _ => none }
def AstCountsWrongFalsely : Prop := astCountsRow.holds Tryd.pinned (OpenSpec.ofChange astCountsWrong)

/-- 'ontimelaw12.AstValid': WHATEVER THE INPUT: true; the input reads as it did. -/
def astValidSpec : ChangeSpec := { name := "astValid", fn := fun _ => fun
  | [d1, d2] => { results := [.lit (.bool true)], args := [d1, d2] }
  | _ => none }
def astValidRow : OpenClaim := { program := "ytmdbbfoejmakdaadoor", sum := "1a47cf34708ab502c6e048229974ddb43e34b028ded26ee923f77cc42f1f4ab2", func := "ontime/ontimelaw12.AstValid", spec := "astValid", unfollowed := true, recurses := true, named := ["strings.asciiSpace", "unicode.White_Space"], loops := true, apart := false, laid := [("unicode.White_Space", laid_unicode_White_Space), ("strings.asciiSpace", laid_strings_asciiSpace)] }
def AstValidSaid : Prop := astValidRow.holds Tryd.pinned (OpenSpec.ofChange astValidSpec)

/-- ITS FALSE NEIGHBOUR: 'it returns false'. Refute it at one input. -/
def astValidWrong : ChangeSpec := { name := "astValid", fn := fun _ => fun
  | [d1, d2] => { results := [.lit (.bool false)], args := [d1, d2] }
  | _ => none }
def AstValidWrongFalsely : Prop := astValidRow.holds Tryd.pinned (OpenSpec.ofChange astValidWrong)

/-- 'ontimelaw15.CheckFaults': WHATEVER THE INPUT: true; the input reads as it did. -/
def checkFaultsSpec : ChangeSpec := { name := "checkFaults", fn := fun _ => fun
  | [d] => { results := [.lit (.bool true)], args := [d] }
  | _ => none }
def checkFaultsRow : OpenClaim := { program := "ytmdbbfoejmakdaadoor", sum := "1a47cf34708ab502c6e048229974ddb43e34b028ded26ee923f77cc42f1f4ab2", func := "ontime/ontimelaw15.CheckFaults", spec := "checkFaults", inPlace := ["maps.clone"], unfollowed := true, recurses := true, named := ["strings.asciiSpace", "unicode.White_Space"], loops := true, apart := false, laid := [("unicode.White_Space", laid_unicode_White_Space), ("strings.asciiSpace", laid_strings_asciiSpace)] }
def CheckFaultsSaid : Prop := checkFaultsRow.holds Tryd.pinned (OpenSpec.ofChange checkFaultsSpec)

/-- ITS FALSE NEIGHBOUR: 'it returns false'. Refute it at one input. -/
def checkFaultsWrong : ChangeSpec := { name := "checkFaults", fn := fun _ => fun
  | [d] => { results := [.lit (.bool false)], args := [d] }
  | _ => none }
def CheckFaultsWrongFalsely : Prop := checkFaultsRow.holds Tryd.pinned (OpenSpec.ofChange checkFaultsWrong)

/-- 'ontimelaw15.CheckTasks': WHATEVER THE INPUT: true; the input reads as it did. -/
def checkTasksSpec : ChangeSpec := { name := "checkTasks", fn := fun _ => fun
  | [d1, d2] => { results := [.lit (.bool true)], args := [d1, d2] }
  | _ => none }
def checkTasksRow : OpenClaim := { program := "ytmdbbfoejmakdaadoor", sum := "1a47cf34708ab502c6e048229974ddb43e34b028ded26ee923f77cc42f1f4ab2", func := "ontime/ontimelaw15.CheckTasks", spec := "checkTasks", inPlace := ["maps.clone"], unfollowed := true, recurses := true, named := ["strings.asciiSpace", "unicode.White_Space"], loops := true, apart := false, laid := [("unicode.White_Space", laid_unicode_White_Space), ("strings.asciiSpace", laid_strings_asciiSpace)] }
def CheckTasksSaid : Prop := checkTasksRow.holds Tryd.pinned (OpenSpec.ofChange checkTasksSpec)

/-- ITS FALSE NEIGHBOUR: 'it returns false'. Refute it at one input. -/
def checkTasksWrong : ChangeSpec := { name := "checkTasks", fn := fun _ => fun
  | [d1, d2] => { results := [.lit (.bool false)], args := [d1, d2] }
  | _ => none }
def CheckTasksWrongFalsely : Prop := checkTasksRow.holds Tryd.pinned (OpenSpec.ofChange checkTasksWrong)

/-- 'ontimelaw15.CheckTwice': WHATEVER THE INPUT: true; the input reads as it did. -/
def checkTwiceSpec : ChangeSpec := { name := "checkTwice", fn := fun _ => fun
  | [d1, d2, d3] => { results := [.lit (.bool true)], args := [d1, d2, d3] }
  | _ => none }
def checkTwiceRow : OpenClaim := { program := "ytmdbbfoejmakdaadoor", sum := "1a47cf34708ab502c6e048229974ddb43e34b028ded26ee923f77cc42f1f4ab2", func := "ontime/ontimelaw15.CheckTwice", spec := "checkTwice", inPlace := ["maps.clone"], unfollowed := true, recurses := true, named := ["strings.asciiSpace", "unicode.White_Space"], loops := true, apart := false, laid := [("unicode.White_Space", laid_unicode_White_Space), ("strings.asciiSpace", laid_strings_asciiSpace)] }
def CheckTwiceSaid : Prop := checkTwiceRow.holds Tryd.pinned (OpenSpec.ofChange checkTwiceSpec)

/-- ITS FALSE NEIGHBOUR: 'it returns false'. Refute it at one input. -/
def checkTwiceWrong : ChangeSpec := { name := "checkTwice", fn := fun _ => fun
  | [d1, d2, d3] => { results := [.lit (.bool false)], args := [d1, d2, d3] }
  | _ => none }
def CheckTwiceWrongFalsely : Prop := checkTwiceRow.holds Tryd.pinned (OpenSpec.ofChange checkTwiceWrong)

/-- 'ontimelaw15.CheckUndeclared': WHATEVER THE INPUT: true; the input reads as it did. -/
def checkUndeclaredSpec : ChangeSpec := { name := "checkUndeclared", fn := fun _ => fun
  | [d1, d2, d3] => { results := [.lit (.bool true)], args := [d1, d2, d3] }
  | _ => none }
def checkUndeclaredRow : OpenClaim := { program := "ytmdbbfoejmakdaadoor", sum := "1a47cf34708ab502c6e048229974ddb43e34b028ded26ee923f77cc42f1f4ab2", func := "ontime/ontimelaw15.CheckUndeclared", spec := "checkUndeclared", inPlace := ["maps.clone"], unfollowed := true, recurses := true, named := ["strings.asciiSpace", "unicode.White_Space"], loops := true, apart := false, laid := [("unicode.White_Space", laid_unicode_White_Space), ("strings.asciiSpace", laid_strings_asciiSpace)] }
def CheckUndeclaredSaid : Prop := checkUndeclaredRow.holds Tryd.pinned (OpenSpec.ofChange checkUndeclaredSpec)

/-- ITS FALSE NEIGHBOUR: 'it returns false'. Refute it at one input. -/
def checkUndeclaredWrong : ChangeSpec := { name := "checkUndeclared", fn := fun _ => fun
  | [d1, d2, d3] => { results := [.lit (.bool false)], args := [d1, d2, d3] }
  | _ => none }
def CheckUndeclaredWrongFalsely : Prop := checkUndeclaredRow.holds Tryd.pinned (OpenSpec.ofChange checkUndeclaredWrong)

/-- 'ontimelaw15.CheckUnlocked': WHATEVER THE INPUT: true; the input reads as it did. -/
def checkUnlockedSpec : ChangeSpec := { name := "checkUnlocked", fn := fun _ => fun
  | [d1, d2] => { results := [.lit (.bool true)], args := [d1, d2] }
  | _ => none }
def checkUnlockedRow : OpenClaim := { program := "ytmdbbfoejmakdaadoor", sum := "1a47cf34708ab502c6e048229974ddb43e34b028ded26ee923f77cc42f1f4ab2", func := "ontime/ontimelaw15.CheckUnlocked", spec := "checkUnlocked", inPlace := ["maps.clone"], unfollowed := true, recurses := true, named := ["strings.asciiSpace", "unicode.White_Space"], loops := true, apart := false, laid := [("unicode.White_Space", laid_unicode_White_Space), ("strings.asciiSpace", laid_strings_asciiSpace)] }
def CheckUnlockedSaid : Prop := checkUnlockedRow.holds Tryd.pinned (OpenSpec.ofChange checkUnlockedSpec)

/-- ITS FALSE NEIGHBOUR: 'it returns false'. Refute it at one input. -/
def checkUnlockedWrong : ChangeSpec := { name := "checkUnlocked", fn := fun _ => fun
  | [d1, d2] => { results := [.lit (.bool false)], args := [d1, d2] }
  | _ => none }
def CheckUnlockedWrongFalsely : Prop := checkUnlockedRow.holds Tryd.pinned (OpenSpec.ofChange checkUnlockedWrong)

/-- 'ontimelaw15.CheckNested': WHATEVER THE INPUT: true; the input reads as it did. -/
def checkNestedSpec : ChangeSpec := { name := "checkNested", fn := fun _ => fun
  | [d1, d2, d3] => { results := [.lit (.bool true)], args := [d1, d2, d3] }
  | _ => none }
def checkNestedRow : OpenClaim := { program := "ytmdbbfoejmakdaadoor", sum := "1a47cf34708ab502c6e048229974ddb43e34b028ded26ee923f77cc42f1f4ab2", func := "ontime/ontimelaw15.CheckNested", spec := "checkNested", inPlace := ["maps.clone"], unfollowed := true, recurses := true, named := ["strings.asciiSpace", "unicode.White_Space"], loops := true, apart := false, laid := [("unicode.White_Space", laid_unicode_White_Space), ("strings.asciiSpace", laid_strings_asciiSpace)] }
def CheckNestedSaid : Prop := checkNestedRow.holds Tryd.pinned (OpenSpec.ofChange checkNestedSpec)

/-- ITS FALSE NEIGHBOUR: 'it returns false'. Refute it at one input. -/
def checkNestedWrong : ChangeSpec := { name := "checkNested", fn := fun _ => fun
  | [d1, d2, d3] => { results := [.lit (.bool false)], args := [d1, d2, d3] }
  | _ => none }
def CheckNestedWrongFalsely : Prop := checkNestedRow.holds Tryd.pinned (OpenSpec.ofChange checkNestedWrong)

/-- 'ontimelaw15.CheckRenames': WHATEVER THE INPUT: true; the input reads as it did. -/
def checkRenamesSpec : ChangeSpec := { name := "checkRenames", fn := fun _ => fun
  | [d1, d2, d3] => { results := [.lit (.bool true)], args := [d1, d2, d3] }
  | _ => none }
def checkRenamesRow : OpenClaim := { program := "ytmdbbfoejmakdaadoor", sum := "1a47cf34708ab502c6e048229974ddb43e34b028ded26ee923f77cc42f1f4ab2", func := "ontime/ontimelaw15.CheckRenames", spec := "checkRenames", inPlace := ["maps.clone"], unfollowed := true, recurses := true, named := ["strings.asciiSpace", "unicode.White_Space"], loops := true, apart := false, laid := [("unicode.White_Space", laid_unicode_White_Space), ("strings.asciiSpace", laid_strings_asciiSpace)] }
def CheckRenamesSaid : Prop := checkRenamesRow.holds Tryd.pinned (OpenSpec.ofChange checkRenamesSpec)

/-- ITS FALSE NEIGHBOUR: 'it returns false'. Refute it at one input. -/
def checkRenamesWrong : ChangeSpec := { name := "checkRenames", fn := fun _ => fun
  | [d1, d2, d3] => { results := [.lit (.bool false)], args := [d1, d2, d3] }
  | _ => none }
def CheckRenamesWrongFalsely : Prop := checkRenamesRow.holds Tryd.pinned (OpenSpec.ofChange checkRenamesWrong)

/-- 'ontimelaw15.CheckObjects': WHATEVER THE INPUT: true; the input reads as it did. -/
def checkObjectsSpec : ChangeSpec := { name := "checkObjects", fn := fun _ => fun
  | [d1, d2] => { results := [.lit (.bool true)], args := [d1, d2] }
  | _ => none }
def checkObjectsRow : OpenClaim := { program := "ytmdbbfoejmakdaadoor", sum := "1a47cf34708ab502c6e048229974ddb43e34b028ded26ee923f77cc42f1f4ab2", func := "ontime/ontimelaw15.CheckObjects", spec := "checkObjects", inPlace := ["maps.clone"], unfollowed := true, recurses := true, named := ["strings.asciiSpace", "unicode.White_Space"], loops := true, apart := false, laid := [("unicode.White_Space", laid_unicode_White_Space), ("strings.asciiSpace", laid_strings_asciiSpace)] }
def CheckObjectsSaid : Prop := checkObjectsRow.holds Tryd.pinned (OpenSpec.ofChange checkObjectsSpec)

/-- ITS FALSE NEIGHBOUR: 'it returns false'. Refute it at one input. -/
def checkObjectsWrong : ChangeSpec := { name := "checkObjects", fn := fun _ => fun
  | [d1, d2] => { results := [.lit (.bool false)], args := [d1, d2] }
  | _ => none }
def CheckObjectsWrongFalsely : Prop := checkObjectsRow.holds Tryd.pinned (OpenSpec.ofChange checkObjectsWrong)

/-- 'ontimelaw15.CheckLoopVariables': WHATEVER THE INPUT: true; the input reads as it did. -/
def checkLoopVariablesSpec : ChangeSpec := { name := "checkLoopVariables", fn := fun _ => fun
  | [d1, d2, d3] => { results := [.lit (.bool true)], args := [d1, d2, d3] }
  | _ => none }
def checkLoopVariablesRow : OpenClaim := { program := "ytmdbbfoejmakdaadoor", sum := "1a47cf34708ab502c6e048229974ddb43e34b028ded26ee923f77cc42f1f4ab2", func := "ontime/ontimelaw15.CheckLoopVariables", spec := "checkLoopVariables", inPlace := ["maps.clone"], unfollowed := true, recurses := true, named := ["strings.asciiSpace", "unicode.White_Space"], loops := true, apart := false, laid := [("unicode.White_Space", laid_unicode_White_Space), ("strings.asciiSpace", laid_strings_asciiSpace)] }
def CheckLoopVariablesSaid : Prop := checkLoopVariablesRow.holds Tryd.pinned (OpenSpec.ofChange checkLoopVariablesSpec)

/-- ITS FALSE NEIGHBOUR: 'it returns false'. Refute it at one input. -/
def checkLoopVariablesWrong : ChangeSpec := { name := "checkLoopVariables", fn := fun _ => fun
  | [d1, d2, d3] => { results := [.lit (.bool false)], args := [d1, d2, d3] }
  | _ => none }
def CheckLoopVariablesWrongFalsely : Prop := checkLoopVariablesRow.holds Tryd.pinned (OpenSpec.ofChange checkLoopVariablesWrong)

/- THE SECOND FORM. 'bulk': how many values and letters a reading holds, each counted each time it is reached (what is shared counts as often as it is met; a slice's spare places count too). A statement '..UptoSaid' is the law's where the arguments, and the package variables that the reading takes, are together of bulk at most 1048576: NARROWER than '..Said'. Prove '..Said' where nothing that the law and all that it calls make is longer than what came in: it says more and counts as full. Else prove '..UptoSaid'. A law counts once. -/
mutual
def uptoBulk {H : Type} : DataW H → Nat
  | .lit (.string bytes) => bytes.length + 1
  | .lit _ => 1
  | .nil => 1
  | .ptr d => uptoBulk d + 1
  | .slice elems spare => uptoBulkAll elems + uptoBulkAll spare + 1
  | .agg parts => uptoBulkAll parts + 1
  | .iface _ d => uptoBulk d + 1
  | .map entries => uptoBulkEntries entries + 1
  | .held _ => 1
def uptoBulkAll {H : Type} : List (DataW H) → Nat
  | [] => 0
  | d :: r => uptoBulk d + uptoBulkAll r
def uptoBulkEntries {H : Type} : List (Lit × DataW H) → Nat
  | [] => 0
  | x :: r => uptoBulkEntry x + uptoBulkEntries r
def uptoBulkEntry {H : Type} : Lit × DataW H → Nat
  | (.string bytes, d) => bytes.length + uptoBulk d + 1
  | (_, d) => uptoBulk d + 1
 end
def uptoSmall : (H : Type) → List (DataW H) → Bool := fun _ ds => decide (uptoBulkAll ds ≤ 1048576)
def OpenSpec.upto (s : _root_.Go.ChangeSpec) : _root_.Go.OpenSpec := { _root_.Go.OpenSpec.ofChange s with cond := some uptoSmall }

/-- 'ontimelaw12.AstKinds', WHERE WHAT IT READS IS OF BULK AT MOST 1048576: true; the input reads as it did. -/
def astKindsUptoRow : OpenClaim := { program := "ytmdbbfoejmakdaadoor", sum := "1a47cf34708ab502c6e048229974ddb43e34b028ded26ee923f77cc42f1f4ab2", func := "ontime/ontimelaw12.AstKinds", spec := "astKinds", unfollowed := true, recurses := true, named := ["strings.asciiSpace", "unicode.White_Space"], loops := true, apart := false, laid := [("unicode.White_Space", laid_unicode_White_Space), ("strings.asciiSpace", laid_strings_asciiSpace)], narrowed := true }
def AstKindsUptoSaid : Prop := astKindsUptoRow.holds Tryd.pinned (OpenSpec.upto astKindsSpec)

/-- 'ontimelaw12.AstMeasures', WHERE WHAT IT READS IS OF BULK AT MOST 1048576: true; the input reads as it did. -/
def astMeasuresUptoRow : OpenClaim := { program := "ytmdbbfoejmakdaadoor", sum := "1a47cf34708ab502c6e048229974ddb43e34b028ded26ee923f77cc42f1f4ab2", func := "ontime/ontimelaw12.AstMeasures", spec := "astMeasures", unfollowed := true, recurses := true, named := ["strings.asciiSpace", "unicode.White_Space"], loops := true, apart := false, laid := [("unicode.White_Space", laid_unicode_White_Space), ("strings.asciiSpace", laid_strings_asciiSpace)], narrowed := true }
def AstMeasuresUptoSaid : Prop := astMeasuresUptoRow.holds Tryd.pinned (OpenSpec.upto astMeasuresSpec)

/-- 'ontimelaw12.AstWalk', WHERE WHAT IT READS IS OF BULK AT MOST 1048576: true; the input reads as it did. -/
def astWalkUptoRow : OpenClaim := { program := "ytmdbbfoejmakdaadoor", sum := "1a47cf34708ab502c6e048229974ddb43e34b028ded26ee923f77cc42f1f4ab2", func := "ontime/ontimelaw12.AstWalk", spec := "astWalk", unfollowed := true, recurses := true, named := ["strings.asciiSpace", "unicode.White_Space"], loops := true, apart := false, laid := [("unicode.White_Space", laid_unicode_White_Space), ("strings.asciiSpace", laid_strings_asciiSpace)], narrowed := true }
def AstWalkUptoSaid : Prop := astWalkUptoRow.holds Tryd.pinned (OpenSpec.upto astWalkSpec)

/-- 'ontimelaw12.AstParts', WHERE WHAT IT READS IS OF BULK AT MOST 1048576: true; the input reads as it did. -/
def astPartsUptoRow : OpenClaim := { program := "ytmdbbfoejmakdaadoor", sum := "1a47cf34708ab502c6e048229974ddb43e34b028ded26ee923f77cc42f1f4ab2", func := "ontime/ontimelaw12.AstParts", spec := "astParts", unfollowed := true, recurses := true, named := ["strings.asciiSpace", "unicode.White_Space"], loops := true, apart := false, laid := [("unicode.White_Space", laid_unicode_White_Space), ("strings.asciiSpace", laid_strings_asciiSpace)], narrowed := true }
def AstPartsUptoSaid : Prop := astPartsUptoRow.holds Tryd.pinned (OpenSpec.upto astPartsSpec)

/-- 'ontimelaw12.AstEqual', WHERE WHAT IT READS IS OF BULK AT MOST 1048576: true; the input reads as it did. -/
def astEqualUptoRow : OpenClaim := { program := "ytmdbbfoejmakdaadoor", sum := "1a47cf34708ab502c6e048229974ddb43e34b028ded26ee923f77cc42f1f4ab2", func := "ontime/ontimelaw12.AstEqual", spec := "astEqual", unfollowed := true, recurses := true, named := ["strings.asciiSpace", "unicode.White_Space"], loops := true, apart := false, laid := [("unicode.White_Space", laid_unicode_White_Space), ("strings.asciiSpace", laid_strings_asciiSpace)], narrowed := true }
def AstEqualUptoSaid : Prop := astEqualUptoRow.holds Tryd.pinned (OpenSpec.upto astEqualSpec)

/-- 'ontimelaw12.AstAt', WHERE WHAT IT READS IS OF BULK AT MOST 1048576: true; the input reads as it did. -/
def astAtUptoRow : OpenClaim := { program := "ytmdbbfoejmakdaadoor", sum := "1a47cf34708ab502c6e048229974ddb43e34b028ded26ee923f77cc42f1f4ab2", func := "ontime/ontimelaw12.AstAt", spec := "astAt", unfollowed := true, recurses := true, named := ["strings.asciiSpace", "unicode.White_Space"], loops := true, apart := false, laid := [("unicode.White_Space", laid_unicode_White_Space), ("strings.asciiSpace", laid_strings_asciiSpace)], narrowed := true }
def AstAtUptoSaid : Prop := astAtUptoRow.holds Tryd.pinned (OpenSpec.upto astAtSpec)

/-- 'ontimelaw12.AstClone', WHERE WHAT IT READS IS OF BULK AT MOST 1048576: true; the input reads as it did. -/
def astCloneUptoRow : OpenClaim := { program := "ytmdbbfoejmakdaadoor", sum := "1a47cf34708ab502c6e048229974ddb43e34b028ded26ee923f77cc42f1f4ab2", func := "ontime/ontimelaw12.AstClone", spec := "astClone", unfollowed := true, recurses := true, named := ["strings.asciiSpace", "unicode.White_Space"], loops := true, apart := false, laid := [("unicode.White_Space", laid_unicode_White_Space), ("strings.asciiSpace", laid_strings_asciiSpace)], narrowed := true }
def AstCloneUptoSaid : Prop := astCloneUptoRow.holds Tryd.pinned (OpenSpec.upto astCloneSpec)

/-- 'ontimelaw12.AstCounts', WHERE WHAT IT READS IS OF BULK AT MOST 1048576: true; the input reads as it did. -/
def astCountsUptoRow : OpenClaim := { program := "ytmdbbfoejmakdaadoor", sum := "1a47cf34708ab502c6e048229974ddb43e34b028ded26ee923f77cc42f1f4ab2", func := "ontime/ontimelaw12.AstCounts", spec := "astCounts", unfollowed := true, recurses := true, named := ["strings.asciiSpace", "unicode.White_Space"], loops := true, apart := false, laid := [("unicode.White_Space", laid_unicode_White_Space), ("strings.asciiSpace", laid_strings_asciiSpace)], narrowed := true }
def AstCountsUptoSaid : Prop := astCountsUptoRow.holds Tryd.pinned (OpenSpec.upto astCountsSpec)

/-- 'ontimelaw12.AstValid', WHERE WHAT IT READS IS OF BULK AT MOST 1048576: true; the input reads as it did. -/
def astValidUptoRow : OpenClaim := { program := "ytmdbbfoejmakdaadoor", sum := "1a47cf34708ab502c6e048229974ddb43e34b028ded26ee923f77cc42f1f4ab2", func := "ontime/ontimelaw12.AstValid", spec := "astValid", unfollowed := true, recurses := true, named := ["strings.asciiSpace", "unicode.White_Space"], loops := true, apart := false, laid := [("unicode.White_Space", laid_unicode_White_Space), ("strings.asciiSpace", laid_strings_asciiSpace)], narrowed := true }
def AstValidUptoSaid : Prop := astValidUptoRow.holds Tryd.pinned (OpenSpec.upto astValidSpec)

/-- 'ontimelaw15.CheckFaults', WHERE WHAT IT READS IS OF BULK AT MOST 1048576: true; the input reads as it did. -/
def checkFaultsUptoRow : OpenClaim := { program := "ytmdbbfoejmakdaadoor", sum := "1a47cf34708ab502c6e048229974ddb43e34b028ded26ee923f77cc42f1f4ab2", func := "ontime/ontimelaw15.CheckFaults", spec := "checkFaults", inPlace := ["maps.clone"], unfollowed := true, recurses := true, named := ["strings.asciiSpace", "unicode.White_Space"], loops := true, apart := false, laid := [("unicode.White_Space", laid_unicode_White_Space), ("strings.asciiSpace", laid_strings_asciiSpace)], narrowed := true }
def CheckFaultsUptoSaid : Prop := checkFaultsUptoRow.holds Tryd.pinned (OpenSpec.upto checkFaultsSpec)

/-- 'ontimelaw15.CheckTasks', WHERE WHAT IT READS IS OF BULK AT MOST 1048576: true; the input reads as it did. -/
def checkTasksUptoRow : OpenClaim := { program := "ytmdbbfoejmakdaadoor", sum := "1a47cf34708ab502c6e048229974ddb43e34b028ded26ee923f77cc42f1f4ab2", func := "ontime/ontimelaw15.CheckTasks", spec := "checkTasks", inPlace := ["maps.clone"], unfollowed := true, recurses := true, named := ["strings.asciiSpace", "unicode.White_Space"], loops := true, apart := false, laid := [("unicode.White_Space", laid_unicode_White_Space), ("strings.asciiSpace", laid_strings_asciiSpace)], narrowed := true }
def CheckTasksUptoSaid : Prop := checkTasksUptoRow.holds Tryd.pinned (OpenSpec.upto checkTasksSpec)

/-- 'ontimelaw15.CheckTwice', WHERE WHAT IT READS IS OF BULK AT MOST 1048576: true; the input reads as it did. -/
def checkTwiceUptoRow : OpenClaim := { program := "ytmdbbfoejmakdaadoor", sum := "1a47cf34708ab502c6e048229974ddb43e34b028ded26ee923f77cc42f1f4ab2", func := "ontime/ontimelaw15.CheckTwice", spec := "checkTwice", inPlace := ["maps.clone"], unfollowed := true, recurses := true, named := ["strings.asciiSpace", "unicode.White_Space"], loops := true, apart := false, laid := [("unicode.White_Space", laid_unicode_White_Space), ("strings.asciiSpace", laid_strings_asciiSpace)], narrowed := true }
def CheckTwiceUptoSaid : Prop := checkTwiceUptoRow.holds Tryd.pinned (OpenSpec.upto checkTwiceSpec)

/-- 'ontimelaw15.CheckUndeclared', WHERE WHAT IT READS IS OF BULK AT MOST 1048576: true; the input reads as it did. -/
def checkUndeclaredUptoRow : OpenClaim := { program := "ytmdbbfoejmakdaadoor", sum := "1a47cf34708ab502c6e048229974ddb43e34b028ded26ee923f77cc42f1f4ab2", func := "ontime/ontimelaw15.CheckUndeclared", spec := "checkUndeclared", inPlace := ["maps.clone"], unfollowed := true, recurses := true, named := ["strings.asciiSpace", "unicode.White_Space"], loops := true, apart := false, laid := [("unicode.White_Space", laid_unicode_White_Space), ("strings.asciiSpace", laid_strings_asciiSpace)], narrowed := true }
def CheckUndeclaredUptoSaid : Prop := checkUndeclaredUptoRow.holds Tryd.pinned (OpenSpec.upto checkUndeclaredSpec)

/-- 'ontimelaw15.CheckUnlocked', WHERE WHAT IT READS IS OF BULK AT MOST 1048576: true; the input reads as it did. -/
def checkUnlockedUptoRow : OpenClaim := { program := "ytmdbbfoejmakdaadoor", sum := "1a47cf34708ab502c6e048229974ddb43e34b028ded26ee923f77cc42f1f4ab2", func := "ontime/ontimelaw15.CheckUnlocked", spec := "checkUnlocked", inPlace := ["maps.clone"], unfollowed := true, recurses := true, named := ["strings.asciiSpace", "unicode.White_Space"], loops := true, apart := false, laid := [("unicode.White_Space", laid_unicode_White_Space), ("strings.asciiSpace", laid_strings_asciiSpace)], narrowed := true }
def CheckUnlockedUptoSaid : Prop := checkUnlockedUptoRow.holds Tryd.pinned (OpenSpec.upto checkUnlockedSpec)

/-- 'ontimelaw15.CheckNested', WHERE WHAT IT READS IS OF BULK AT MOST 1048576: true; the input reads as it did. -/
def checkNestedUptoRow : OpenClaim := { program := "ytmdbbfoejmakdaadoor", sum := "1a47cf34708ab502c6e048229974ddb43e34b028ded26ee923f77cc42f1f4ab2", func := "ontime/ontimelaw15.CheckNested", spec := "checkNested", inPlace := ["maps.clone"], unfollowed := true, recurses := true, named := ["strings.asciiSpace", "unicode.White_Space"], loops := true, apart := false, laid := [("unicode.White_Space", laid_unicode_White_Space), ("strings.asciiSpace", laid_strings_asciiSpace)], narrowed := true }
def CheckNestedUptoSaid : Prop := checkNestedUptoRow.holds Tryd.pinned (OpenSpec.upto checkNestedSpec)

/-- 'ontimelaw15.CheckRenames', WHERE WHAT IT READS IS OF BULK AT MOST 1048576: true; the input reads as it did. -/
def checkRenamesUptoRow : OpenClaim := { program := "ytmdbbfoejmakdaadoor", sum := "1a47cf34708ab502c6e048229974ddb43e34b028ded26ee923f77cc42f1f4ab2", func := "ontime/ontimelaw15.CheckRenames", spec := "checkRenames", inPlace := ["maps.clone"], unfollowed := true, recurses := true, named := ["strings.asciiSpace", "unicode.White_Space"], loops := true, apart := false, laid := [("unicode.White_Space", laid_unicode_White_Space), ("strings.asciiSpace", laid_strings_asciiSpace)], narrowed := true }
def CheckRenamesUptoSaid : Prop := checkRenamesUptoRow.holds Tryd.pinned (OpenSpec.upto checkRenamesSpec)

/-- 'ontimelaw15.CheckObjects', WHERE WHAT IT READS IS OF BULK AT MOST 1048576: true; the input reads as it did. -/
def checkObjectsUptoRow : OpenClaim := { program := "ytmdbbfoejmakdaadoor", sum := "1a47cf34708ab502c6e048229974ddb43e34b028ded26ee923f77cc42f1f4ab2", func := "ontime/ontimelaw15.CheckObjects", spec := "checkObjects", inPlace := ["maps.clone"], unfollowed := true, recurses := true, named := ["strings.asciiSpace", "unicode.White_Space"], loops := true, apart := false, laid := [("unicode.White_Space", laid_unicode_White_Space), ("strings.asciiSpace", laid_strings_asciiSpace)], narrowed := true }
def CheckObjectsUptoSaid : Prop := checkObjectsUptoRow.holds Tryd.pinned (OpenSpec.upto checkObjectsSpec)

/-- 'ontimelaw15.CheckLoopVariables', WHERE WHAT IT READS IS OF BULK AT MOST 1048576: true; the input reads as it did. -/
def checkLoopVariablesUptoRow : OpenClaim := { program := "ytmdbbfoejmakdaadoor", sum := "1a47cf34708ab502c6e048229974ddb43e34b028ded26ee923f77cc42f1f4ab2", func := "ontime/ontimelaw15.CheckLoopVariables", spec := "checkLoopVariables", inPlace := ["maps.clone"], unfollowed := true, recurses := true, named := ["strings.asciiSpace", "unicode.White_Space"], loops := true, apart := false, laid := [("unicode.White_Space", laid_unicode_White_Space), ("strings.asciiSpace", laid_strings_asciiSpace)], narrowed := true }
def CheckLoopVariablesUptoSaid : Prop := checkLoopVariablesUptoRow.holds Tryd.pinned (OpenSpec.upto checkLoopVariablesSpec)

end Rows
end Go.Proofs.YtmdbbfoejmakdaaDoor
