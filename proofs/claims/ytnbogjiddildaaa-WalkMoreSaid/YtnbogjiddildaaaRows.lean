/-
  No cell of these rows narrows 'for every input' (looked for: loops, veiled, ifaces, maps, wideKeys, modest, calm, conditions, laid).
  DERIVED. THE GIVEN ROWS OF THIS SEAT. 22 by the template 'for every input the law returns true; each argument reads behind the call as it read before'; 0 by the template 'total and deterministic' (their statements: YtnbogjiddildaaaTotals.lean).
  GIVEN WITH THE SEED: the statements are not yours to turn. If you find one false, say at which input.
  Laid BY PROGRAM, IN A SANDBOX (cutbox-rows.mjs): the forced cells as the released guide's own fill.sh prints them over the translation 6d9263dbeba3e78f… (all of the seat's roots in one cut). By AI agents, Wed Nov 11 2026. No macro, syntax, notation, axiom, sorry.
-/
import Derived.Test.YtnbogjiddildaaaChecked
import GoSem.Claim
import GoSem.ClaimJoined
import GoSem.ClaimMapViews
import Derived.JoinedTies
import Derived.KernelRfl
namespace Go.Proofs.Ytnbogjiddildaaa
/- THE CELL 'sum', in the pinned program and in every row, IS THE sha256 OF THE DUMP (.gsa) THAT YtnbogjiddildaaaProg.lean LOADS. Nothing in Lean hashes anything: it is a label: what it is worth is what the hold of that sum in a sandbox is worth. -/
noncomputable def Try.pinned : Pinned := { name := "ytnbogjiddildaaa", sum := "6d9263dbeba3e78f1eb781f76db76582ccc98508a01550f6a17f03eb652984ef", checked := Try.checked }
namespace Rows
def none {H : Type} : Left H := { results := [], args := [] }

/-- 'reticulelaw05.GridLinks': WHATEVER THE INPUT: true; the input reads as it did. -/
def gridLinksSpec : ChangeSpec := { name := "gridLinks", fn := fun _ => fun
  | [d1, d2] => { results := [.lit (.bool true)], args := [d1, d2] }
  | _ => none }
def gridLinksRow : OpenClaim := { program := "ytnbogjiddildaaa", sum := "6d9263dbeba3e78f1eb781f76db76582ccc98508a01550f6a17f03eb652984ef", func := "reticule/reticulelaw05.GridLinks", spec := "gridLinks", unfollowed := true, recurses := true, apart := false }
def GridLinksSaid : Prop := gridLinksRow.holds Try.pinned (OpenSpec.ofChange gridLinksSpec)

/-- ITS FALSE NEIGHBOUR: 'it returns false'. Refute it at one input. -/
def gridLinksWrong : ChangeSpec := { name := "gridLinks", fn := fun _ => fun
  | [d1, d2] => { results := [.lit (.bool false)], args := [d1, d2] }
  | _ => none }
def GridLinksWrongFalsely : Prop := gridLinksRow.holds Try.pinned (OpenSpec.ofChange gridLinksWrong)

/-- 'reticulelaw05.GridFar': WHATEVER THE INPUT: true; the input reads as it did. -/
def gridFarSpec : ChangeSpec := { name := "gridFar", fn := fun _ => fun
  | [d1, d2, d3] => { results := [.lit (.bool true)], args := [d1, d2, d3] }
  | _ => none }
def gridFarRow : OpenClaim := { program := "ytnbogjiddildaaa", sum := "6d9263dbeba3e78f1eb781f76db76582ccc98508a01550f6a17f03eb652984ef", func := "reticule/reticulelaw05.GridFar", spec := "gridFar", unfollowed := true, recurses := true, apart := false }
def GridFarSaid : Prop := gridFarRow.holds Try.pinned (OpenSpec.ofChange gridFarSpec)

/-- ITS FALSE NEIGHBOUR: 'it returns false'. Refute it at one input. -/
def gridFarWrong : ChangeSpec := { name := "gridFar", fn := fun _ => fun
  | [d1, d2, d3] => { results := [.lit (.bool false)], args := [d1, d2, d3] }
  | _ => none }
def GridFarWrongFalsely : Prop := gridFarRow.holds Try.pinned (OpenSpec.ofChange gridFarWrong)

/-- 'reticulelaw05.GridPlaces': WHATEVER THE INPUT: true; the input reads as it did. -/
def gridPlacesSpec : ChangeSpec := { name := "gridPlaces", fn := fun _ => fun
  | [d1, d2] => { results := [.lit (.bool true)], args := [d1, d2] }
  | _ => none }
def gridPlacesRow : OpenClaim := { program := "ytnbogjiddildaaa", sum := "6d9263dbeba3e78f1eb781f76db76582ccc98508a01550f6a17f03eb652984ef", func := "reticule/reticulelaw05.GridPlaces", spec := "gridPlaces", unfollowed := true, recurses := true, apart := false }
def GridPlacesSaid : Prop := gridPlacesRow.holds Try.pinned (OpenSpec.ofChange gridPlacesSpec)

/-- ITS FALSE NEIGHBOUR: 'it returns false'. Refute it at one input. -/
def gridPlacesWrong : ChangeSpec := { name := "gridPlaces", fn := fun _ => fun
  | [d1, d2] => { results := [.lit (.bool false)], args := [d1, d2] }
  | _ => none }
def GridPlacesWrongFalsely : Prop := gridPlacesRow.holds Try.pinned (OpenSpec.ofChange gridPlacesWrong)

/-- 'reticulelaw05.GridBack': WHATEVER THE INPUT: true; the input reads as it did. -/
def gridBackSpec : ChangeSpec := { name := "gridBack", fn := fun _ => fun
  | [d1, d2, d3] => { results := [.lit (.bool true)], args := [d1, d2, d3] }
  | _ => none }
def gridBackRow : OpenClaim := { program := "ytnbogjiddildaaa", sum := "6d9263dbeba3e78f1eb781f76db76582ccc98508a01550f6a17f03eb652984ef", func := "reticule/reticulelaw05.GridBack", spec := "gridBack", unfollowed := true, recurses := true, apart := false }
def GridBackSaid : Prop := gridBackRow.holds Try.pinned (OpenSpec.ofChange gridBackSpec)

/-- ITS FALSE NEIGHBOUR: 'it returns false'. Refute it at one input. -/
def gridBackWrong : ChangeSpec := { name := "gridBack", fn := fun _ => fun
  | [d1, d2, d3] => { results := [.lit (.bool false)], args := [d1, d2, d3] }
  | _ => none }
def GridBackWrongFalsely : Prop := gridBackRow.holds Try.pinned (OpenSpec.ofChange gridBackWrong)

/-- 'reticulelaw05.GridSteps': WHATEVER THE INPUT: true; the input reads as it did. -/
def gridStepsSpec : ChangeSpec := { name := "gridSteps", fn := fun _ => fun
  | [d1, d2, d3] => { results := [.lit (.bool true)], args := [d1, d2, d3] }
  | _ => none }
def gridStepsRow : OpenClaim := { program := "ytnbogjiddildaaa", sum := "6d9263dbeba3e78f1eb781f76db76582ccc98508a01550f6a17f03eb652984ef", func := "reticule/reticulelaw05.GridSteps", spec := "gridSteps", unfollowed := true, recurses := true, apart := false }
def GridStepsSaid : Prop := gridStepsRow.holds Try.pinned (OpenSpec.ofChange gridStepsSpec)

/-- ITS FALSE NEIGHBOUR: 'it returns false'. Refute it at one input. -/
def gridStepsWrong : ChangeSpec := { name := "gridSteps", fn := fun _ => fun
  | [d1, d2, d3] => { results := [.lit (.bool false)], args := [d1, d2, d3] }
  | _ => none }
def GridStepsWrongFalsely : Prop := gridStepsRow.holds Try.pinned (OpenSpec.ofChange gridStepsWrong)

/-- 'reticulelaw18.PickParts': WHATEVER THE INPUT: true; the input reads as it did. -/
def pickPartsSpec : ChangeSpec := { name := "pickParts", fn := fun _ => fun
  | [d1, d2, d3] => { results := [.lit (.bool true)], args := [d1, d2, d3] }
  | _ => none }
def pickPartsRow : OpenClaim := { program := "ytnbogjiddildaaa", sum := "6d9263dbeba3e78f1eb781f76db76582ccc98508a01550f6a17f03eb652984ef", func := "reticule/reticulelaw18.PickParts", spec := "pickParts", unfollowed := true, recurses := true, apart := false }
def PickPartsSaid : Prop := pickPartsRow.holds Try.pinned (OpenSpec.ofChange pickPartsSpec)

/-- ITS FALSE NEIGHBOUR: 'it returns false'. Refute it at one input. -/
def pickPartsWrong : ChangeSpec := { name := "pickParts", fn := fun _ => fun
  | [d1, d2, d3] => { results := [.lit (.bool false)], args := [d1, d2, d3] }
  | _ => none }
def PickPartsWrongFalsely : Prop := pickPartsRow.holds Try.pinned (OpenSpec.ofChange pickPartsWrong)

/-- 'reticulelaw18.PickBack': WHATEVER THE INPUT: true; the input reads as it did. -/
def pickBackSpec : ChangeSpec := { name := "pickBack", fn := fun _ => fun
  | [d1, d2, d3] => { results := [.lit (.bool true)], args := [d1, d2, d3] }
  | _ => none }
def pickBackRow : OpenClaim := { program := "ytnbogjiddildaaa", sum := "6d9263dbeba3e78f1eb781f76db76582ccc98508a01550f6a17f03eb652984ef", func := "reticule/reticulelaw18.PickBack", spec := "pickBack", unfollowed := true, recurses := true, apart := false }
def PickBackSaid : Prop := pickBackRow.holds Try.pinned (OpenSpec.ofChange pickBackSpec)

/-- ITS FALSE NEIGHBOUR: 'it returns false'. Refute it at one input. -/
def pickBackWrong : ChangeSpec := { name := "pickBack", fn := fun _ => fun
  | [d1, d2, d3] => { results := [.lit (.bool false)], args := [d1, d2, d3] }
  | _ => none }
def PickBackWrongFalsely : Prop := pickBackRow.holds Try.pinned (OpenSpec.ofChange pickBackWrong)

/-- 'reticulelaw06.TurnOptions': WHATEVER THE INPUT: true; the input reads as it did. -/
def turnOptionsSpec : ChangeSpec := { name := "turnOptions", fn := fun _ => fun
  | [d1, d2, d3] => { results := [.lit (.bool true)], args := [d1, d2, d3] }
  | _ => none }
def turnOptionsRow : OpenClaim := { program := "ytnbogjiddildaaa", sum := "6d9263dbeba3e78f1eb781f76db76582ccc98508a01550f6a17f03eb652984ef", func := "reticule/reticulelaw06.TurnOptions", spec := "turnOptions", unfollowed := true, recurses := true, apart := false }
def TurnOptionsSaid : Prop := turnOptionsRow.holds Try.pinned (OpenSpec.ofChange turnOptionsSpec)

/-- ITS FALSE NEIGHBOUR: 'it returns false'. Refute it at one input. -/
def turnOptionsWrong : ChangeSpec := { name := "turnOptions", fn := fun _ => fun
  | [d1, d2, d3] => { results := [.lit (.bool false)], args := [d1, d2, d3] }
  | _ => none }
def TurnOptionsWrongFalsely : Prop := turnOptionsRow.holds Try.pinned (OpenSpec.ofChange turnOptionsWrong)

/-- 'reticulelaw18.PickRounds': WHATEVER THE INPUT: true; the input reads as it did. -/
def pickRoundsSpec : ChangeSpec := { name := "pickRounds", fn := fun _ => fun
  | [d1, d2, d3] => { results := [.lit (.bool true)], args := [d1, d2, d3] }
  | _ => none }
def pickRoundsRow : OpenClaim := { program := "ytnbogjiddildaaa", sum := "6d9263dbeba3e78f1eb781f76db76582ccc98508a01550f6a17f03eb652984ef", func := "reticule/reticulelaw18.PickRounds", spec := "pickRounds", unfollowed := true, recurses := true, apart := false }
def PickRoundsSaid : Prop := pickRoundsRow.holds Try.pinned (OpenSpec.ofChange pickRoundsSpec)

/-- ITS FALSE NEIGHBOUR: 'it returns false'. Refute it at one input. -/
def pickRoundsWrong : ChangeSpec := { name := "pickRounds", fn := fun _ => fun
  | [d1, d2, d3] => { results := [.lit (.bool false)], args := [d1, d2, d3] }
  | _ => none }
def PickRoundsWrongFalsely : Prop := pickRoundsRow.holds Try.pinned (OpenSpec.ofChange pickRoundsWrong)

/-- 'reticulelaw18.PickOnce': WHATEVER THE INPUT: true; the input reads as it did. -/
def pickOnceSpec : ChangeSpec := { name := "pickOnce", fn := fun _ => fun
  | [d1, d2, d3] => { results := [.lit (.bool true)], args := [d1, d2, d3] }
  | _ => none }
def pickOnceRow : OpenClaim := { program := "ytnbogjiddildaaa", sum := "6d9263dbeba3e78f1eb781f76db76582ccc98508a01550f6a17f03eb652984ef", func := "reticule/reticulelaw18.PickOnce", spec := "pickOnce", unfollowed := true, recurses := true, apart := false }
def PickOnceSaid : Prop := pickOnceRow.holds Try.pinned (OpenSpec.ofChange pickOnceSpec)

/-- ITS FALSE NEIGHBOUR: 'it returns false'. Refute it at one input. -/
def pickOnceWrong : ChangeSpec := { name := "pickOnce", fn := fun _ => fun
  | [d1, d2, d3] => { results := [.lit (.bool false)], args := [d1, d2, d3] }
  | _ => none }
def PickOnceWrongFalsely : Prop := pickOnceRow.holds Try.pinned (OpenSpec.ofChange pickOnceWrong)

/-- 'reticulelaw18.PickKinds': WHATEVER THE INPUT: true; the input reads as it did. -/
def pickKindsSpec : ChangeSpec := { name := "pickKinds", fn := fun _ => fun
  | [d1, d2] => { results := [.lit (.bool true)], args := [d1, d2] }
  | _ => none }
def pickKindsRow : OpenClaim := { program := "ytnbogjiddildaaa", sum := "6d9263dbeba3e78f1eb781f76db76582ccc98508a01550f6a17f03eb652984ef", func := "reticule/reticulelaw18.PickKinds", spec := "pickKinds", unfollowed := true, recurses := true, apart := false }
def PickKindsSaid : Prop := pickKindsRow.holds Try.pinned (OpenSpec.ofChange pickKindsSpec)

/-- ITS FALSE NEIGHBOUR: 'it returns false'. Refute it at one input. -/
def pickKindsWrong : ChangeSpec := { name := "pickKinds", fn := fun _ => fun
  | [d1, d2] => { results := [.lit (.bool false)], args := [d1, d2] }
  | _ => none }
def PickKindsWrongFalsely : Prop := pickKindsRow.holds Try.pinned (OpenSpec.ofChange pickKindsWrong)

/-- 'reticulelaw18.PickFirst': WHATEVER THE INPUT: true; the input reads as it did. -/
def pickFirstSpec : ChangeSpec := { name := "pickFirst", fn := fun _ => fun
  | [d1, d2, d3] => { results := [.lit (.bool true)], args := [d1, d2, d3] }
  | _ => none }
def pickFirstRow : OpenClaim := { program := "ytnbogjiddildaaa", sum := "6d9263dbeba3e78f1eb781f76db76582ccc98508a01550f6a17f03eb652984ef", func := "reticule/reticulelaw18.PickFirst", spec := "pickFirst", unfollowed := true, recurses := true, apart := false }
def PickFirstSaid : Prop := pickFirstRow.holds Try.pinned (OpenSpec.ofChange pickFirstSpec)

/-- ITS FALSE NEIGHBOUR: 'it returns false'. Refute it at one input. -/
def pickFirstWrong : ChangeSpec := { name := "pickFirst", fn := fun _ => fun
  | [d1, d2, d3] => { results := [.lit (.bool false)], args := [d1, d2, d3] }
  | _ => none }
def PickFirstWrongFalsely : Prop := pickFirstRow.holds Try.pinned (OpenSpec.ofChange pickFirstWrong)

/-- 'reticulelaw06.TurnNearer': WHATEVER THE INPUT: true; the input reads as it did. -/
def turnNearerSpec : ChangeSpec := { name := "turnNearer", fn := fun _ => fun
  | [d1, d2, d3] => { results := [.lit (.bool true)], args := [d1, d2, d3] }
  | _ => none }
def turnNearerRow : OpenClaim := { program := "ytnbogjiddildaaa", sum := "6d9263dbeba3e78f1eb781f76db76582ccc98508a01550f6a17f03eb652984ef", func := "reticule/reticulelaw06.TurnNearer", spec := "turnNearer", unfollowed := true, recurses := true, apart := false }
def TurnNearerSaid : Prop := turnNearerRow.holds Try.pinned (OpenSpec.ofChange turnNearerSpec)

/-- ITS FALSE NEIGHBOUR: 'it returns false'. Refute it at one input. -/
def turnNearerWrong : ChangeSpec := { name := "turnNearer", fn := fun _ => fun
  | [d1, d2, d3] => { results := [.lit (.bool false)], args := [d1, d2, d3] }
  | _ => none }
def TurnNearerWrongFalsely : Prop := turnNearerRow.holds Try.pinned (OpenSpec.ofChange turnNearerWrong)

/-- 'reticulelaw06.TurnGoes': WHATEVER THE INPUT: true; the input reads as it did. -/
def turnGoesSpec : ChangeSpec := { name := "turnGoes", fn := fun _ => fun
  | [d1, d2, d3] => { results := [.lit (.bool true)], args := [d1, d2, d3] }
  | _ => none }
def turnGoesRow : OpenClaim := { program := "ytnbogjiddildaaa", sum := "6d9263dbeba3e78f1eb781f76db76582ccc98508a01550f6a17f03eb652984ef", func := "reticule/reticulelaw06.TurnGoes", spec := "turnGoes", unfollowed := true, recurses := true, apart := false }
def TurnGoesSaid : Prop := turnGoesRow.holds Try.pinned (OpenSpec.ofChange turnGoesSpec)

/-- ITS FALSE NEIGHBOUR: 'it returns false'. Refute it at one input. -/
def turnGoesWrong : ChangeSpec := { name := "turnGoes", fn := fun _ => fun
  | [d1, d2, d3] => { results := [.lit (.bool false)], args := [d1, d2, d3] }
  | _ => none }
def TurnGoesWrongFalsely : Prop := turnGoesRow.holds Try.pinned (OpenSpec.ofChange turnGoesWrong)

/-- 'reticulelaw06.TurnAllowed': WHATEVER THE INPUT: true; the input reads as it did. -/
def turnAllowedSpec : ChangeSpec := { name := "turnAllowed", fn := fun _ => fun
  | [d1, d2, d3] => { results := [.lit (.bool true)], args := [d1, d2, d3] }
  | _ => none }
def turnAllowedRow : OpenClaim := { program := "ytnbogjiddildaaa", sum := "6d9263dbeba3e78f1eb781f76db76582ccc98508a01550f6a17f03eb652984ef", func := "reticule/reticulelaw06.TurnAllowed", spec := "turnAllowed", unfollowed := true, recurses := true, apart := false }
def TurnAllowedSaid : Prop := turnAllowedRow.holds Try.pinned (OpenSpec.ofChange turnAllowedSpec)

/-- ITS FALSE NEIGHBOUR: 'it returns false'. Refute it at one input. -/
def turnAllowedWrong : ChangeSpec := { name := "turnAllowed", fn := fun _ => fun
  | [d1, d2, d3] => { results := [.lit (.bool false)], args := [d1, d2, d3] }
  | _ => none }
def TurnAllowedWrongFalsely : Prop := turnAllowedRow.holds Try.pinned (OpenSpec.ofChange turnAllowedWrong)

/-- 'reticulelaw06.TurnWays': WHATEVER THE INPUT: true; the input reads as it did. -/
def turnWaysSpec : ChangeSpec := { name := "turnWays", fn := fun _ => fun
  | [d1, d2, d3] => { results := [.lit (.bool true)], args := [d1, d2, d3] }
  | _ => none }
def turnWaysRow : OpenClaim := { program := "ytnbogjiddildaaa", sum := "6d9263dbeba3e78f1eb781f76db76582ccc98508a01550f6a17f03eb652984ef", func := "reticule/reticulelaw06.TurnWays", spec := "turnWays", unfollowed := true, recurses := true, apart := false }
def TurnWaysSaid : Prop := turnWaysRow.holds Try.pinned (OpenSpec.ofChange turnWaysSpec)

/-- ITS FALSE NEIGHBOUR: 'it returns false'. Refute it at one input. -/
def turnWaysWrong : ChangeSpec := { name := "turnWays", fn := fun _ => fun
  | [d1, d2, d3] => { results := [.lit (.bool false)], args := [d1, d2, d3] }
  | _ => none }
def TurnWaysWrongFalsely : Prop := turnWaysRow.holds Try.pinned (OpenSpec.ofChange turnWaysWrong)

/-- 'reticulelaw06.TurnStraight': WHATEVER THE INPUT: true; the input reads as it did. -/
def turnStraightSpec : ChangeSpec := { name := "turnStraight", fn := fun _ => fun
  | [d1, d2, d3] => { results := [.lit (.bool true)], args := [d1, d2, d3] }
  | _ => none }
def turnStraightRow : OpenClaim := { program := "ytnbogjiddildaaa", sum := "6d9263dbeba3e78f1eb781f76db76582ccc98508a01550f6a17f03eb652984ef", func := "reticule/reticulelaw06.TurnStraight", spec := "turnStraight", unfollowed := true, recurses := true, apart := false }
def TurnStraightSaid : Prop := turnStraightRow.holds Try.pinned (OpenSpec.ofChange turnStraightSpec)

/-- ITS FALSE NEIGHBOUR: 'it returns false'. Refute it at one input. -/
def turnStraightWrong : ChangeSpec := { name := "turnStraight", fn := fun _ => fun
  | [d1, d2, d3] => { results := [.lit (.bool false)], args := [d1, d2, d3] }
  | _ => none }
def TurnStraightWrongFalsely : Prop := turnStraightRow.holds Try.pinned (OpenSpec.ofChange turnStraightWrong)

/-- 'reticulelaw09.WalkWork': WHATEVER THE INPUT: true; the input reads as it did. -/
def walkWorkSpec : ChangeSpec := { name := "walkWork", fn := fun _ => fun
  | [d1, d2, d3] => { results := [.lit (.bool true)], args := [d1, d2, d3] }
  | _ => none }
def walkWorkRow : OpenClaim := { program := "ytnbogjiddildaaa", sum := "6d9263dbeba3e78f1eb781f76db76582ccc98508a01550f6a17f03eb652984ef", func := "reticule/reticulelaw09.WalkWork", spec := "walkWork", unfollowed := true, recurses := true, apart := false }
def WalkWorkSaid : Prop := walkWorkRow.holds Try.pinned (OpenSpec.ofChange walkWorkSpec)

/-- ITS FALSE NEIGHBOUR: 'it returns false'. Refute it at one input. -/
def walkWorkWrong : ChangeSpec := { name := "walkWork", fn := fun _ => fun
  | [d1, d2, d3] => { results := [.lit (.bool false)], args := [d1, d2, d3] }
  | _ => none }
def WalkWorkWrongFalsely : Prop := walkWorkRow.holds Try.pinned (OpenSpec.ofChange walkWorkWrong)

/-- 'reticulelaw09.WalkMore': WHATEVER THE INPUT: true; the input reads as it did. -/
def walkMoreSpec : ChangeSpec := { name := "walkMore", fn := fun _ => fun
  | [d1, d2] => { results := [.lit (.bool true)], args := [d1, d2] }
  | _ => none }
def walkMoreRow : OpenClaim := { program := "ytnbogjiddildaaa", sum := "6d9263dbeba3e78f1eb781f76db76582ccc98508a01550f6a17f03eb652984ef", func := "reticule/reticulelaw09.WalkMore", spec := "walkMore", unfollowed := true, recurses := true, apart := false }
def WalkMoreSaid : Prop := walkMoreRow.holds Try.pinned (OpenSpec.ofChange walkMoreSpec)

/-- ITS FALSE NEIGHBOUR: 'it returns false'. Refute it at one input. -/
def walkMoreWrong : ChangeSpec := { name := "walkMore", fn := fun _ => fun
  | [d1, d2] => { results := [.lit (.bool false)], args := [d1, d2] }
  | _ => none }
def WalkMoreWrongFalsely : Prop := walkMoreRow.holds Try.pinned (OpenSpec.ofChange walkMoreWrong)

/-- 'reticulelaw09.WalkChoices': WHATEVER THE INPUT: true; the input reads as it did. -/
def walkChoicesSpec : ChangeSpec := { name := "walkChoices", fn := fun _ => fun
  | [d1, d2, d3] => { results := [.lit (.bool true)], args := [d1, d2, d3] }
  | _ => none }
def walkChoicesRow : OpenClaim := { program := "ytnbogjiddildaaa", sum := "6d9263dbeba3e78f1eb781f76db76582ccc98508a01550f6a17f03eb652984ef", func := "reticule/reticulelaw09.WalkChoices", spec := "walkChoices", unfollowed := true, recurses := true, apart := false }
def WalkChoicesSaid : Prop := walkChoicesRow.holds Try.pinned (OpenSpec.ofChange walkChoicesSpec)

/-- ITS FALSE NEIGHBOUR: 'it returns false'. Refute it at one input. -/
def walkChoicesWrong : ChangeSpec := { name := "walkChoices", fn := fun _ => fun
  | [d1, d2, d3] => { results := [.lit (.bool false)], args := [d1, d2, d3] }
  | _ => none }
def WalkChoicesWrongFalsely : Prop := walkChoicesRow.holds Try.pinned (OpenSpec.ofChange walkChoicesWrong)

/-- 'reticulelaw09.WalkTurns': WHATEVER THE INPUT: true; the input reads as it did. -/
def walkTurnsSpec : ChangeSpec := { name := "walkTurns", fn := fun _ => fun
  | [d1, d2, d3] => { results := [.lit (.bool true)], args := [d1, d2, d3] }
  | _ => none }
def walkTurnsRow : OpenClaim := { program := "ytnbogjiddildaaa", sum := "6d9263dbeba3e78f1eb781f76db76582ccc98508a01550f6a17f03eb652984ef", func := "reticule/reticulelaw09.WalkTurns", spec := "walkTurns", unfollowed := true, recurses := true, apart := false }
def WalkTurnsSaid : Prop := walkTurnsRow.holds Try.pinned (OpenSpec.ofChange walkTurnsSpec)

/-- ITS FALSE NEIGHBOUR: 'it returns false'. Refute it at one input. -/
def walkTurnsWrong : ChangeSpec := { name := "walkTurns", fn := fun _ => fun
  | [d1, d2, d3] => { results := [.lit (.bool false)], args := [d1, d2, d3] }
  | _ => none }
def WalkTurnsWrongFalsely : Prop := walkTurnsRow.holds Try.pinned (OpenSpec.ofChange walkTurnsWrong)

/-- 'reticulelaw09.WalkFar': WHATEVER THE INPUT: true; the input reads as it did. -/
def walkFarSpec : ChangeSpec := { name := "walkFar", fn := fun _ => fun
  | [d1, d2, d3] => { results := [.lit (.bool true)], args := [d1, d2, d3] }
  | _ => none }
def walkFarRow : OpenClaim := { program := "ytnbogjiddildaaa", sum := "6d9263dbeba3e78f1eb781f76db76582ccc98508a01550f6a17f03eb652984ef", func := "reticule/reticulelaw09.WalkFar", spec := "walkFar", unfollowed := true, recurses := true, apart := false }
def WalkFarSaid : Prop := walkFarRow.holds Try.pinned (OpenSpec.ofChange walkFarSpec)

/-- ITS FALSE NEIGHBOUR: 'it returns false'. Refute it at one input. -/
def walkFarWrong : ChangeSpec := { name := "walkFar", fn := fun _ => fun
  | [d1, d2, d3] => { results := [.lit (.bool false)], args := [d1, d2, d3] }
  | _ => none }
def WalkFarWrongFalsely : Prop := walkFarRow.holds Try.pinned (OpenSpec.ofChange walkFarWrong)

/- THE SECOND FORM. 'bulk': how many values and letters a reading holds, each counted each time it is reached (what is shared counts as often as it is met; a slice's spare places count too). A statement '..UptoSaid' is the law's where the arguments, and the package variables that the reading takes, are together of bulk at most 1048576: NARROWER than '..Said'. Prove '..Said' where nothing that the law and all that it calls make is longer than what came in: it says more and counts as full. Else prove '..UptoSaid'. A law counts once. -/
mutual
def uptoBulk {H : Type} : DataW H → Nat
  | .lit (.string bytes) => bytes.length + 1
  | .lit _ => 1
  | .nil => 1
  | .ptr d => uptoBulk d + 1
  | .slice elems spare => uptoBulkAll elems + uptoBulkAll spare + 1
  | .agg parts => uptoBulkAll parts + 1
  | .iface _ d => uptoBulk d + 1
  | .map entries => uptoBulkEntries entries + 1
  | .held _ => 1
def uptoBulkAll {H : Type} : List (DataW H) → Nat
  | [] => 0
  | d :: r => uptoBulk d + uptoBulkAll r
def uptoBulkEntries {H : Type} : List (Lit × DataW H) → Nat
  | [] => 0
  | x :: r => uptoBulkEntry x + uptoBulkEntries r
def uptoBulkEntry {H : Type} : Lit × DataW H → Nat
  | (.string bytes, d) => bytes.length + uptoBulk d + 1
  | (_, d) => uptoBulk d + 1
 end
def uptoSmall : (H : Type) → List (DataW H) → Bool := fun _ ds => decide (uptoBulkAll ds ≤ 1048576)
def OpenSpec.upto (s : _root_.Go.ChangeSpec) : _root_.Go.OpenSpec := { _root_.Go.OpenSpec.ofChange s with cond := some uptoSmall }

/-- 'reticulelaw05.GridLinks', WHERE WHAT IT READS IS OF BULK AT MOST 1048576: true; the input reads as it did. -/
def gridLinksUptoRow : OpenClaim := { program := "ytnbogjiddildaaa", sum := "6d9263dbeba3e78f1eb781f76db76582ccc98508a01550f6a17f03eb652984ef", func := "reticule/reticulelaw05.GridLinks", spec := "gridLinks", unfollowed := true, recurses := true, apart := false, narrowed := true }
def GridLinksUptoSaid : Prop := gridLinksUptoRow.holds Try.pinned (OpenSpec.upto gridLinksSpec)

/-- 'reticulelaw05.GridFar', WHERE WHAT IT READS IS OF BULK AT MOST 1048576: true; the input reads as it did. -/
def gridFarUptoRow : OpenClaim := { program := "ytnbogjiddildaaa", sum := "6d9263dbeba3e78f1eb781f76db76582ccc98508a01550f6a17f03eb652984ef", func := "reticule/reticulelaw05.GridFar", spec := "gridFar", unfollowed := true, recurses := true, apart := false, narrowed := true }
def GridFarUptoSaid : Prop := gridFarUptoRow.holds Try.pinned (OpenSpec.upto gridFarSpec)

/-- 'reticulelaw05.GridPlaces', WHERE WHAT IT READS IS OF BULK AT MOST 1048576: true; the input reads as it did. -/
def gridPlacesUptoRow : OpenClaim := { program := "ytnbogjiddildaaa", sum := "6d9263dbeba3e78f1eb781f76db76582ccc98508a01550f6a17f03eb652984ef", func := "reticule/reticulelaw05.GridPlaces", spec := "gridPlaces", unfollowed := true, recurses := true, apart := false, narrowed := true }
def GridPlacesUptoSaid : Prop := gridPlacesUptoRow.holds Try.pinned (OpenSpec.upto gridPlacesSpec)

/-- 'reticulelaw05.GridBack', WHERE WHAT IT READS IS OF BULK AT MOST 1048576: true; the input reads as it did. -/
def gridBackUptoRow : OpenClaim := { program := "ytnbogjiddildaaa", sum := "6d9263dbeba3e78f1eb781f76db76582ccc98508a01550f6a17f03eb652984ef", func := "reticule/reticulelaw05.GridBack", spec := "gridBack", unfollowed := true, recurses := true, apart := false, narrowed := true }
def GridBackUptoSaid : Prop := gridBackUptoRow.holds Try.pinned (OpenSpec.upto gridBackSpec)

/-- 'reticulelaw05.GridSteps', WHERE WHAT IT READS IS OF BULK AT MOST 1048576: true; the input reads as it did. -/
def gridStepsUptoRow : OpenClaim := { program := "ytnbogjiddildaaa", sum := "6d9263dbeba3e78f1eb781f76db76582ccc98508a01550f6a17f03eb652984ef", func := "reticule/reticulelaw05.GridSteps", spec := "gridSteps", unfollowed := true, recurses := true, apart := false, narrowed := true }
def GridStepsUptoSaid : Prop := gridStepsUptoRow.holds Try.pinned (OpenSpec.upto gridStepsSpec)

/-- 'reticulelaw18.PickParts', WHERE WHAT IT READS IS OF BULK AT MOST 1048576: true; the input reads as it did. -/
def pickPartsUptoRow : OpenClaim := { program := "ytnbogjiddildaaa", sum := "6d9263dbeba3e78f1eb781f76db76582ccc98508a01550f6a17f03eb652984ef", func := "reticule/reticulelaw18.PickParts", spec := "pickParts", unfollowed := true, recurses := true, apart := false, narrowed := true }
def PickPartsUptoSaid : Prop := pickPartsUptoRow.holds Try.pinned (OpenSpec.upto pickPartsSpec)

/-- 'reticulelaw18.PickBack', WHERE WHAT IT READS IS OF BULK AT MOST 1048576: true; the input reads as it did. -/
def pickBackUptoRow : OpenClaim := { program := "ytnbogjiddildaaa", sum := "6d9263dbeba3e78f1eb781f76db76582ccc98508a01550f6a17f03eb652984ef", func := "reticule/reticulelaw18.PickBack", spec := "pickBack", unfollowed := true, recurses := true, apart := false, narrowed := true }
def PickBackUptoSaid : Prop := pickBackUptoRow.holds Try.pinned (OpenSpec.upto pickBackSpec)

/-- 'reticulelaw06.TurnOptions', WHERE WHAT IT READS IS OF BULK AT MOST 1048576: true; the input reads as it did. -/
def turnOptionsUptoRow : OpenClaim := { program := "ytnbogjiddildaaa", sum := "6d9263dbeba3e78f1eb781f76db76582ccc98508a01550f6a17f03eb652984ef", func := "reticule/reticulelaw06.TurnOptions", spec := "turnOptions", unfollowed := true, recurses := true, apart := false, narrowed := true }
def TurnOptionsUptoSaid : Prop := turnOptionsUptoRow.holds Try.pinned (OpenSpec.upto turnOptionsSpec)

/-- 'reticulelaw18.PickRounds', WHERE WHAT IT READS IS OF BULK AT MOST 1048576: true; the input reads as it did. -/
def pickRoundsUptoRow : OpenClaim := { program := "ytnbogjiddildaaa", sum := "6d9263dbeba3e78f1eb781f76db76582ccc98508a01550f6a17f03eb652984ef", func := "reticule/reticulelaw18.PickRounds", spec := "pickRounds", unfollowed := true, recurses := true, apart := false, narrowed := true }
def PickRoundsUptoSaid : Prop := pickRoundsUptoRow.holds Try.pinned (OpenSpec.upto pickRoundsSpec)

/-- 'reticulelaw18.PickOnce', WHERE WHAT IT READS IS OF BULK AT MOST 1048576: true; the input reads as it did. -/
def pickOnceUptoRow : OpenClaim := { program := "ytnbogjiddildaaa", sum := "6d9263dbeba3e78f1eb781f76db76582ccc98508a01550f6a17f03eb652984ef", func := "reticule/reticulelaw18.PickOnce", spec := "pickOnce", unfollowed := true, recurses := true, apart := false, narrowed := true }
def PickOnceUptoSaid : Prop := pickOnceUptoRow.holds Try.pinned (OpenSpec.upto pickOnceSpec)

/-- 'reticulelaw18.PickKinds', WHERE WHAT IT READS IS OF BULK AT MOST 1048576: true; the input reads as it did. -/
def pickKindsUptoRow : OpenClaim := { program := "ytnbogjiddildaaa", sum := "6d9263dbeba3e78f1eb781f76db76582ccc98508a01550f6a17f03eb652984ef", func := "reticule/reticulelaw18.PickKinds", spec := "pickKinds", unfollowed := true, recurses := true, apart := false, narrowed := true }
def PickKindsUptoSaid : Prop := pickKindsUptoRow.holds Try.pinned (OpenSpec.upto pickKindsSpec)

/-- 'reticulelaw18.PickFirst', WHERE WHAT IT READS IS OF BULK AT MOST 1048576: true; the input reads as it did. -/
def pickFirstUptoRow : OpenClaim := { program := "ytnbogjiddildaaa", sum := "6d9263dbeba3e78f1eb781f76db76582ccc98508a01550f6a17f03eb652984ef", func := "reticule/reticulelaw18.PickFirst", spec := "pickFirst", unfollowed := true, recurses := true, apart := false, narrowed := true }
def PickFirstUptoSaid : Prop := pickFirstUptoRow.holds Try.pinned (OpenSpec.upto pickFirstSpec)

/-- 'reticulelaw06.TurnNearer', WHERE WHAT IT READS IS OF BULK AT MOST 1048576: true; the input reads as it did. -/
def turnNearerUptoRow : OpenClaim := { program := "ytnbogjiddildaaa", sum := "6d9263dbeba3e78f1eb781f76db76582ccc98508a01550f6a17f03eb652984ef", func := "reticule/reticulelaw06.TurnNearer", spec := "turnNearer", unfollowed := true, recurses := true, apart := false, narrowed := true }
def TurnNearerUptoSaid : Prop := turnNearerUptoRow.holds Try.pinned (OpenSpec.upto turnNearerSpec)

/-- 'reticulelaw06.TurnGoes', WHERE WHAT IT READS IS OF BULK AT MOST 1048576: true; the input reads as it did. -/
def turnGoesUptoRow : OpenClaim := { program := "ytnbogjiddildaaa", sum := "6d9263dbeba3e78f1eb781f76db76582ccc98508a01550f6a17f03eb652984ef", func := "reticule/reticulelaw06.TurnGoes", spec := "turnGoes", unfollowed := true, recurses := true, apart := false, narrowed := true }
def TurnGoesUptoSaid : Prop := turnGoesUptoRow.holds Try.pinned (OpenSpec.upto turnGoesSpec)

/-- 'reticulelaw06.TurnAllowed', WHERE WHAT IT READS IS OF BULK AT MOST 1048576: true; the input reads as it did. -/
def turnAllowedUptoRow : OpenClaim := { program := "ytnbogjiddildaaa", sum := "6d9263dbeba3e78f1eb781f76db76582ccc98508a01550f6a17f03eb652984ef", func := "reticule/reticulelaw06.TurnAllowed", spec := "turnAllowed", unfollowed := true, recurses := true, apart := false, narrowed := true }
def TurnAllowedUptoSaid : Prop := turnAllowedUptoRow.holds Try.pinned (OpenSpec.upto turnAllowedSpec)

/-- 'reticulelaw06.TurnWays', WHERE WHAT IT READS IS OF BULK AT MOST 1048576: true; the input reads as it did. -/
def turnWaysUptoRow : OpenClaim := { program := "ytnbogjiddildaaa", sum := "6d9263dbeba3e78f1eb781f76db76582ccc98508a01550f6a17f03eb652984ef", func := "reticule/reticulelaw06.TurnWays", spec := "turnWays", unfollowed := true, recurses := true, apart := false, narrowed := true }
def TurnWaysUptoSaid : Prop := turnWaysUptoRow.holds Try.pinned (OpenSpec.upto turnWaysSpec)

/-- 'reticulelaw06.TurnStraight', WHERE WHAT IT READS IS OF BULK AT MOST 1048576: true; the input reads as it did. -/
def turnStraightUptoRow : OpenClaim := { program := "ytnbogjiddildaaa", sum := "6d9263dbeba3e78f1eb781f76db76582ccc98508a01550f6a17f03eb652984ef", func := "reticule/reticulelaw06.TurnStraight", spec := "turnStraight", unfollowed := true, recurses := true, apart := false, narrowed := true }
def TurnStraightUptoSaid : Prop := turnStraightUptoRow.holds Try.pinned (OpenSpec.upto turnStraightSpec)

/-- 'reticulelaw09.WalkWork', WHERE WHAT IT READS IS OF BULK AT MOST 1048576: true; the input reads as it did. -/
def walkWorkUptoRow : OpenClaim := { program := "ytnbogjiddildaaa", sum := "6d9263dbeba3e78f1eb781f76db76582ccc98508a01550f6a17f03eb652984ef", func := "reticule/reticulelaw09.WalkWork", spec := "walkWork", unfollowed := true, recurses := true, apart := false, narrowed := true }
def WalkWorkUptoSaid : Prop := walkWorkUptoRow.holds Try.pinned (OpenSpec.upto walkWorkSpec)

/-- 'reticulelaw09.WalkMore', WHERE WHAT IT READS IS OF BULK AT MOST 1048576: true; the input reads as it did. -/
def walkMoreUptoRow : OpenClaim := { program := "ytnbogjiddildaaa", sum := "6d9263dbeba3e78f1eb781f76db76582ccc98508a01550f6a17f03eb652984ef", func := "reticule/reticulelaw09.WalkMore", spec := "walkMore", unfollowed := true, recurses := true, apart := false, narrowed := true }
def WalkMoreUptoSaid : Prop := walkMoreUptoRow.holds Try.pinned (OpenSpec.upto walkMoreSpec)

/-- 'reticulelaw09.WalkChoices', WHERE WHAT IT READS IS OF BULK AT MOST 1048576: true; the input reads as it did. -/
def walkChoicesUptoRow : OpenClaim := { program := "ytnbogjiddildaaa", sum := "6d9263dbeba3e78f1eb781f76db76582ccc98508a01550f6a17f03eb652984ef", func := "reticule/reticulelaw09.WalkChoices", spec := "walkChoices", unfollowed := true, recurses := true, apart := false, narrowed := true }
def WalkChoicesUptoSaid : Prop := walkChoicesUptoRow.holds Try.pinned (OpenSpec.upto walkChoicesSpec)

/-- 'reticulelaw09.WalkTurns', WHERE WHAT IT READS IS OF BULK AT MOST 1048576: true; the input reads as it did. -/
def walkTurnsUptoRow : OpenClaim := { program := "ytnbogjiddildaaa", sum := "6d9263dbeba3e78f1eb781f76db76582ccc98508a01550f6a17f03eb652984ef", func := "reticule/reticulelaw09.WalkTurns", spec := "walkTurns", unfollowed := true, recurses := true, apart := false, narrowed := true }
def WalkTurnsUptoSaid : Prop := walkTurnsUptoRow.holds Try.pinned (OpenSpec.upto walkTurnsSpec)

/-- 'reticulelaw09.WalkFar', WHERE WHAT IT READS IS OF BULK AT MOST 1048576: true; the input reads as it did. -/
def walkFarUptoRow : OpenClaim := { program := "ytnbogjiddildaaa", sum := "6d9263dbeba3e78f1eb781f76db76582ccc98508a01550f6a17f03eb652984ef", func := "reticule/reticulelaw09.WalkFar", spec := "walkFar", unfollowed := true, recurses := true, apart := false, narrowed := true }
def WalkFarUptoSaid : Prop := walkFarUptoRow.holds Try.pinned (OpenSpec.upto walkFarSpec)

end Rows
end Go.Proofs.Ytnbogjiddildaaa
