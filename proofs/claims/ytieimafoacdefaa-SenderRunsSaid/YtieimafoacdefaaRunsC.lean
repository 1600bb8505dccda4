/- SenderRuns: the loop's body, and what holds at each round's head. -/
import Derived.Test.YtieimafoacdefaaRunsB
import Derived.Deep.RegionHeld3
import Derived.Deep.RegionLaw
import Derived.RegionTactic
import Derived.BigRegion
import Derived.BigQuiet
import Derived.Outline
import Derived.Deep.DeepCutAuto
import Derived.Deep.LoopGhost
import Derived.StillTailTactics
namespace Go.Proofs.Ytieimafoacdefaa.Runs
open Go.RowKit Go.Proofs.Ytieimafoacdefaa.QSenderRuns Go.Proofs.YtieimafoacdefaaW.PrintWords Go.Proofs.YtieimafoacdefaaW.PrintLast Go.Proofs.YtieimafoacdefaaW.PrintMore
set_option linter.unusedVariables false
set_option linter.unusedSimpArgs false
/-- The body of the first loop of a text. -/
def firstLoop : Code → Option Code
  | .loop c => some c
  | .seq a b => match firstLoop a with
    | some c => some c
    | none => firstLoop b
  | .block _ c => firstLoop c
  | .scope c => firstLoop c
  | .cond _ a b => match firstLoop a with
    | some c => some c
    | none => firstLoop b
  | _ => none
/-- What holds at the head of round i. -/
def Rel (W : World) (cB sB : Nat) (ba ti b m : Int) (i : Nat) (v15 v16 v17 : Value) (w : World) : Prop :=
  ∃ (now next id since tries til : Int) (fl : List Int), v15 = .int .u64 now ∧ v16 = .int .u64 next ∧ v17 = .int .i64 (i : Int) ∧
    (0 ≤ now ∧ now ≤ 49 * i ∧ 1 ≤ next ∧ next ≤ 1 + 100 * i ∧ 0 ≤ id ∧ id ≤ i ∧ 0 ≤ since ∧ since ≤ now ∧ 0 ≤ tries ∧ tries ≤ i ∧ 0 ≤ til ∧ til ≤ now + m ∧ (fl.length : Int) ≤ ba) ∧ Mem W w cB sB ba ti b m id fl since tries til
end Go.Proofs.Ytieimafoacdefaa.Runs

