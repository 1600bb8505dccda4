/-
  No cell of these rows narrows 'for every input' (looked for: loops, veiled, ifaces, maps, wideKeys, modest, calm, conditions, laid).
  DERIVED. THE GIVEN ROWS OF THIS SEAT. 5 by the template 'for every input the law returns true; each argument reads behind the call as it read before'; 0 by the template 'total and deterministic' (their statements: YtblijbpdnbldgaaTotals.lean).
  GIVEN WITH THE SEED: the statements are not yours to turn. If you find one false, say at which input.
  Laid BY PROGRAM, IN A SANDBOX (cutbox-rows.mjs): the forced cells as the released guide's own fill.sh prints them over the translation 1dba2a07905da0af… (all of the seat's roots in one cut). By AI agents, Wed Nov 11 2026. No macro, syntax, notation, axiom, sorry.
-/
import Derived.Test.YtblijbpdnbldgaaChecked
import GoSem.Claim
import GoSem.ClaimJoined
import GoSem.ClaimMapViews
import Derived.JoinedTies
import Derived.KernelRfl
namespace Go.Proofs.Ytblijbpdnbldgaa
/- THE CELL 'sum', in the pinned program and in every row, IS THE sha256 OF THE DUMP (.gsa) THAT YtblijbpdnbldgaaProg.lean LOADS. Nothing in Lean hashes anything: it is a label: what it is worth is what the hold of that sum in a sandbox is worth. -/
noncomputable def Try.pinned : Pinned := { name := "ytblijbpdnbldgaa", sum := "1dba2a07905da0af891ca04783da9fbfc96cccb83375ff13d2d4b28418325970", checked := Try.checked }
namespace Rows
def none {H : Type} : Left H := { results := [], args := [] }

/-- 'postroomlaw14.BackTells': WHATEVER THE INPUT: true; the input reads as it did. -/
def backTellsSpec : ChangeSpec := { name := "backTells", fn := fun _ => fun
  | [d1, d2, d3, d4] => { results := [.lit (.bool true)], args := [d1, d2, d3, d4] }
  | _ => none }
def backTellsRow : OpenClaim := { program := "ytblijbpdnbldgaa", sum := "1dba2a07905da0af891ca04783da9fbfc96cccb83375ff13d2d4b28418325970", func := "postroom/postroomlaw14.BackTells", spec := "backTells", apart := false }
def BackTellsSaid : Prop := backTellsRow.holds Try.pinned (OpenSpec.ofChange backTellsSpec)

/-- ITS FALSE NEIGHBOUR: 'it returns false'. Refute it at one input. -/
def backTellsWrong : ChangeSpec := { name := "backTells", fn := fun _ => fun
  | [d1, d2, d3, d4] => { results := [.lit (.bool false)], args := [d1, d2, d3, d4] }
  | _ => none }
def BackTellsWrongFalsely : Prop := backTellsRow.holds Try.pinned (OpenSpec.ofChange backTellsWrong)

/-- 'postroomlaw14.BackBounds': WHATEVER THE INPUT: true; the input reads as it did. -/
def backBoundsSpec : ChangeSpec := { name := "backBounds", fn := fun _ => fun
  | [d1, d2, d3, d4] => { results := [.lit (.bool true)], args := [d1, d2, d3, d4] }
  | _ => none }
def backBoundsRow : OpenClaim := { program := "ytblijbpdnbldgaa", sum := "1dba2a07905da0af891ca04783da9fbfc96cccb83375ff13d2d4b28418325970", func := "postroom/postroomlaw14.BackBounds", spec := "backBounds", apart := false }
def BackBoundsSaid : Prop := backBoundsRow.holds Try.pinned (OpenSpec.ofChange backBoundsSpec)

/-- ITS FALSE NEIGHBOUR: 'it returns false'. Refute it at one input. -/
def backBoundsWrong : ChangeSpec := { name := "backBounds", fn := fun _ => fun
  | [d1, d2, d3, d4] => { results := [.lit (.bool false)], args := [d1, d2, d3, d4] }
  | _ => none }
def BackBoundsWrongFalsely : Prop := backBoundsRow.holds Try.pinned (OpenSpec.ofChange backBoundsWrong)

/-- 'postroomlaw14.BackReach': WHATEVER THE INPUT: true; the input reads as it did. -/
def backReachSpec : ChangeSpec := { name := "backReach", fn := fun _ => fun
  | [d1, d2, d3, d4] => { results := [.lit (.bool true)], args := [d1, d2, d3, d4] }
  | _ => none }
def backReachRow : OpenClaim := { program := "ytblijbpdnbldgaa", sum := "1dba2a07905da0af891ca04783da9fbfc96cccb83375ff13d2d4b28418325970", func := "postroom/postroomlaw14.BackReach", spec := "backReach", apart := false }
def BackReachSaid : Prop := backReachRow.holds Try.pinned (OpenSpec.ofChange backReachSpec)

/-- ITS FALSE NEIGHBOUR: 'it returns false'. Refute it at one input. -/
def backReachWrong : ChangeSpec := { name := "backReach", fn := fun _ => fun
  | [d1, d2, d3, d4] => { results := [.lit (.bool false)], args := [d1, d2, d3, d4] }
  | _ => none }
def BackReachWrongFalsely : Prop := backReachRow.holds Try.pinned (OpenSpec.ofChange backReachWrong)

/-- 'postroomlaw14.BackGrows': WHATEVER THE INPUT: true; the input reads as it did. -/
def backGrowsSpec : ChangeSpec := { name := "backGrows", fn := fun _ => fun
  | [d1, d2, d3, d4] => { results := [.lit (.bool true)], args := [d1, d2, d3, d4] }
  | _ => none }
def backGrowsRow : OpenClaim := { program := "ytblijbpdnbldgaa", sum := "1dba2a07905da0af891ca04783da9fbfc96cccb83375ff13d2d4b28418325970", func := "postroom/postroomlaw14.BackGrows", spec := "backGrows", apart := false }
def BackGrowsSaid : Prop := backGrowsRow.holds Try.pinned (OpenSpec.ofChange backGrowsSpec)

/-- ITS FALSE NEIGHBOUR: 'it returns false'. Refute it at one input. -/
def backGrowsWrong : ChangeSpec := { name := "backGrows", fn := fun _ => fun
  | [d1, d2, d3, d4] => { results := [.lit (.bool false)], args := [d1, d2, d3, d4] }
  | _ => none }
def BackGrowsWrongFalsely : Prop := backGrowsRow.holds Try.pinned (OpenSpec.ofChange backGrowsWrong)

/-- 'postroomlaw14.BackTurns': WHATEVER THE INPUT: true; the input reads as it did. -/
def backTurnsSpec : ChangeSpec := { name := "backTurns", fn := fun _ => fun
  | [d1, d2, d3, d4] => { results := [.lit (.bool true)], args := [d1, d2, d3, d4] }
  | _ => none }
def backTurnsRow : OpenClaim := { program := "ytblijbpdnbldgaa", sum := "1dba2a07905da0af891ca04783da9fbfc96cccb83375ff13d2d4b28418325970", func := "postroom/postroomlaw14.BackTurns", spec := "backTurns", apart := false }
def BackTurnsSaid : Prop := backTurnsRow.holds Try.pinned (OpenSpec.ofChange backTurnsSpec)

/-- ITS FALSE NEIGHBOUR: 'it returns false'. Refute it at one input. -/
def backTurnsWrong : ChangeSpec := { name := "backTurns", fn := fun _ => fun
  | [d1, d2, d3, d4] => { results := [.lit (.bool false)], args := [d1, d2, d3, d4] }
  | _ => none }
def BackTurnsWrongFalsely : Prop := backTurnsRow.holds Try.pinned (OpenSpec.ofChange backTurnsWrong)

/- THE SECOND FORM. 'bulk': how many values and letters a reading holds, each counted each time it is reached (what is shared counts as often as it is met; a slice's spare places count too). A statement '..UptoSaid' is the law's where the arguments, and the package variables that the reading takes, are together of bulk at most 1048576: NARROWER than '..Said'. Prove '..Said' where nothing that the law and all that it calls make is longer than what came in: it says more and counts as full. Else prove '..UptoSaid'. A law counts once. -/
mutual
def uptoBulk {H : Type} : DataW H → Nat
  | .lit (.string bytes) => bytes.length + 1
  | .lit _ => 1
  | .nil => 1
  | .ptr d => uptoBulk d + 1
  | .slice elems spare => uptoBulkAll elems + uptoBulkAll spare + 1
  | .agg parts => uptoBulkAll parts + 1
  | .iface _ d => uptoBulk d + 1
  | .map entries => uptoBulkEntries entries + 1
  | .held _ => 1
def uptoBulkAll {H : Type} : List (DataW H) → Nat
  | [] => 0
  | d :: r => uptoBulk d + uptoBulkAll r
def uptoBulkEntries {H : Type} : List (Lit × DataW H) → Nat
  | [] => 0
  | x :: r => uptoBulkEntry x + uptoBulkEntries r
def uptoBulkEntry {H : Type} : Lit × DataW H → Nat
  | (.string bytes, d) => bytes.length + uptoBulk d + 1
  | (_, d) => uptoBulk d + 1
 end
def uptoSmall : (H : Type) → List (DataW H) → Bool := fun _ ds => decide (uptoBulkAll ds ≤ 1048576)
def OpenSpec.upto (s : _root_.Go.ChangeSpec) : _root_.Go.OpenSpec := { _root_.Go.OpenSpec.ofChange s with cond := some uptoSmall }

/-- 'postroomlaw14.BackTells', WHERE WHAT IT READS IS OF BULK AT MOST 1048576: true; the input reads as it did. -/
def backTellsUptoRow : OpenClaim := { program := "ytblijbpdnbldgaa", sum := "1dba2a07905da0af891ca04783da9fbfc96cccb83375ff13d2d4b28418325970", func := "postroom/postroomlaw14.BackTells", spec := "backTells", apart := false, narrowed := true }
def BackTellsUptoSaid : Prop := backTellsUptoRow.holds Try.pinned (OpenSpec.upto backTellsSpec)

/-- 'postroomlaw14.BackBounds', WHERE WHAT IT READS IS OF BULK AT MOST 1048576: true; the input reads as it did. -/
def backBoundsUptoRow : OpenClaim := { program := "ytblijbpdnbldgaa", sum := "1dba2a07905da0af891ca04783da9fbfc96cccb83375ff13d2d4b28418325970", func := "postroom/postroomlaw14.BackBounds", spec := "backBounds", apart := false, narrowed := true }
def BackBoundsUptoSaid : Prop := backBoundsUptoRow.holds Try.pinned (OpenSpec.upto backBoundsSpec)

/-- 'postroomlaw14.BackReach', WHERE WHAT IT READS IS OF BULK AT MOST 1048576: true; the input reads as it did. -/
def backReachUptoRow : OpenClaim := { program := "ytblijbpdnbldgaa", sum := "1dba2a07905da0af891ca04783da9fbfc96cccb83375ff13d2d4b28418325970", func := "postroom/postroomlaw14.BackReach", spec := "backReach", apart := false, narrowed := true }
def BackReachUptoSaid : Prop := backReachUptoRow.holds Try.pinned (OpenSpec.upto backReachSpec)

/-- 'postroomlaw14.BackGrows', WHERE WHAT IT READS IS OF BULK AT MOST 1048576: true; the input reads as it did. -/
def backGrowsUptoRow : OpenClaim := { program := "ytblijbpdnbldgaa", sum := "1dba2a07905da0af891ca04783da9fbfc96cccb83375ff13d2d4b28418325970", func := "postroom/postroomlaw14.BackGrows", spec := "backGrows", apart := false, narrowed := true }
def BackGrowsUptoSaid : Prop := backGrowsUptoRow.holds Try.pinned (OpenSpec.upto backGrowsSpec)

/-- 'postroomlaw14.BackTurns', WHERE WHAT IT READS IS OF BULK AT MOST 1048576: true; the input reads as it did. -/
def backTurnsUptoRow : OpenClaim := { program := "ytblijbpdnbldgaa", sum := "1dba2a07905da0af891ca04783da9fbfc96cccb83375ff13d2d4b28418325970", func := "postroom/postroomlaw14.BackTurns", spec := "backTurns", apart := false, narrowed := true }
def BackTurnsUptoSaid : Prop := backTurnsUptoRow.holds Try.pinned (OpenSpec.upto backTurnsSpec)

end Rows
end Go.Proofs.Ytblijbpdnbldgaa
