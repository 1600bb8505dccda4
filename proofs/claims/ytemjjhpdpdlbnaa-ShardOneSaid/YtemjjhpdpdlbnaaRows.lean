/-
  No cell of these rows narrows 'for every input' (looked for: loops, veiled, ifaces, maps, wideKeys, modest, calm, conditions, laid).
  DERIVED. THE GIVEN ROWS OF THIS SEAT. 5 by the template 'for every input the law returns true; each argument reads behind the call as it read before'; 0 by the template 'total and deterministic' (their statements: YtemjjhpdpdlbnaaTotals.lean).
  GIVEN WITH THE SEED: the statements are not yours to turn. If you find one false, say at which input.
  Laid BY PROGRAM, IN A SANDBOX (cutbox-rows.mjs): the forced cells as the released guide's own fill.sh prints them over the translation 6116d8ff2958ef8f… (all of the seat's roots in one cut). By AI agents, Wed Nov 11 2026. No macro, syntax, notation, axiom, sorry.
-/
import Derived.Test.YtemjjhpdpdlbnaaChecked
import GoSem.Claim
import GoSem.ClaimJoined
import GoSem.ClaimMapViews
import Derived.JoinedTies
import Derived.KernelRfl
namespace Go.Proofs.Ytemjjhpdpdlbnaa
/- THE CELL 'sum', in the pinned program and in every row, IS THE sha256 OF THE DUMP (.gsa) THAT YtemjjhpdpdlbnaaProg.lean LOADS. Nothing in Lean hashes anything: it is a label: what it is worth is what the hold of that sum in a sandbox is worth. -/
noncomputable def Try.pinned : Pinned := { name := "ytemjjhpdpdlbnaa", sum := "6116d8ff2958ef8f038ca202a71c33d5f8566f2dd4bf96ef0fb35af2ab8e8dd1", checked := Try.checked }
namespace Rows
def none {H : Type} : Left H := { results := [], args := [] }

/-- 'postroomlaw13.ShardTells': WHATEVER THE INPUT: true; the input reads as it did. -/
def shardTellsSpec : ChangeSpec := { name := "shardTells", fn := fun _ => fun
  | [d1, d2, d3] => { results := [.lit (.bool true)], args := [d1, d2, d3] }
  | _ => none }
def shardTellsRow : OpenClaim := { program := "ytemjjhpdpdlbnaa", sum := "6116d8ff2958ef8f038ca202a71c33d5f8566f2dd4bf96ef0fb35af2ab8e8dd1", func := "postroom/postroomlaw13.ShardTells", spec := "shardTells", apart := false }
def ShardTellsSaid : Prop := shardTellsRow.holds Try.pinned (OpenSpec.ofChange shardTellsSpec)

/-- ITS FALSE NEIGHBOUR: 'it returns false'. Refute it at one input. -/
def shardTellsWrong : ChangeSpec := { name := "shardTells", fn := fun _ => fun
  | [d1, d2, d3] => { results := [.lit (.bool false)], args := [d1, d2, d3] }
  | _ => none }
def ShardTellsWrongFalsely : Prop := shardTellsRow.holds Try.pinned (OpenSpec.ofChange shardTellsWrong)

/-- 'postroomlaw13.ShardOne': WHATEVER THE INPUT: true; the input reads as it did. -/
def shardOneSpec : ChangeSpec := { name := "shardOne", fn := fun _ => fun
  | [d1, d2, d3] => { results := [.lit (.bool true)], args := [d1, d2, d3] }
  | _ => none }
def shardOneRow : OpenClaim := { program := "ytemjjhpdpdlbnaa", sum := "6116d8ff2958ef8f038ca202a71c33d5f8566f2dd4bf96ef0fb35af2ab8e8dd1", func := "postroom/postroomlaw13.ShardOne", spec := "shardOne", apart := false }
def ShardOneSaid : Prop := shardOneRow.holds Try.pinned (OpenSpec.ofChange shardOneSpec)

/-- ITS FALSE NEIGHBOUR: 'it returns false'. Refute it at one input. -/
def shardOneWrong : ChangeSpec := { name := "shardOne", fn := fun _ => fun
  | [d1, d2, d3] => { results := [.lit (.bool false)], args := [d1, d2, d3] }
  | _ => none }
def ShardOneWrongFalsely : Prop := shardOneRow.holds Try.pinned (OpenSpec.ofChange shardOneWrong)

/-- 'postroomlaw13.ShardHalves': WHATEVER THE INPUT: true; the input reads as it did. -/
def shardHalvesSpec : ChangeSpec := { name := "shardHalves", fn := fun _ => fun
  | [d1, d2] => { results := [.lit (.bool true)], args := [d1, d2] }
  | _ => none }
def shardHalvesRow : OpenClaim := { program := "ytemjjhpdpdlbnaa", sum := "6116d8ff2958ef8f038ca202a71c33d5f8566f2dd4bf96ef0fb35af2ab8e8dd1", func := "postroom/postroomlaw13.ShardHalves", spec := "shardHalves", apart := false }
def ShardHalvesSaid : Prop := shardHalvesRow.holds Try.pinned (OpenSpec.ofChange shardHalvesSpec)

/-- ITS FALSE NEIGHBOUR: 'it returns false'. Refute it at one input. -/
def shardHalvesWrong : ChangeSpec := { name := "shardHalves", fn := fun _ => fun
  | [d1, d2] => { results := [.lit (.bool false)], args := [d1, d2] }
  | _ => none }
def ShardHalvesWrongFalsely : Prop := shardHalvesRow.holds Try.pinned (OpenSpec.ofChange shardHalvesWrong)

/-- 'postroomlaw13.ShardHashes': WHATEVER THE INPUT: true; the input reads as it did. -/
def shardHashesSpec : ChangeSpec := { name := "shardHashes", fn := fun _ => fun
  | [d1, d2, d3] => { results := [.lit (.bool true)], args := [d1, d2, d3] }
  | _ => none }
def shardHashesRow : OpenClaim := { program := "ytemjjhpdpdlbnaa", sum := "6116d8ff2958ef8f038ca202a71c33d5f8566f2dd4bf96ef0fb35af2ab8e8dd1", func := "postroom/postroomlaw13.ShardHashes", spec := "shardHashes", apart := false }
def ShardHashesSaid : Prop := shardHashesRow.holds Try.pinned (OpenSpec.ofChange shardHashesSpec)

/-- ITS FALSE NEIGHBOUR: 'it returns false'. Refute it at one input. -/
def shardHashesWrong : ChangeSpec := { name := "shardHashes", fn := fun _ => fun
  | [d1, d2, d3] => { results := [.lit (.bool false)], args := [d1, d2, d3] }
  | _ => none }
def ShardHashesWrongFalsely : Prop := shardHashesRow.holds Try.pinned (OpenSpec.ofChange shardHashesWrong)

/-- 'postroomlaw13.ShardJoins': WHATEVER THE INPUT: true; the input reads as it did. -/
def shardJoinsSpec : ChangeSpec := { name := "shardJoins", fn := fun _ => fun
  | [d1, d2, d3] => { results := [.lit (.bool true)], args := [d1, d2, d3] }
  | _ => none }
def shardJoinsRow : OpenClaim := { program := "ytemjjhpdpdlbnaa", sum := "6116d8ff2958ef8f038ca202a71c33d5f8566f2dd4bf96ef0fb35af2ab8e8dd1", func := "postroom/postroomlaw13.ShardJoins", spec := "shardJoins", apart := false }
def ShardJoinsSaid : Prop := shardJoinsRow.holds Try.pinned (OpenSpec.ofChange shardJoinsSpec)

/-- ITS FALSE NEIGHBOUR: 'it returns false'. Refute it at one input. -/
def shardJoinsWrong : ChangeSpec := { name := "shardJoins", fn := fun _ => fun
  | [d1, d2, d3] => { results := [.lit (.bool false)], args := [d1, d2, d3] }
  | _ => none }
def ShardJoinsWrongFalsely : Prop := shardJoinsRow.holds Try.pinned (OpenSpec.ofChange shardJoinsWrong)

/- THE SECOND FORM. 'bulk': how many values and letters a reading holds, each counted each time it is reached (what is shared counts as often as it is met; a slice's spare places count too). A statement '..UptoSaid' is the law's where the arguments, and the package variables that the reading takes, are together of bulk at most 1048576: NARROWER than '..Said'. Prove '..Said' where nothing that the law and all that it calls make is longer than what came in: it says more and counts as full. Else prove '..UptoSaid'. A law counts once. -/
mutual
def uptoBulk {H : Type} : DataW H → Nat
  | .lit (.string bytes) => bytes.length + 1
  | .lit _ => 1
  | .nil => 1
  | .ptr d => uptoBulk d + 1
  | .slice elems spare => uptoBulkAll elems + uptoBulkAll spare + 1
  | .agg parts => uptoBulkAll parts + 1
  | .iface _ d => uptoBulk d + 1
  | .map entries => uptoBulkEntries entries + 1
  | .held _ => 1
def uptoBulkAll {H : Type} : List (DataW H) → Nat
  | [] => 0
  | d :: r => uptoBulk d + uptoBulkAll r
def uptoBulkEntries {H : Type} : List (Lit × DataW H) → Nat
  | [] => 0
  | x :: r => uptoBulkEntry x + uptoBulkEntries r
def uptoBulkEntry {H : Type} : Lit × DataW H → Nat
  | (.string bytes, d) => bytes.length + uptoBulk d + 1
  | (_, d) => uptoBulk d + 1
 end
def uptoSmall : (H : Type) → List (DataW H) → Bool := fun _ ds => decide (uptoBulkAll ds ≤ 1048576)
def OpenSpec.upto (s : _root_.Go.ChangeSpec) : _root_.Go.OpenSpec := { _root_.Go.OpenSpec.ofChange s with cond := some uptoSmall }

/-- 'postroomlaw13.ShardTells', WHERE WHAT IT READS IS OF BULK AT MOST 1048576: true; the input reads as it did. -/
def shardTellsUptoRow : OpenClaim := { program := "ytemjjhpdpdlbnaa", sum := "6116d8ff2958ef8f038ca202a71c33d5f8566f2dd4bf96ef0fb35af2ab8e8dd1", func := "postroom/postroomlaw13.ShardTells", spec := "shardTells", apart := false, narrowed := true }
def ShardTellsUptoSaid : Prop := shardTellsUptoRow.holds Try.pinned (OpenSpec.upto shardTellsSpec)

/-- 'postroomlaw13.ShardOne', WHERE WHAT IT READS IS OF BULK AT MOST 1048576: true; the input reads as it did. -/
def shardOneUptoRow : OpenClaim := { program := "ytemjjhpdpdlbnaa", sum := "6116d8ff2958ef8f038ca202a71c33d5f8566f2dd4bf96ef0fb35af2ab8e8dd1", func := "postroom/postroomlaw13.ShardOne", spec := "shardOne", apart := false, narrowed := true }
def ShardOneUptoSaid : Prop := shardOneUptoRow.holds Try.pinned (OpenSpec.upto shardOneSpec)

/-- 'postroomlaw13.ShardHalves', WHERE WHAT IT READS IS OF BULK AT MOST 1048576: true; the input reads as it did. -/
def shardHalvesUptoRow : OpenClaim := { program := "ytemjjhpdpdlbnaa", sum := "6116d8ff2958ef8f038ca202a71c33d5f8566f2dd4bf96ef0fb35af2ab8e8dd1", func := "postroom/postroomlaw13.ShardHalves", spec := "shardHalves", apart := false, narrowed := true }
def ShardHalvesUptoSaid : Prop := shardHalvesUptoRow.holds Try.pinned (OpenSpec.upto shardHalvesSpec)

/-- 'postroomlaw13.ShardHashes', WHERE WHAT IT READS IS OF BULK AT MOST 1048576: true; the input reads as it did. -/
def shardHashesUptoRow : OpenClaim := { program := "ytemjjhpdpdlbnaa", sum := "6116d8ff2958ef8f038ca202a71c33d5f8566f2dd4bf96ef0fb35af2ab8e8dd1", func := "postroom/postroomlaw13.ShardHashes", spec := "shardHashes", apart := false, narrowed := true }
def ShardHashesUptoSaid : Prop := shardHashesUptoRow.holds Try.pinned (OpenSpec.upto shardHashesSpec)

/-- 'postroomlaw13.ShardJoins', WHERE WHAT IT READS IS OF BULK AT MOST 1048576: true; the input reads as it did. -/
def shardJoinsUptoRow : OpenClaim := { program := "ytemjjhpdpdlbnaa", sum := "6116d8ff2958ef8f038ca202a71c33d5f8566f2dd4bf96ef0fb35af2ab8e8dd1", func := "postroom/postroomlaw13.ShardJoins", spec := "shardJoins", apart := false, narrowed := true }
def ShardJoinsUptoSaid : Prop := shardJoinsUptoRow.holds Try.pinned (OpenSpec.upto shardJoinsSpec)

end Rows
end Go.Proofs.Ytemjjhpdpdlbnaa
