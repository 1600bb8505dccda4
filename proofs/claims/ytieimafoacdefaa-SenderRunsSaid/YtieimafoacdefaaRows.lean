/-
  No cell of these rows narrows 'for every input' (looked for: loops, veiled, ifaces, maps, wideKeys, modest, calm, conditions, laid).
  DERIVED. THE GIVEN ROWS OF THIS SEAT. 4 by the template 'for every input the law returns true; each argument reads behind the call as it read before'; 0 by the template 'total and deterministic' (their statements: YtieimafoacdefaaTotals.lean).
  GIVEN WITH THE SEED: the statements are not yours to turn. If you find one false, say at which input.
  Laid BY PROGRAM, IN A SANDBOX (cutbox-rows.mjs): the forced cells as the released guide's own fill.sh prints them over the translation 9af62840679fa767… (all of the seat's roots in one cut). By AI agents, Wed Nov 11 2026. No macro, syntax, notation, axiom, sorry.
-/
import Derived.Test.YtieimafoacdefaaChecked
import GoSem.Claim
import GoSem.ClaimJoined
import GoSem.ClaimMapViews
import Derived.JoinedTies
import Derived.KernelRfl
namespace Go.Proofs.Ytieimafoacdefaa
/- THE CELL 'sum', in the pinned program and in every row, IS THE sha256 OF THE DUMP (.gsa) THAT YtieimafoacdefaaProg.lean LOADS. Nothing in Lean hashes anything: it is a label: what it is worth is what the hold of that sum in a sandbox is worth. -/
noncomputable def Try.pinned : Pinned := { name := "ytieimafoacdefaa", sum := "9af62840679fa767d783b3eebbb716e906b20355e9b7b6c5e94927a4eb76516d", checked := Try.checked }
namespace Rows
def none {H : Type} : Left H := { results := [], args := [] }

/-- 'postroomlaw16.SenderBatch': WHATEVER THE INPUT: true; the input reads as it did. -/
def senderBatchSpec : ChangeSpec := { name := "senderBatch", fn := fun _ => fun
  | [d1, d2, d3] => { results := [.lit (.bool true)], args := [d1, d2, d3] }
  | _ => none }
def senderBatchRow : OpenClaim := { program := "ytieimafoacdefaa", sum := "9af62840679fa767d783b3eebbb716e906b20355e9b7b6c5e94927a4eb76516d", func := "postroom/postroomlaw16.SenderBatch", spec := "senderBatch", apart := false }
def SenderBatchSaid : Prop := senderBatchRow.holds Try.pinned (OpenSpec.ofChange senderBatchSpec)

/-- ITS FALSE NEIGHBOUR: 'it returns false'. Refute it at one input. -/
def senderBatchWrong : ChangeSpec := { name := "senderBatch", fn := fun _ => fun
  | [d1, d2, d3] => { results := [.lit (.bool false)], args := [d1, d2, d3] }
  | _ => none }
def SenderBatchWrongFalsely : Prop := senderBatchRow.holds Try.pinned (OpenSpec.ofChange senderBatchWrong)

/-- 'postroomlaw16.SenderTries': WHATEVER THE INPUT: true; the input reads as it did. -/
def senderTriesSpec : ChangeSpec := { name := "senderTries", fn := fun _ => fun
  | [d1, d2, d3, d4] => { results := [.lit (.bool true)], args := [d1, d2, d3, d4] }
  | _ => none }
def senderTriesRow : OpenClaim := { program := "ytieimafoacdefaa", sum := "9af62840679fa767d783b3eebbb716e906b20355e9b7b6c5e94927a4eb76516d", func := "postroom/postroomlaw16.SenderTries", spec := "senderTries", apart := false }
def SenderTriesSaid : Prop := senderTriesRow.holds Try.pinned (OpenSpec.ofChange senderTriesSpec)

/-- ITS FALSE NEIGHBOUR: 'it returns false'. Refute it at one input. -/
def senderTriesWrong : ChangeSpec := { name := "senderTries", fn := fun _ => fun
  | [d1, d2, d3, d4] => { results := [.lit (.bool false)], args := [d1, d2, d3, d4] }
  | _ => none }
def SenderTriesWrongFalsely : Prop := senderTriesRow.holds Try.pinned (OpenSpec.ofChange senderTriesWrong)

/-- 'postroomlaw16.SenderRuns': WHATEVER THE INPUT: true; the input reads as it did. -/
def senderRunsSpec : ChangeSpec := { name := "senderRuns", fn := fun _ => fun
  | [d1, d2, d3, d4, d5] => { results := [.lit (.bool true)], args := [d1, d2, d3, d4, d5] }
  | _ => none }
def senderRunsRow : OpenClaim := { program := "ytieimafoacdefaa", sum := "9af62840679fa767d783b3eebbb716e906b20355e9b7b6c5e94927a4eb76516d", func := "postroom/postroomlaw16.SenderRuns", spec := "senderRuns", apart := false }
def SenderRunsSaid : Prop := senderRunsRow.holds Try.pinned (OpenSpec.ofChange senderRunsSpec)

/-- ITS FALSE NEIGHBOUR: 'it returns false'. Refute it at one input. -/
def senderRunsWrong : ChangeSpec := { name := "senderRuns", fn := fun _ => fun
  | [d1, d2, d3, d4, d5] => { results := [.lit (.bool false)], args := [d1, d2, d3, d4, d5] }
  | _ => none }
def SenderRunsWrongFalsely : Prop := senderRunsRow.holds Try.pinned (OpenSpec.ofChange senderRunsWrong)

/-- 'postroomlaw16.SenderLate': WHATEVER THE INPUT: true; the input reads as it did. -/
def senderLateSpec : ChangeSpec := { name := "senderLate", fn := fun _ => fun
  | [d1, d2, d3, d4, d5, d6] => { results := [.lit (.bool true)], args := [d1, d2, d3, d4, d5, d6] }
  | _ => none }
def senderLateRow : OpenClaim := { program := "ytieimafoacdefaa", sum := "9af62840679fa767d783b3eebbb716e906b20355e9b7b6c5e94927a4eb76516d", func := "postroom/postroomlaw16.SenderLate", spec := "senderLate", apart := false }
def SenderLateSaid : Prop := senderLateRow.holds Try.pinned (OpenSpec.ofChange senderLateSpec)

/-- ITS FALSE NEIGHBOUR: 'it returns false'. Refute it at one input. -/
def senderLateWrong : ChangeSpec := { name := "senderLate", fn := fun _ => fun
  | [d1, d2, d3, d4, d5, d6] => { results := [.lit (.bool false)], args := [d1, d2, d3, d4, d5, d6] }
  | _ => none }
def SenderLateWrongFalsely : Prop := senderLateRow.holds Try.pinned (OpenSpec.ofChange senderLateWrong)

/- THE SECOND FORM. 'bulk': how many values and letters a reading holds, each counted each time it is reached (what is shared counts as often as it is met; a slice's spare places count too). A statement '..UptoSaid' is the law's where the arguments, and the package variables that the reading takes, are together of bulk at most 1048576: NARROWER than '..Said'. Prove '..Said' where nothing that the law and all that it calls make is longer than what came in: it says more and counts as full. Else prove '..UptoSaid'. A law counts once. -/
mutual
def uptoBulk {H : Type} : DataW H → Nat
  | .lit (.string bytes) => bytes.length + 1
  | .lit _ => 1
  | .nil => 1
  | .ptr d => uptoBulk d + 1
  | .slice elems spare => uptoBulkAll elems + uptoBulkAll spare + 1
  | .agg parts => uptoBulkAll parts + 1
  | .iface _ d => uptoBulk d + 1
  | .map entries => uptoBulkEntries entries + 1
  | .held _ => 1
def uptoBulkAll {H : Type} : List (DataW H) → Nat
  | [] => 0
  | d :: r => uptoBulk d + uptoBulkAll r
def uptoBulkEntries {H : Type} : List (Lit × DataW H) → Nat
  | [] => 0
  | x :: r => uptoBulkEntry x + uptoBulkEntries r
def uptoBulkEntry {H : Type} : Lit × DataW H → Nat
  | (.string bytes, d) => bytes.length + uptoBulk d + 1
  | (_, d) => uptoBulk d + 1
 end
def uptoSmall : (H : Type) → List (DataW H) → Bool := fun _ ds => decide (uptoBulkAll ds ≤ 1048576)
def OpenSpec.upto (s : _root_.Go.ChangeSpec) : _root_.Go.OpenSpec := { _root_.Go.OpenSpec.ofChange s with cond := some uptoSmall }

/-- 'postroomlaw16.SenderBatch', WHERE WHAT IT READS IS OF BULK AT MOST 1048576: true; the input reads as it did. -/
def senderBatchUptoRow : OpenClaim := { program := "ytieimafoacdefaa", sum := "9af62840679fa767d783b3eebbb716e906b20355e9b7b6c5e94927a4eb76516d", func := "postroom/postroomlaw16.SenderBatch", spec := "senderBatch", apart := false, narrowed := true }
def SenderBatchUptoSaid : Prop := senderBatchUptoRow.holds Try.pinned (OpenSpec.upto senderBatchSpec)

/-- 'postroomlaw16.SenderTries', WHERE WHAT IT READS IS OF BULK AT MOST 1048576: true; the input reads as it did. -/
def senderTriesUptoRow : OpenClaim := { program := "ytieimafoacdefaa", sum := "9af62840679fa767d783b3eebbb716e906b20355e9b7b6c5e94927a4eb76516d", func := "postroom/postroomlaw16.SenderTries", spec := "senderTries", apart := false, narrowed := true }
def SenderTriesUptoSaid : Prop := senderTriesUptoRow.holds Try.pinned (OpenSpec.upto senderTriesSpec)

/-- 'postroomlaw16.SenderRuns', WHERE WHAT IT READS IS OF BULK AT MOST 1048576: true; the input reads as it did. -/
def senderRunsUptoRow : OpenClaim := { program := "ytieimafoacdefaa", sum := "9af62840679fa767d783b3eebbb716e906b20355e9b7b6c5e94927a4eb76516d", func := "postroom/postroomlaw16.SenderRuns", spec := "senderRuns", apart := false, narrowed := true }
def SenderRunsUptoSaid : Prop := senderRunsUptoRow.holds Try.pinned (OpenSpec.upto senderRunsSpec)

/-- 'postroomlaw16.SenderLate', WHERE WHAT IT READS IS OF BULK AT MOST 1048576: true; the input reads as it did. -/
def senderLateUptoRow : OpenClaim := { program := "ytieimafoacdefaa", sum := "9af62840679fa767d783b3eebbb716e906b20355e9b7b6c5e94927a4eb76516d", func := "postroom/postroomlaw16.SenderLate", spec := "senderLate", apart := false, narrowed := true }
def SenderLateUptoSaid : Prop := senderLateUptoRow.holds Try.pinned (OpenSpec.upto senderLateSpec)

end Rows
end Go.Proofs.Ytieimafoacdefaa
