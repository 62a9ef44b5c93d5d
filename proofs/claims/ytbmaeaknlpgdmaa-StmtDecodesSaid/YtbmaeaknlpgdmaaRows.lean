/-
  No cell of these rows narrows 'for every input' (looked for: loops, veiled, ifaces, maps, wideKeys, modest, calm, conditions, laid).
  DERIVED. THE GIVEN ROWS OF THIS SEAT. 4 by the template 'for every input the law returns true; each argument reads behind the call as it read before'; 0 by the template 'total and deterministic' (their statements: YtbmaeaknlpgdmaaTotals.lean).
  GIVEN WITH THE SEED: the statements are not yours to turn. If you find one false, say at which input.
  Laid BY PROGRAM, IN A SANDBOX (cutbox-rows.mjs): the forced cells as the released guide's own fill.sh prints them over the translation 6c012301d5ba1654… (all of the seat's roots in one cut). By AI agents, Wed Nov 11 2026. No macro, syntax, notation, axiom, sorry.
-/
import Derived.Test.YtbmaeaknlpgdmaaChecked
import GoSem.Claim
import GoSem.ClaimJoined
import GoSem.ClaimMapViews
import Derived.JoinedTies
import Derived.KernelRfl
namespace Go.Proofs.Ytbmaeaknlpgdmaa
/- THE CELL 'sum', in the pinned program and in every row, IS THE sha256 OF THE DUMP (.gsa) THAT YtbmaeaknlpgdmaaProg.lean LOADS. Nothing in Lean hashes anything: it is a label: what it is worth is what the hold of that sum in a sandbox is worth. -/
noncomputable def Try.pinned : Pinned := { name := "ytbmaeaknlpgdmaa", sum := "6c012301d5ba16540d4ecb7aea5f78fc0a40a936ad34b34a8baeaecd6ee7a1aa", checked := Try.checked }
namespace Rows
def none {H : Type} : Left H := { results := [], args := [] }

/-- 'liverylaw16.StmtBack': WHATEVER THE INPUT: true; the input reads as it did. -/
def stmtBackSpec : ChangeSpec := { name := "stmtBack", fn := fun _ => fun
  | [d1, d2] => { results := [.lit (.bool true)], args := [d1, d2] }
  | _ => none }
def stmtBackRow : OpenClaim := { program := "ytbmaeaknlpgdmaa", sum := "6c012301d5ba16540d4ecb7aea5f78fc0a40a936ad34b34a8baeaecd6ee7a1aa", func := "livery/liverylaw16.StmtBack", spec := "stmtBack", inPlace := ["math.Float64bits", "math.Float64frombits"], unfollowed := true, recurses := true, apart := false }
def StmtBackSaid : Prop := stmtBackRow.holds Try.pinned (OpenSpec.ofChange stmtBackSpec)

/-- ITS FALSE NEIGHBOUR: 'it returns false'. Refute it at one input. -/
def stmtBackWrong : ChangeSpec := { name := "stmtBack", fn := fun _ => fun
  | [d1, d2] => { results := [.lit (.bool false)], args := [d1, d2] }
  | _ => none }
def StmtBackWrongFalsely : Prop := stmtBackRow.holds Try.pinned (OpenSpec.ofChange stmtBackWrong)

/-- 'liverylaw16.StmtEncodes': WHATEVER THE INPUT: true; the input reads as it did. -/
def stmtEncodesSpec : ChangeSpec := { name := "stmtEncodes", fn := fun _ => fun
  | [d] => { results := [.lit (.bool true)], args := [d] }
  | _ => none }
def stmtEncodesRow : OpenClaim := { program := "ytbmaeaknlpgdmaa", sum := "6c012301d5ba16540d4ecb7aea5f78fc0a40a936ad34b34a8baeaecd6ee7a1aa", func := "livery/liverylaw16.StmtEncodes", spec := "stmtEncodes", inPlace := ["math.Float64bits", "math.Float64frombits"], unfollowed := true, recurses := true, apart := false }
def StmtEncodesSaid : Prop := stmtEncodesRow.holds Try.pinned (OpenSpec.ofChange stmtEncodesSpec)

/-- ITS FALSE NEIGHBOUR: 'it returns false'. Refute it at one input. -/
def stmtEncodesWrong : ChangeSpec := { name := "stmtEncodes", fn := fun _ => fun
  | [d] => { results := [.lit (.bool false)], args := [d] }
  | _ => none }
def StmtEncodesWrongFalsely : Prop := stmtEncodesRow.holds Try.pinned (OpenSpec.ofChange stmtEncodesWrong)

/-- 'liverylaw16.StmtDecodes': WHATEVER THE INPUT: true; the input reads as it did. -/
def stmtDecodesSpec : ChangeSpec := { name := "stmtDecodes", fn := fun _ => fun
  | [d1, d2, d3] => { results := [.lit (.bool true)], args := [d1, d2, d3] }
  | _ => none }
def stmtDecodesRow : OpenClaim := { program := "ytbmaeaknlpgdmaa", sum := "6c012301d5ba16540d4ecb7aea5f78fc0a40a936ad34b34a8baeaecd6ee7a1aa", func := "livery/liverylaw16.StmtDecodes", spec := "stmtDecodes", inPlace := ["math.Float64bits", "math.Float64frombits"], unfollowed := true, recurses := true, apart := false }
def StmtDecodesSaid : Prop := stmtDecodesRow.holds Try.pinned (OpenSpec.ofChange stmtDecodesSpec)

/-- ITS FALSE NEIGHBOUR: 'it returns false'. Refute it at one input. -/
def stmtDecodesWrong : ChangeSpec := { name := "stmtDecodes", fn := fun _ => fun
  | [d1, d2, d3] => { results := [.lit (.bool false)], args := [d1, d2, d3] }
  | _ => none }
def StmtDecodesWrongFalsely : Prop := stmtDecodesRow.holds Try.pinned (OpenSpec.ofChange stmtDecodesWrong)

/-- 'liverylaw16.StmtOthers': WHATEVER THE INPUT: true; the input reads as it did. -/
def stmtOthersSpec : ChangeSpec := { name := "stmtOthers", fn := fun _ => fun
  | [d1, d2] => { results := [.lit (.bool true)], args := [d1, d2] }
  | _ => none }
def stmtOthersRow : OpenClaim := { program := "ytbmaeaknlpgdmaa", sum := "6c012301d5ba16540d4ecb7aea5f78fc0a40a936ad34b34a8baeaecd6ee7a1aa", func := "livery/liverylaw16.StmtOthers", spec := "stmtOthers", inPlace := ["math.Float64bits", "math.Float64frombits"], unfollowed := true, recurses := true, apart := false }
def StmtOthersSaid : Prop := stmtOthersRow.holds Try.pinned (OpenSpec.ofChange stmtOthersSpec)

/-- ITS FALSE NEIGHBOUR: 'it returns false'. Refute it at one input. -/
def stmtOthersWrong : ChangeSpec := { name := "stmtOthers", fn := fun _ => fun
  | [d1, d2] => { results := [.lit (.bool false)], args := [d1, d2] }
  | _ => none }
def StmtOthersWrongFalsely : Prop := stmtOthersRow.holds Try.pinned (OpenSpec.ofChange stmtOthersWrong)

/- THE SECOND FORM. 'bulk': how many values and letters a reading holds, each counted each time it is reached (what is shared counts as often as it is met; a slice's spare places count too). A statement '..UptoSaid' is the law's where the arguments, and the package variables that the reading takes, are together of bulk at most 1048576: NARROWER than '..Said'. Prove '..Said' where nothing that the law and all that it calls make is longer than what came in: it says more and counts as full. Else prove '..UptoSaid'. A law counts once. -/
mutual
def uptoBulk {H : Type} : DataW H → Nat
  | .lit (.string bytes) => bytes.length + 1
  | .lit _ => 1
  | .nil => 1
  | .ptr d => uptoBulk d + 1
  | .slice elems spare => uptoBulkAll elems + uptoBulkAll spare + 1
  | .agg parts => uptoBulkAll parts + 1
  | .iface _ d => uptoBulk d + 1
  | .map entries => uptoBulkEntries entries + 1
  | .held _ => 1
def uptoBulkAll {H : Type} : List (DataW H) → Nat
  | [] => 0
  | d :: r => uptoBulk d + uptoBulkAll r
def uptoBulkEntries {H : Type} : List (Lit × DataW H) → Nat
  | [] => 0
  | x :: r => uptoBulkEntry x + uptoBulkEntries r
def uptoBulkEntry {H : Type} : Lit × DataW H → Nat
  | (.string bytes, d) => bytes.length + uptoBulk d + 1
  | (_, d) => uptoBulk d + 1
 end
def uptoSmall : (H : Type) → List (DataW H) → Bool := fun _ ds => decide (uptoBulkAll ds ≤ 1048576)
def OpenSpec.upto (s : _root_.Go.ChangeSpec) : _root_.Go.OpenSpec := { _root_.Go.OpenSpec.ofChange s with cond := some uptoSmall }

/-- 'liverylaw16.StmtBack', WHERE WHAT IT READS IS OF BULK AT MOST 1048576: true; the input reads as it did. -/
def stmtBackUptoRow : OpenClaim := { program := "ytbmaeaknlpgdmaa", sum := "6c012301d5ba16540d4ecb7aea5f78fc0a40a936ad34b34a8baeaecd6ee7a1aa", func := "livery/liverylaw16.StmtBack", spec := "stmtBack", inPlace := ["math.Float64bits", "math.Float64frombits"], unfollowed := true, recurses := true, apart := false, narrowed := true }
def StmtBackUptoSaid : Prop := stmtBackUptoRow.holds Try.pinned (OpenSpec.upto stmtBackSpec)

/-- 'liverylaw16.StmtEncodes', WHERE WHAT IT READS IS OF BULK AT MOST 1048576: true; the input reads as it did. -/
def stmtEncodesUptoRow : OpenClaim := { program := "ytbmaeaknlpgdmaa", sum := "6c012301d5ba16540d4ecb7aea5f78fc0a40a936ad34b34a8baeaecd6ee7a1aa", func := "livery/liverylaw16.StmtEncodes", spec := "stmtEncodes", inPlace := ["math.Float64bits", "math.Float64frombits"], unfollowed := true, recurses := true, apart := false, narrowed := true }
def StmtEncodesUptoSaid : Prop := stmtEncodesUptoRow.holds Try.pinned (OpenSpec.upto stmtEncodesSpec)

/-- 'liverylaw16.StmtDecodes', WHERE WHAT IT READS IS OF BULK AT MOST 1048576: true; the input reads as it did. -/
def stmtDecodesUptoRow : OpenClaim := { program := "ytbmaeaknlpgdmaa", sum := "6c012301d5ba16540d4ecb7aea5f78fc0a40a936ad34b34a8baeaecd6ee7a1aa", func := "livery/liverylaw16.StmtDecodes", spec := "stmtDecodes", inPlace := ["math.Float64bits", "math.Float64frombits"], unfollowed := true, recurses := true, apart := false, narrowed := true }
def StmtDecodesUptoSaid : Prop := stmtDecodesUptoRow.holds Try.pinned (OpenSpec.upto stmtDecodesSpec)

/-- 'liverylaw16.StmtOthers', WHERE WHAT IT READS IS OF BULK AT MOST 1048576: true; the input reads as it did. -/
def stmtOthersUptoRow : OpenClaim := { program := "ytbmaeaknlpgdmaa", sum := "6c012301d5ba16540d4ecb7aea5f78fc0a40a936ad34b34a8baeaecd6ee7a1aa", func := "livery/liverylaw16.StmtOthers", spec := "stmtOthers", inPlace := ["math.Float64bits", "math.Float64frombits"], unfollowed := true, recurses := true, apart := false, narrowed := true }
def StmtOthersUptoSaid : Prop := stmtOthersUptoRow.holds Try.pinned (OpenSpec.upto stmtOthersSpec)

end Rows
end Go.Proofs.Ytbmaeaknlpgdmaa
