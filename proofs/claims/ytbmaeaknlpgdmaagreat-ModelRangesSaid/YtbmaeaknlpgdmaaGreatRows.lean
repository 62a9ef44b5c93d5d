/-
  No cell of these rows narrows 'for every input' (looked for: loops, veiled, ifaces, maps, wideKeys, modest, calm, conditions, laid).
  DERIVED. THE GIVEN ROWS OF THIS SEAT. 7 by the template 'for every input the law returns true; each argument reads behind the call as it read before'; 0 by the template 'total and deterministic' (their statements: YtbmaeaknlpgdmaaGreatTotals.lean).
  GIVEN WITH THE SEED: the statements are not yours to turn. If you find one false, say at which input.
  Laid BY PROGRAM, IN A SANDBOX (cutbox-rows.mjs): the forced cells as the released guide's own fill.sh prints them over the translation 385c765380e538a2… (all of the seat's roots in one cut). By AI agents, Wed Nov 11 2026. No macro, syntax, notation, axiom, sorry.
-/
import Derived.Test.YtbmaeaknlpgdmaaGreatChecked
import GoSem.Claim
import GoSem.ClaimJoined
import GoSem.ClaimMapViews
import Derived.JoinedTies
import Derived.KernelRfl
namespace Go.Proofs.YtbmaeaknlpgdmaaGreat
/- THE CELL 'sum', in the pinned program and in every row, IS THE sha256 OF THE DUMP (.gsa) THAT YtbmaeaknlpgdmaaGreatProg.lean LOADS. Nothing in Lean hashes anything: it is a label: what it is worth is what the hold of that sum in a sandbox is worth. -/
noncomputable def Tryz.pinned : Pinned := { name := "ytbmaeaknlpgdmaagreat", sum := "385c765380e538a2a1d1aae4e49f44743a69f6f2b974ae1198540ef26c8e9eea", checked := Tryz.checked }
namespace Rows
def none {H : Type} : Left H := { results := [], args := [] }

/-- 'liverylaw18.ModelRanges': WHATEVER THE INPUT: true; the input reads as it did. -/
def modelRangesSpec : ChangeSpec := { name := "modelRanges", fn := fun _ => fun
  | [d1, d2] => { results := [.lit (.bool true)], args := [d1, d2] }
  | _ => none }
def modelRangesRow : OpenClaim := { program := "ytbmaeaknlpgdmaagreat", sum := "385c765380e538a2a1d1aae4e49f44743a69f6f2b974ae1198540ef26c8e9eea", func := "livery/liverylaw18.ModelRanges", spec := "modelRanges", inPlace := ["math.Float64bits", "math.Float64frombits", "internal/bytealg.abigen_runtime_cmpstring"], unfollowed := true, recurses := true, apart := false }
def ModelRangesSaid : Prop := modelRangesRow.holds Tryz.pinned (OpenSpec.ofChange modelRangesSpec)

/-- ITS FALSE NEIGHBOUR: 'it returns false'. Refute it at one input. -/
def modelRangesWrong : ChangeSpec := { name := "modelRanges", fn := fun _ => fun
  | [d1, d2] => { results := [.lit (.bool false)], args := [d1, d2] }
  | _ => none }
def ModelRangesWrongFalsely : Prop := modelRangesRow.holds Tryz.pinned (OpenSpec.ofChange modelRangesWrong)

/-- 'liverylaw18.ModelPlays': WHATEVER THE INPUT: true; the input reads as it did. -/
def modelPlaysSpec : ChangeSpec := { name := "modelPlays", fn := fun _ => fun
  | [d] => { results := [.lit (.bool true)], args := [d] }
  | _ => none }
def modelPlaysRow : OpenClaim := { program := "ytbmaeaknlpgdmaagreat", sum := "385c765380e538a2a1d1aae4e49f44743a69f6f2b974ae1198540ef26c8e9eea", func := "livery/liverylaw18.ModelPlays", spec := "modelPlays", inPlace := ["math.Float64bits", "math.Float64frombits", "internal/bytealg.abigen_runtime_cmpstring"], unfollowed := true, recurses := true, apart := false }
def ModelPlaysSaid : Prop := modelPlaysRow.holds Tryz.pinned (OpenSpec.ofChange modelPlaysSpec)

/-- ITS FALSE NEIGHBOUR: 'it returns false'. Refute it at one input. -/
def modelPlaysWrong : ChangeSpec := { name := "modelPlays", fn := fun _ => fun
  | [d] => { results := [.lit (.bool false)], args := [d] }
  | _ => none }
def ModelPlaysWrongFalsely : Prop := modelPlaysRow.holds Tryz.pinned (OpenSpec.ofChange modelPlaysWrong)

/-- 'liverylaw18.ModelOrder': WHATEVER THE INPUT: true; the input reads as it did. -/
def modelOrderSpec : ChangeSpec := { name := "modelOrder", fn := fun _ => fun
  | [d1, d2] => { results := [.lit (.bool true)], args := [d1, d2] }
  | _ => none }
def modelOrderRow : OpenClaim := { program := "ytbmaeaknlpgdmaagreat", sum := "385c765380e538a2a1d1aae4e49f44743a69f6f2b974ae1198540ef26c8e9eea", func := "livery/liverylaw18.ModelOrder", spec := "modelOrder", inPlace := ["math.Float64bits", "math.Float64frombits", "internal/bytealg.abigen_runtime_cmpstring"], unfollowed := true, recurses := true, apart := false }
def ModelOrderSaid : Prop := modelOrderRow.holds Tryz.pinned (OpenSpec.ofChange modelOrderSpec)

/-- ITS FALSE NEIGHBOUR: 'it returns false'. Refute it at one input. -/
def modelOrderWrong : ChangeSpec := { name := "modelOrder", fn := fun _ => fun
  | [d1, d2] => { results := [.lit (.bool false)], args := [d1, d2] }
  | _ => none }
def ModelOrderWrongFalsely : Prop := modelOrderRow.holds Tryz.pinned (OpenSpec.ofChange modelOrderWrong)

/-- 'liverylaw18.ModelErrors': WHATEVER THE INPUT: true; the input reads as it did. -/
def modelErrorsSpec : ChangeSpec := { name := "modelErrors", fn := fun _ => fun
  | [d1, d2] => { results := [.lit (.bool true)], args := [d1, d2] }
  | _ => none }
def modelErrorsRow : OpenClaim := { program := "ytbmaeaknlpgdmaagreat", sum := "385c765380e538a2a1d1aae4e49f44743a69f6f2b974ae1198540ef26c8e9eea", func := "livery/liverylaw18.ModelErrors", spec := "modelErrors", inPlace := ["math.Float64bits", "math.Float64frombits", "internal/bytealg.abigen_runtime_cmpstring", "maps.clone"], unfollowed := true, recurses := true, apart := false }
def ModelErrorsSaid : Prop := modelErrorsRow.holds Tryz.pinned (OpenSpec.ofChange modelErrorsSpec)

/-- ITS FALSE NEIGHBOUR: 'it returns false'. Refute it at one input. -/
def modelErrorsWrong : ChangeSpec := { name := "modelErrors", fn := fun _ => fun
  | [d1, d2] => { results := [.lit (.bool false)], args := [d1, d2] }
  | _ => none }
def ModelErrorsWrongFalsely : Prop := modelErrorsRow.holds Tryz.pinned (OpenSpec.ofChange modelErrorsWrong)

/-- 'liverylaw18.ModelNone': WHATEVER THE INPUT: true; the input reads as it did. -/
def modelNoneSpec : ChangeSpec := { name := "modelNone", fn := fun _ => fun
  | [d] => { results := [.lit (.bool true)], args := [d] }
  | _ => none }
def modelNoneRow : OpenClaim := { program := "ytbmaeaknlpgdmaagreat", sum := "385c765380e538a2a1d1aae4e49f44743a69f6f2b974ae1198540ef26c8e9eea", func := "livery/liverylaw18.ModelNone", spec := "modelNone", inPlace := ["math.Float64bits", "math.Float64frombits", "internal/bytealg.abigen_runtime_cmpstring", "maps.clone"], unfollowed := true, recurses := true, apart := false }
def ModelNoneSaid : Prop := modelNoneRow.holds Tryz.pinned (OpenSpec.ofChange modelNoneSpec)

/-- ITS FALSE NEIGHBOUR: 'it returns false'. Refute it at one input. -/
def modelNoneWrong : ChangeSpec := { name := "modelNone", fn := fun _ => fun
  | [d] => { results := [.lit (.bool false)], args := [d] }
  | _ => none }
def ModelNoneWrongFalsely : Prop := modelNoneRow.holds Tryz.pinned (OpenSpec.ofChange modelNoneWrong)

/-- 'liverylaw18.ModelCopies': WHATEVER THE INPUT: true; the input reads as it did. -/
def modelCopiesSpec : ChangeSpec := { name := "modelCopies", fn := fun _ => fun
  | [d1, d2, d3] => { results := [.lit (.bool true)], args := [d1, d2, d3] }
  | _ => none }
def modelCopiesRow : OpenClaim := { program := "ytbmaeaknlpgdmaagreat", sum := "385c765380e538a2a1d1aae4e49f44743a69f6f2b974ae1198540ef26c8e9eea", func := "livery/liverylaw18.ModelCopies", spec := "modelCopies", inPlace := ["math.Float64bits", "math.Float64frombits", "internal/bytealg.abigen_runtime_cmpstring", "maps.clone"], unfollowed := true, recurses := true, apart := false }
def ModelCopiesSaid : Prop := modelCopiesRow.holds Tryz.pinned (OpenSpec.ofChange modelCopiesSpec)

/-- ITS FALSE NEIGHBOUR: 'it returns false'. Refute it at one input. -/
def modelCopiesWrong : ChangeSpec := { name := "modelCopies", fn := fun _ => fun
  | [d1, d2, d3] => { results := [.lit (.bool false)], args := [d1, d2, d3] }
  | _ => none }
def ModelCopiesWrongFalsely : Prop := modelCopiesRow.holds Tryz.pinned (OpenSpec.ofChange modelCopiesWrong)

/-- 'liverylaw18.ModelUnique': WHATEVER THE INPUT: true; the input reads as it did. -/
def modelUniqueSpec : ChangeSpec := { name := "modelUnique", fn := fun _ => fun
  | [d] => { results := [.lit (.bool true)], args := [d] }
  | _ => none }
def modelUniqueRow : OpenClaim := { program := "ytbmaeaknlpgdmaagreat", sum := "385c765380e538a2a1d1aae4e49f44743a69f6f2b974ae1198540ef26c8e9eea", func := "livery/liverylaw18.ModelUnique", spec := "modelUnique", inPlace := ["math.Float64bits", "math.Float64frombits", "internal/bytealg.abigen_runtime_cmpstring", "maps.clone"], unfollowed := true, recurses := true, apart := false }
def ModelUniqueSaid : Prop := modelUniqueRow.holds Tryz.pinned (OpenSpec.ofChange modelUniqueSpec)

/-- ITS FALSE NEIGHBOUR: 'it returns false'. Refute it at one input. -/
def modelUniqueWrong : ChangeSpec := { name := "modelUnique", fn := fun _ => fun
  | [d] => { results := [.lit (.bool false)], args := [d] }
  | _ => none }
def ModelUniqueWrongFalsely : Prop := modelUniqueRow.holds Tryz.pinned (OpenSpec.ofChange modelUniqueWrong)

/- THE SECOND FORM. 'bulk': how many values and letters a reading holds, each counted each time it is reached (what is shared counts as often as it is met; a slice's spare places count too). A statement '..UptoSaid' is the law's where the arguments, and the package variables that the reading takes, are together of bulk at most 1048576: NARROWER than '..Said'. Prove '..Said' where nothing that the law and all that it calls make is longer than what came in: it says more and counts as full. Else prove '..UptoSaid'. A law counts once. -/
mutual
def uptoBulk {H : Type} : DataW H → Nat
  | .lit (.string bytes) => bytes.length + 1
  | .lit _ => 1
  | .nil => 1
  | .ptr d => uptoBulk d + 1
  | .slice elems spare => uptoBulkAll elems + uptoBulkAll spare + 1
  | .agg parts => uptoBulkAll parts + 1
  | .iface _ d => uptoBulk d + 1
  | .map entries => uptoBulkEntries entries + 1
  | .held _ => 1
def uptoBulkAll {H : Type} : List (DataW H) → Nat
  | [] => 0
  | d :: r => uptoBulk d + uptoBulkAll r
def uptoBulkEntries {H : Type} : List (Lit × DataW H) → Nat
  | [] => 0
  | x :: r => uptoBulkEntry x + uptoBulkEntries r
def uptoBulkEntry {H : Type} : Lit × DataW H → Nat
  | (.string bytes, d) => bytes.length + uptoBulk d + 1
  | (_, d) => uptoBulk d + 1
 end
def uptoSmall : (H : Type) → List (DataW H) → Bool := fun _ ds => decide (uptoBulkAll ds ≤ 1048576)
def OpenSpec.upto (s : _root_.Go.ChangeSpec) : _root_.Go.OpenSpec := { _root_.Go.OpenSpec.ofChange s with cond := some uptoSmall }

/-- 'liverylaw18.ModelRanges', WHERE WHAT IT READS IS OF BULK AT MOST 1048576: true; the input reads as it did. -/
def modelRangesUptoRow : OpenClaim := { program := "ytbmaeaknlpgdmaagreat", sum := "385c765380e538a2a1d1aae4e49f44743a69f6f2b974ae1198540ef26c8e9eea", func := "livery/liverylaw18.ModelRanges", spec := "modelRanges", inPlace := ["math.Float64bits", "math.Float64frombits", "internal/bytealg.abigen_runtime_cmpstring"], unfollowed := true, recurses := true, apart := false, narrowed := true }
def ModelRangesUptoSaid : Prop := modelRangesUptoRow.holds Tryz.pinned (OpenSpec.upto modelRangesSpec)

/-- 'liverylaw18.ModelPlays', WHERE WHAT IT READS IS OF BULK AT MOST 1048576: true; the input reads as it did. -/
def modelPlaysUptoRow : OpenClaim := { program := "ytbmaeaknlpgdmaagreat", sum := "385c765380e538a2a1d1aae4e49f44743a69f6f2b974ae1198540ef26c8e9eea", func := "livery/liverylaw18.ModelPlays", spec := "modelPlays", inPlace := ["math.Float64bits", "math.Float64frombits", "internal/bytealg.abigen_runtime_cmpstring"], unfollowed := true, recurses := true, apart := false, narrowed := true }
def ModelPlaysUptoSaid : Prop := modelPlaysUptoRow.holds Tryz.pinned (OpenSpec.upto modelPlaysSpec)

/-- 'liverylaw18.ModelOrder', WHERE WHAT IT READS IS OF BULK AT MOST 1048576: true; the input reads as it did. -/
def modelOrderUptoRow : OpenClaim := { program := "ytbmaeaknlpgdmaagreat", sum := "385c765380e538a2a1d1aae4e49f44743a69f6f2b974ae1198540ef26c8e9eea", func := "livery/liverylaw18.ModelOrder", spec := "modelOrder", inPlace := ["math.Float64bits", "math.Float64frombits", "internal/bytealg.abigen_runtime_cmpstring"], unfollowed := true, recurses := true, apart := false, narrowed := true }
def ModelOrderUptoSaid : Prop := modelOrderUptoRow.holds Tryz.pinned (OpenSpec.upto modelOrderSpec)

/-- 'liverylaw18.ModelErrors', WHERE WHAT IT READS IS OF BULK AT MOST 1048576: true; the input reads as it did. -/
def modelErrorsUptoRow : OpenClaim := { program := "ytbmaeaknlpgdmaagreat", sum := "385c765380e538a2a1d1aae4e49f44743a69f6f2b974ae1198540ef26c8e9eea", func := "livery/liverylaw18.ModelErrors", spec := "modelErrors", inPlace := ["math.Float64bits", "math.Float64frombits", "internal/bytealg.abigen_runtime_cmpstring", "maps.clone"], unfollowed := true, recurses := true, apart := false, narrowed := true }
def ModelErrorsUptoSaid : Prop := modelErrorsUptoRow.holds Tryz.pinned (OpenSpec.upto modelErrorsSpec)

/-- 'liverylaw18.ModelNone', WHERE WHAT IT READS IS OF BULK AT MOST 1048576: true; the input reads as it did. -/
def modelNoneUptoRow : OpenClaim := { program := "ytbmaeaknlpgdmaagreat", sum := "385c765380e538a2a1d1aae4e49f44743a69f6f2b974ae1198540ef26c8e9eea", func := "livery/liverylaw18.ModelNone", spec := "modelNone", inPlace := ["math.Float64bits", "math.Float64frombits", "internal/bytealg.abigen_runtime_cmpstring", "maps.clone"], unfollowed := true, recurses := true, apart := false, narrowed := true }
def ModelNoneUptoSaid : Prop := modelNoneUptoRow.holds Tryz.pinned (OpenSpec.upto modelNoneSpec)

/-- 'liverylaw18.ModelCopies', WHERE WHAT IT READS IS OF BULK AT MOST 1048576: true; the input reads as it did. -/
def modelCopiesUptoRow : OpenClaim := { program := "ytbmaeaknlpgdmaagreat", sum := "385c765380e538a2a1d1aae4e49f44743a69f6f2b974ae1198540ef26c8e9eea", func := "livery/liverylaw18.ModelCopies", spec := "modelCopies", inPlace := ["math.Float64bits", "math.Float64frombits", "internal/bytealg.abigen_runtime_cmpstring", "maps.clone"], unfollowed := true, recurses := true, apart := false, narrowed := true }
def ModelCopiesUptoSaid : Prop := modelCopiesUptoRow.holds Tryz.pinned (OpenSpec.upto modelCopiesSpec)

/-- 'liverylaw18.ModelUnique', WHERE WHAT IT READS IS OF BULK AT MOST 1048576: true; the input reads as it did. -/
def modelUniqueUptoRow : OpenClaim := { program := "ytbmaeaknlpgdmaagreat", sum := "385c765380e538a2a1d1aae4e49f44743a69f6f2b974ae1198540ef26c8e9eea", func := "livery/liverylaw18.ModelUnique", spec := "modelUnique", inPlace := ["math.Float64bits", "math.Float64frombits", "internal/bytealg.abigen_runtime_cmpstring", "maps.clone"], unfollowed := true, recurses := true, apart := false, narrowed := true }
def ModelUniqueUptoSaid : Prop := modelUniqueUptoRow.holds Tryz.pinned (OpenSpec.upto modelUniqueSpec)

end Rows
end Go.Proofs.YtbmaeaknlpgdmaaGreat
