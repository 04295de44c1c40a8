/-
  No cell of these rows narrows 'for every input' (looked for: loops, veiled, ifaces, maps, wideKeys, modest, calm, conditions, laid).
  DERIVED. THE GIVEN ROWS OF THIS SEAT. 6 by the template 'for every input the law returns true; each argument reads behind the call as it read before'; 0 by the template 'total and deterministic' (their statements: YtoejaknfoniphaaTotals.lean).
  GIVEN WITH THE SEED: the statements are not yours to turn. If you find one false, say at which input.
  Laid BY PROGRAM, IN A SANDBOX (cutbox-rows.mjs): the forced cells as the released guide's own fill.sh prints them over the translation b5b4ecedb53fb947… (all of the seat's roots in one cut). By AI agents, Wed Nov 11 2026. No macro, syntax, notation, axiom, sorry.
-/
import Derived.Test.YtoejaknfoniphaaChecked
import GoSem.Claim
import GoSem.ClaimJoined
import GoSem.ClaimMapViews
import Derived.JoinedTies
import Derived.KernelRfl
namespace Go.Proofs.Ytoejaknfoniphaa
/- THE CELL 'sum', in the pinned program and in every row, IS THE sha256 OF THE DUMP (.gsa) THAT YtoejaknfoniphaaProg.lean LOADS. Nothing in Lean hashes anything: it is a label: what it is worth is what the hold of that sum in a sandbox is worth. -/
noncomputable def Try.pinned : Pinned := { name := "ytoejaknfoniphaa", sum := "b5b4ecedb53fb9473e3228ab0572cfc903e7738810f714ddca1e5ea1dd4c9448", checked := Try.checked }
namespace Rows
def none {H : Type} : Left H := { results := [], args := [] }

/-- 'ogivelaw09.StampActive': WHATEVER THE INPUT: true; the input reads as it did. -/
def stampActiveSpec : ChangeSpec := { name := "stampActive", fn := fun _ => fun
  | [d1, d2] => { results := [.lit (.bool true)], args := [d1, d2] }
  | _ => none }
def stampActiveRow : OpenClaim := { program := "ytoejaknfoniphaa", sum := "b5b4ecedb53fb9473e3228ab0572cfc903e7738810f714ddca1e5ea1dd4c9448", func := "ogive/ogivelaw09.StampActive", spec := "stampActive", unfollowed := true, recurses := true, apart := false }
def StampActiveSaid : Prop := stampActiveRow.holds Try.pinned (OpenSpec.ofChange stampActiveSpec)

/-- ITS FALSE NEIGHBOUR: 'it returns false'. Refute it at one input. -/
def stampActiveWrong : ChangeSpec := { name := "stampActive", fn := fun _ => fun
  | [d1, d2] => { results := [.lit (.bool false)], args := [d1, d2] }
  | _ => none }
def StampActiveWrongFalsely : Prop := stampActiveRow.holds Try.pinned (OpenSpec.ofChange stampActiveWrong)

/-- 'ogivelaw09.StampOver': WHATEVER THE INPUT: true; the input reads as it did. -/
def stampOverSpec : ChangeSpec := { name := "stampOver", fn := fun _ => fun
  | [d] => { results := [.lit (.bool true)], args := [d] }
  | _ => none }
def stampOverRow : OpenClaim := { program := "ytoejaknfoniphaa", sum := "b5b4ecedb53fb9473e3228ab0572cfc903e7738810f714ddca1e5ea1dd4c9448", func := "ogive/ogivelaw09.StampOver", spec := "stampOver", unfollowed := true, recurses := true, apart := false }
def StampOverSaid : Prop := stampOverRow.holds Try.pinned (OpenSpec.ofChange stampOverSpec)

/-- ITS FALSE NEIGHBOUR: 'it returns false'. Refute it at one input. -/
def stampOverWrong : ChangeSpec := { name := "stampOver", fn := fun _ => fun
  | [d] => { results := [.lit (.bool false)], args := [d] }
  | _ => none }
def StampOverWrongFalsely : Prop := stampOverRow.holds Try.pinned (OpenSpec.ofChange stampOverWrong)

/-- 'ogivelaw09.StampPlays': WHATEVER THE INPUT: true; the input reads as it did. -/
def stampPlaysSpec : ChangeSpec := { name := "stampPlays", fn := fun _ => fun
  | [d1, d2] => { results := [.lit (.bool true)], args := [d1, d2] }
  | _ => none }
def stampPlaysRow : OpenClaim := { program := "ytoejaknfoniphaa", sum := "b5b4ecedb53fb9473e3228ab0572cfc903e7738810f714ddca1e5ea1dd4c9448", func := "ogive/ogivelaw09.StampPlays", spec := "stampPlays", unfollowed := true, recurses := true, apart := false }
def StampPlaysSaid : Prop := stampPlaysRow.holds Try.pinned (OpenSpec.ofChange stampPlaysSpec)

/-- ITS FALSE NEIGHBOUR: 'it returns false'. Refute it at one input. -/
def stampPlaysWrong : ChangeSpec := { name := "stampPlays", fn := fun _ => fun
  | [d1, d2] => { results := [.lit (.bool false)], args := [d1, d2] }
  | _ => none }
def StampPlaysWrongFalsely : Prop := stampPlaysRow.holds Try.pinned (OpenSpec.ofChange stampPlaysWrong)

/-- 'ogivelaw09.StampRises': WHATEVER THE INPUT: true; the input reads as it did. -/
def stampRisesSpec : ChangeSpec := { name := "stampRises", fn := fun _ => fun
  | [d1, d2] => { results := [.lit (.bool true)], args := [d1, d2] }
  | _ => none }
def stampRisesRow : OpenClaim := { program := "ytoejaknfoniphaa", sum := "b5b4ecedb53fb9473e3228ab0572cfc903e7738810f714ddca1e5ea1dd4c9448", func := "ogive/ogivelaw09.StampRises", spec := "stampRises", unfollowed := true, recurses := true, apart := false }
def StampRisesSaid : Prop := stampRisesRow.holds Try.pinned (OpenSpec.ofChange stampRisesSpec)

/-- ITS FALSE NEIGHBOUR: 'it returns false'. Refute it at one input. -/
def stampRisesWrong : ChangeSpec := { name := "stampRises", fn := fun _ => fun
  | [d1, d2] => { results := [.lit (.bool false)], args := [d1, d2] }
  | _ => none }
def StampRisesWrongFalsely : Prop := stampRisesRow.holds Try.pinned (OpenSpec.ofChange stampRisesWrong)

/-- 'ogivelaw09.StampRaised': WHATEVER THE INPUT: true; the input reads as it did. -/
def stampRaisedSpec : ChangeSpec := { name := "stampRaised", fn := fun _ => fun
  | [d1, d2] => { results := [.lit (.bool true)], args := [d1, d2] }
  | _ => none }
def stampRaisedRow : OpenClaim := { program := "ytoejaknfoniphaa", sum := "b5b4ecedb53fb9473e3228ab0572cfc903e7738810f714ddca1e5ea1dd4c9448", func := "ogive/ogivelaw09.StampRaised", spec := "stampRaised", unfollowed := true, recurses := true, apart := false }
def StampRaisedSaid : Prop := stampRaisedRow.holds Try.pinned (OpenSpec.ofChange stampRaisedSpec)

/-- ITS FALSE NEIGHBOUR: 'it returns false'. Refute it at one input. -/
def stampRaisedWrong : ChangeSpec := { name := "stampRaised", fn := fun _ => fun
  | [d1, d2] => { results := [.lit (.bool false)], args := [d1, d2] }
  | _ => none }
def StampRaisedWrongFalsely : Prop := stampRaisedRow.holds Try.pinned (OpenSpec.ofChange stampRaisedWrong)

/-- 'ogivelaw09.StampNobody': WHATEVER THE INPUT: true; the input reads as it did. -/
def stampNobodySpec : ChangeSpec := { name := "stampNobody", fn := fun _ => fun
  | [d] => { results := [.lit (.bool true)], args := [d] }
  | _ => none }
def stampNobodyRow : OpenClaim := { program := "ytoejaknfoniphaa", sum := "b5b4ecedb53fb9473e3228ab0572cfc903e7738810f714ddca1e5ea1dd4c9448", func := "ogive/ogivelaw09.StampNobody", spec := "stampNobody", unfollowed := true, recurses := true, apart := false }
def StampNobodySaid : Prop := stampNobodyRow.holds Try.pinned (OpenSpec.ofChange stampNobodySpec)

/-- ITS FALSE NEIGHBOUR: 'it returns false'. Refute it at one input. -/
def stampNobodyWrong : ChangeSpec := { name := "stampNobody", fn := fun _ => fun
  | [d] => { results := [.lit (.bool false)], args := [d] }
  | _ => none }
def StampNobodyWrongFalsely : Prop := stampNobodyRow.holds Try.pinned (OpenSpec.ofChange stampNobodyWrong)

/- THE SECOND FORM. 'bulk': how many values and letters a reading holds, each counted each time it is reached (what is shared counts as often as it is met; a slice's spare places count too). A statement '..UptoSaid' is the law's where the arguments, and the package variables that the reading takes, are together of bulk at most 1048576: NARROWER than '..Said'. Prove '..Said' where nothing that the law and all that it calls make is longer than what came in: it says more and counts as full. Else prove '..UptoSaid'. A law counts once. -/
mutual
def uptoBulk {H : Type} : DataW H → Nat
  | .lit (.string bytes) => bytes.length + 1
  | .lit _ => 1
  | .nil => 1
  | .ptr d => uptoBulk d + 1
  | .slice elems spare => uptoBulkAll elems + uptoBulkAll spare + 1
  | .agg parts => uptoBulkAll parts + 1
  | .iface _ d => uptoBulk d + 1
  | .map entries => uptoBulkEntries entries + 1
  | .held _ => 1
def uptoBulkAll {H : Type} : List (DataW H) → Nat
  | [] => 0
  | d :: r => uptoBulk d + uptoBulkAll r
def uptoBulkEntries {H : Type} : List (Lit × DataW H) → Nat
  | [] => 0
  | x :: r => uptoBulkEntry x + uptoBulkEntries r
def uptoBulkEntry {H : Type} : Lit × DataW H → Nat
  | (.string bytes, d) => bytes.length + uptoBulk d + 1
  | (_, d) => uptoBulk d + 1
 end
def uptoSmall : (H : Type) → List (DataW H) → Bool := fun _ ds => decide (uptoBulkAll ds ≤ 1048576)
def OpenSpec.upto (s : _root_.Go.ChangeSpec) : _root_.Go.OpenSpec := { _root_.Go.OpenSpec.ofChange s with cond := some uptoSmall }

/-- 'ogivelaw09.StampActive', WHERE WHAT IT READS IS OF BULK AT MOST 1048576: true; the input reads as it did. -/
def stampActiveUptoRow : OpenClaim := { program := "ytoejaknfoniphaa", sum := "b5b4ecedb53fb9473e3228ab0572cfc903e7738810f714ddca1e5ea1dd4c9448", func := "ogive/ogivelaw09.StampActive", spec := "stampActive", unfollowed := true, recurses := true, apart := false, narrowed := true }
def StampActiveUptoSaid : Prop := stampActiveUptoRow.holds Try.pinned (OpenSpec.upto stampActiveSpec)

/-- 'ogivelaw09.StampOver', WHERE WHAT IT READS IS OF BULK AT MOST 1048576: true; the input reads as it did. -/
def stampOverUptoRow : OpenClaim := { program := "ytoejaknfoniphaa", sum := "b5b4ecedb53fb9473e3228ab0572cfc903e7738810f714ddca1e5ea1dd4c9448", func := "ogive/ogivelaw09.StampOver", spec := "stampOver", unfollowed := true, recurses := true, apart := false, narrowed := true }
def StampOverUptoSaid : Prop := stampOverUptoRow.holds Try.pinned (OpenSpec.upto stampOverSpec)

/-- 'ogivelaw09.StampPlays', WHERE WHAT IT READS IS OF BULK AT MOST 1048576: true; the input reads as it did. -/
def stampPlaysUptoRow : OpenClaim := { program := "ytoejaknfoniphaa", sum := "b5b4ecedb53fb9473e3228ab0572cfc903e7738810f714ddca1e5ea1dd4c9448", func := "ogive/ogivelaw09.StampPlays", spec := "stampPlays", unfollowed := true, recurses := true, apart := false, narrowed := true }
def StampPlaysUptoSaid : Prop := stampPlaysUptoRow.holds Try.pinned (OpenSpec.upto stampPlaysSpec)

/-- 'ogivelaw09.StampRises', WHERE WHAT IT READS IS OF BULK AT MOST 1048576: true; the input reads as it did. -/
def stampRisesUptoRow : OpenClaim := { program := "ytoejaknfoniphaa", sum := "b5b4ecedb53fb9473e3228ab0572cfc903e7738810f714ddca1e5ea1dd4c9448", func := "ogive/ogivelaw09.StampRises", spec := "stampRises", unfollowed := true, recurses := true, apart := false, narrowed := true }
def StampRisesUptoSaid : Prop := stampRisesUptoRow.holds Try.pinned (OpenSpec.upto stampRisesSpec)

/-- 'ogivelaw09.StampRaised', WHERE WHAT IT READS IS OF BULK AT MOST 1048576: true; the input reads as it did. -/
def stampRaisedUptoRow : OpenClaim := { program := "ytoejaknfoniphaa", sum := "b5b4ecedb53fb9473e3228ab0572cfc903e7738810f714ddca1e5ea1dd4c9448", func := "ogive/ogivelaw09.StampRaised", spec := "stampRaised", unfollowed := true, recurses := true, apart := false, narrowed := true }
def StampRaisedUptoSaid : Prop := stampRaisedUptoRow.holds Try.pinned (OpenSpec.upto stampRaisedSpec)

/-- 'ogivelaw09.StampNobody', WHERE WHAT IT READS IS OF BULK AT MOST 1048576: true; the input reads as it did. -/
def stampNobodyUptoRow : OpenClaim := { program := "ytoejaknfoniphaa", sum := "b5b4ecedb53fb9473e3228ab0572cfc903e7738810f714ddca1e5ea1dd4c9448", func := "ogive/ogivelaw09.StampNobody", spec := "stampNobody", unfollowed := true, recurses := true, apart := false, narrowed := true }
def StampNobodyUptoSaid : Prop := stampNobodyUptoRow.holds Try.pinned (OpenSpec.upto stampNobodySpec)

end Rows
end Go.Proofs.Ytoejaknfoniphaa
