/-
  No cell of these rows narrows 'for every input' (looked for: loops, veiled, ifaces, maps, wideKeys, modest, calm, conditions, laid).
  DERIVED. THE GIVEN ROWS OF THIS SEAT. 6 by the template 'for every input the law returns true; each argument reads behind the call as it read before'; 0 by the template 'total and deterministic' (their statements: YtjoafadhcdipnaaTotals.lean).
  GIVEN WITH THE SEED: the statements are not yours to turn. If you find one false, say at which input.
  Laid BY PROGRAM, IN A SANDBOX (cutbox-rows.mjs): the forced cells as the released guide's own fill.sh prints them over the translation 496bcf6688e683a9… (all of the seat's roots in one cut). By AI agents, Wed Nov 11 2026. No macro, syntax, notation, axiom, sorry.
-/
import Derived.Test.YtjoafadhcdipnaaChecked
import GoSem.Claim
import GoSem.ClaimJoined
import GoSem.ClaimMapViews
import Derived.JoinedTies
import Derived.KernelRfl
namespace Go.Proofs.Ytjoafadhcdipnaa
/- THE CELL 'sum', in the pinned program and in every row, IS THE sha256 OF THE DUMP (.gsa) THAT YtjoafadhcdipnaaProg.lean LOADS. Nothing in Lean hashes anything: it is a label: what it is worth is what the hold of that sum in a sandbox is worth. -/
noncomputable def Try.pinned : Pinned := { name := "ytjoafadhcdipnaa", sum := "496bcf6688e683a9c4b6ab58ef0bb431cf48eef3b37d0b62770973c556b48fa7", checked := Try.checked }
namespace Rows
def none {H : Type} : Left H := { results := [], args := [] }

/-- 'ogivelaw12.DepsPlays': WHATEVER THE INPUT: true; the input reads as it did. -/
def depsPlaysSpec : ChangeSpec := { name := "depsPlays", fn := fun _ => fun
  | [d] => { results := [.lit (.bool true)], args := [d] }
  | _ => none }
def depsPlaysRow : OpenClaim := { program := "ytjoafadhcdipnaa", sum := "496bcf6688e683a9c4b6ab58ef0bb431cf48eef3b37d0b62770973c556b48fa7", func := "ogive/ogivelaw12.DepsPlays", spec := "depsPlays", unfollowed := true, recurses := true, apart := false }
def DepsPlaysSaid : Prop := depsPlaysRow.holds Try.pinned (OpenSpec.ofChange depsPlaysSpec)

/-- ITS FALSE NEIGHBOUR: 'it returns false'. Refute it at one input. -/
def depsPlaysWrong : ChangeSpec := { name := "depsPlays", fn := fun _ => fun
  | [d] => { results := [.lit (.bool false)], args := [d] }
  | _ => none }
def DepsPlaysWrongFalsely : Prop := depsPlaysRow.holds Try.pinned (OpenSpec.ofChange depsPlaysWrong)

/-- 'ogivelaw12.DepsBelow': WHATEVER THE INPUT: true; the input reads as it did. -/
def depsBelowSpec : ChangeSpec := { name := "depsBelow", fn := fun _ => fun
  | [d] => { results := [.lit (.bool true)], args := [d] }
  | _ => none }
def depsBelowRow : OpenClaim := { program := "ytjoafadhcdipnaa", sum := "496bcf6688e683a9c4b6ab58ef0bb431cf48eef3b37d0b62770973c556b48fa7", func := "ogive/ogivelaw12.DepsBelow", spec := "depsBelow", unfollowed := true, recurses := true, apart := false }
def DepsBelowSaid : Prop := depsBelowRow.holds Try.pinned (OpenSpec.ofChange depsBelowSpec)

/-- ITS FALSE NEIGHBOUR: 'it returns false'. Refute it at one input. -/
def depsBelowWrong : ChangeSpec := { name := "depsBelow", fn := fun _ => fun
  | [d] => { results := [.lit (.bool false)], args := [d] }
  | _ => none }
def DepsBelowWrongFalsely : Prop := depsBelowRow.holds Try.pinned (OpenSpec.ofChange depsBelowWrong)

/-- 'ogivelaw12.DepsDrop': WHATEVER THE INPUT: true; the input reads as it did. -/
def depsDropSpec : ChangeSpec := { name := "depsDrop", fn := fun _ => fun
  | [d1, d2] => { results := [.lit (.bool true)], args := [d1, d2] }
  | _ => none }
def depsDropRow : OpenClaim := { program := "ytjoafadhcdipnaa", sum := "496bcf6688e683a9c4b6ab58ef0bb431cf48eef3b37d0b62770973c556b48fa7", func := "ogive/ogivelaw12.DepsDrop", spec := "depsDrop", unfollowed := true, recurses := true, apart := false }
def DepsDropSaid : Prop := depsDropRow.holds Try.pinned (OpenSpec.ofChange depsDropSpec)

/-- ITS FALSE NEIGHBOUR: 'it returns false'. Refute it at one input. -/
def depsDropWrong : ChangeSpec := { name := "depsDrop", fn := fun _ => fun
  | [d1, d2] => { results := [.lit (.bool false)], args := [d1, d2] }
  | _ => none }
def DepsDropWrongFalsely : Prop := depsDropRow.holds Try.pinned (OpenSpec.ofChange depsDropWrong)

/-- 'ogivelaw12.DepsSettle': WHATEVER THE INPUT: true; the input reads as it did. -/
def depsSettleSpec : ChangeSpec := { name := "depsSettle", fn := fun _ => fun
  | [d1, d2] => { results := [.lit (.bool true)], args := [d1, d2] }
  | _ => none }
def depsSettleRow : OpenClaim := { program := "ytjoafadhcdipnaa", sum := "496bcf6688e683a9c4b6ab58ef0bb431cf48eef3b37d0b62770973c556b48fa7", func := "ogive/ogivelaw12.DepsSettle", spec := "depsSettle", unfollowed := true, recurses := true, apart := false }
def DepsSettleSaid : Prop := depsSettleRow.holds Try.pinned (OpenSpec.ofChange depsSettleSpec)

/-- ITS FALSE NEIGHBOUR: 'it returns false'. Refute it at one input. -/
def depsSettleWrong : ChangeSpec := { name := "depsSettle", fn := fun _ => fun
  | [d1, d2] => { results := [.lit (.bool false)], args := [d1, d2] }
  | _ => none }
def DepsSettleWrongFalsely : Prop := depsSettleRow.holds Try.pinned (OpenSpec.ofChange depsSettleWrong)

/-- 'ogivelaw12.DepsEnds': WHATEVER THE INPUT: true; the input reads as it did. -/
def depsEndsSpec : ChangeSpec := { name := "depsEnds", fn := fun _ => fun
  | [d] => { results := [.lit (.bool true)], args := [d] }
  | _ => none }
def depsEndsRow : OpenClaim := { program := "ytjoafadhcdipnaa", sum := "496bcf6688e683a9c4b6ab58ef0bb431cf48eef3b37d0b62770973c556b48fa7", func := "ogive/ogivelaw12.DepsEnds", spec := "depsEnds", unfollowed := true, recurses := true, apart := false }
def DepsEndsSaid : Prop := depsEndsRow.holds Try.pinned (OpenSpec.ofChange depsEndsSpec)

/-- ITS FALSE NEIGHBOUR: 'it returns false'. Refute it at one input. -/
def depsEndsWrong : ChangeSpec := { name := "depsEnds", fn := fun _ => fun
  | [d] => { results := [.lit (.bool false)], args := [d] }
  | _ => none }
def DepsEndsWrongFalsely : Prop := depsEndsRow.holds Try.pinned (OpenSpec.ofChange depsEndsWrong)

/-- 'ogivelaw12.DepsNobody': WHATEVER THE INPUT: true; the input reads as it did. -/
def depsNobodySpec : ChangeSpec := { name := "depsNobody", fn := fun _ => fun
  | [d1, d2] => { results := [.lit (.bool true)], args := [d1, d2] }
  | _ => none }
def depsNobodyRow : OpenClaim := { program := "ytjoafadhcdipnaa", sum := "496bcf6688e683a9c4b6ab58ef0bb431cf48eef3b37d0b62770973c556b48fa7", func := "ogive/ogivelaw12.DepsNobody", spec := "depsNobody", unfollowed := true, recurses := true, apart := false }
def DepsNobodySaid : Prop := depsNobodyRow.holds Try.pinned (OpenSpec.ofChange depsNobodySpec)

/-- ITS FALSE NEIGHBOUR: 'it returns false'. Refute it at one input. -/
def depsNobodyWrong : ChangeSpec := { name := "depsNobody", fn := fun _ => fun
  | [d1, d2] => { results := [.lit (.bool false)], args := [d1, d2] }
  | _ => none }
def DepsNobodyWrongFalsely : Prop := depsNobodyRow.holds Try.pinned (OpenSpec.ofChange depsNobodyWrong)

/- THE SECOND FORM. 'bulk': how many values and letters a reading holds, each counted each time it is reached (what is shared counts as often as it is met; a slice's spare places count too). A statement '..UptoSaid' is the law's where the arguments, and the package variables that the reading takes, are together of bulk at most 1048576: NARROWER than '..Said'. Prove '..Said' where nothing that the law and all that it calls make is longer than what came in: it says more and counts as full. Else prove '..UptoSaid'. A law counts once. -/
mutual
def uptoBulk {H : Type} : DataW H → Nat
  | .lit (.string bytes) => bytes.length + 1
  | .lit _ => 1
  | .nil => 1
  | .ptr d => uptoBulk d + 1
  | .slice elems spare => uptoBulkAll elems + uptoBulkAll spare + 1
  | .agg parts => uptoBulkAll parts + 1
  | .iface _ d => uptoBulk d + 1
  | .map entries => uptoBulkEntries entries + 1
  | .held _ => 1
def uptoBulkAll {H : Type} : List (DataW H) → Nat
  | [] => 0
  | d :: r => uptoBulk d + uptoBulkAll r
def uptoBulkEntries {H : Type} : List (Lit × DataW H) → Nat
  | [] => 0
  | x :: r => uptoBulkEntry x + uptoBulkEntries r
def uptoBulkEntry {H : Type} : Lit × DataW H → Nat
  | (.string bytes, d) => bytes.length + uptoBulk d + 1
  | (_, d) => uptoBulk d + 1
 end
def uptoSmall : (H : Type) → List (DataW H) → Bool := fun _ ds => decide (uptoBulkAll ds ≤ 1048576)
def OpenSpec.upto (s : _root_.Go.ChangeSpec) : _root_.Go.OpenSpec := { _root_.Go.OpenSpec.ofChange s with cond := some uptoSmall }

/-- 'ogivelaw12.DepsPlays', WHERE WHAT IT READS IS OF BULK AT MOST 1048576: true; the input reads as it did. -/
def depsPlaysUptoRow : OpenClaim := { program := "ytjoafadhcdipnaa", sum := "496bcf6688e683a9c4b6ab58ef0bb431cf48eef3b37d0b62770973c556b48fa7", func := "ogive/ogivelaw12.DepsPlays", spec := "depsPlays", unfollowed := true, recurses := true, apart := false, narrowed := true }
def DepsPlaysUptoSaid : Prop := depsPlaysUptoRow.holds Try.pinned (OpenSpec.upto depsPlaysSpec)

/-- 'ogivelaw12.DepsBelow', WHERE WHAT IT READS IS OF BULK AT MOST 1048576: true; the input reads as it did. -/
def depsBelowUptoRow : OpenClaim := { program := "ytjoafadhcdipnaa", sum := "496bcf6688e683a9c4b6ab58ef0bb431cf48eef3b37d0b62770973c556b48fa7", func := "ogive/ogivelaw12.DepsBelow", spec := "depsBelow", unfollowed := true, recurses := true, apart := false, narrowed := true }
def DepsBelowUptoSaid : Prop := depsBelowUptoRow.holds Try.pinned (OpenSpec.upto depsBelowSpec)

/-- 'ogivelaw12.DepsDrop', WHERE WHAT IT READS IS OF BULK AT MOST 1048576: true; the input reads as it did. -/
def depsDropUptoRow : OpenClaim := { program := "ytjoafadhcdipnaa", sum := "496bcf6688e683a9c4b6ab58ef0bb431cf48eef3b37d0b62770973c556b48fa7", func := "ogive/ogivelaw12.DepsDrop", spec := "depsDrop", unfollowed := true, recurses := true, apart := false, narrowed := true }
def DepsDropUptoSaid : Prop := depsDropUptoRow.holds Try.pinned (OpenSpec.upto depsDropSpec)

/-- 'ogivelaw12.DepsSettle', WHERE WHAT IT READS IS OF BULK AT MOST 1048576: true; the input reads as it did. -/
def depsSettleUptoRow : OpenClaim := { program := "ytjoafadhcdipnaa", sum := "496bcf6688e683a9c4b6ab58ef0bb431cf48eef3b37d0b62770973c556b48fa7", func := "ogive/ogivelaw12.DepsSettle", spec := "depsSettle", unfollowed := true, recurses := true, apart := false, narrowed := true }
def DepsSettleUptoSaid : Prop := depsSettleUptoRow.holds Try.pinned (OpenSpec.upto depsSettleSpec)

/-- 'ogivelaw12.DepsEnds', WHERE WHAT IT READS IS OF BULK AT MOST 1048576: true; the input reads as it did. -/
def depsEndsUptoRow : OpenClaim := { program := "ytjoafadhcdipnaa", sum := "496bcf6688e683a9c4b6ab58ef0bb431cf48eef3b37d0b62770973c556b48fa7", func := "ogive/ogivelaw12.DepsEnds", spec := "depsEnds", unfollowed := true, recurses := true, apart := false, narrowed := true }
def DepsEndsUptoSaid : Prop := depsEndsUptoRow.holds Try.pinned (OpenSpec.upto depsEndsSpec)

/-- 'ogivelaw12.DepsNobody', WHERE WHAT IT READS IS OF BULK AT MOST 1048576: true; the input reads as it did. -/
def depsNobodyUptoRow : OpenClaim := { program := "ytjoafadhcdipnaa", sum := "496bcf6688e683a9c4b6ab58ef0bb431cf48eef3b37d0b62770973c556b48fa7", func := "ogive/ogivelaw12.DepsNobody", spec := "depsNobody", unfollowed := true, recurses := true, apart := false, narrowed := true }
def DepsNobodyUptoSaid : Prop := depsNobodyUptoRow.holds Try.pinned (OpenSpec.upto depsNobodySpec)

end Rows
end Go.Proofs.Ytjoafadhcdipnaa
