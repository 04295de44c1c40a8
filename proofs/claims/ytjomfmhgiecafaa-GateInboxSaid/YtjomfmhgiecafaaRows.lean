/-
  No cell of these rows narrows 'for every input' (looked for: loops, veiled, ifaces, maps, wideKeys, modest, calm, conditions, laid).
  DERIVED. THE GIVEN ROWS OF THIS SEAT. 5 by the template 'for every input the law returns true; each argument reads behind the call as it read before'; 0 by the template 'total and deterministic' (their statements: YtjomfmhgiecafaaTotals.lean).
  GIVEN WITH THE SEED: the statements are not yours to turn. If you find one false, say at which input.
  Laid BY PROGRAM, IN A SANDBOX (cutbox-rows.mjs): the forced cells as the released guide's own fill.sh prints them over the translation deefbb5d1916a56c… (all of the seat's roots in one cut). By AI agents, Wed Nov 11 2026. No macro, syntax, notation, axiom, sorry.
-/
import Derived.Test.YtjomfmhgiecafaaChecked
import GoSem.Claim
import GoSem.ClaimJoined
import GoSem.ClaimMapViews
import Derived.JoinedTies
import Derived.KernelRfl
namespace Go.Proofs.Ytjomfmhgiecafaa
/- THE CELL 'sum', in the pinned program and in every row, IS THE sha256 OF THE DUMP (.gsa) THAT YtjomfmhgiecafaaProg.lean LOADS. Nothing in Lean hashes anything: it is a label: what it is worth is what the hold of that sum in a sandbox is worth. -/
noncomputable def Try.pinned : Pinned := { name := "ytjomfmhgiecafaa", sum := "deefbb5d1916a56c1f9108370909edd3f26fc9742d8192fac498f01da2ce68ee", checked := Try.checked }
namespace Rows
def none {H : Type} : Left H := { results := [], args := [] }

/-- 'ogivelaw18.GateRests': WHATEVER THE INPUT: true; the input reads as it did. -/
def gateRestsSpec : ChangeSpec := { name := "gateRests", fn := fun _ => fun
  | [d1, d2] => { results := [.lit (.bool true)], args := [d1, d2] }
  | _ => none }
def gateRestsRow : OpenClaim := { program := "ytjomfmhgiecafaa", sum := "deefbb5d1916a56c1f9108370909edd3f26fc9742d8192fac498f01da2ce68ee", func := "ogive/ogivelaw18.GateRests", spec := "gateRests", apart := false }
def GateRestsSaid : Prop := gateRestsRow.holds Try.pinned (OpenSpec.ofChange gateRestsSpec)

/-- ITS FALSE NEIGHBOUR: 'it returns false'. Refute it at one input. -/
def gateRestsWrong : ChangeSpec := { name := "gateRests", fn := fun _ => fun
  | [d1, d2] => { results := [.lit (.bool false)], args := [d1, d2] }
  | _ => none }
def GateRestsWrongFalsely : Prop := gateRestsRow.holds Try.pinned (OpenSpec.ofChange gateRestsWrong)

/-- 'ogivelaw18.GateOldest': WHATEVER THE INPUT: true; the input reads as it did. -/
def gateOldestSpec : ChangeSpec := { name := "gateOldest", fn := fun _ => fun
  | [d1, d2, d3] => { results := [.lit (.bool true)], args := [d1, d2, d3] }
  | _ => none }
def gateOldestRow : OpenClaim := { program := "ytjomfmhgiecafaa", sum := "deefbb5d1916a56c1f9108370909edd3f26fc9742d8192fac498f01da2ce68ee", func := "ogive/ogivelaw18.GateOldest", spec := "gateOldest", apart := false }
def GateOldestSaid : Prop := gateOldestRow.holds Try.pinned (OpenSpec.ofChange gateOldestSpec)

/-- ITS FALSE NEIGHBOUR: 'it returns false'. Refute it at one input. -/
def gateOldestWrong : ChangeSpec := { name := "gateOldest", fn := fun _ => fun
  | [d1, d2, d3] => { results := [.lit (.bool false)], args := [d1, d2, d3] }
  | _ => none }
def GateOldestWrongFalsely : Prop := gateOldestRow.holds Try.pinned (OpenSpec.ofChange gateOldestWrong)

/-- 'ogivelaw18.GateInbox': WHATEVER THE INPUT: true; the input reads as it did. -/
def gateInboxSpec : ChangeSpec := { name := "gateInbox", fn := fun _ => fun
  | [d1, d2] => { results := [.lit (.bool true)], args := [d1, d2] }
  | _ => none }
def gateInboxRow : OpenClaim := { program := "ytjomfmhgiecafaa", sum := "deefbb5d1916a56c1f9108370909edd3f26fc9742d8192fac498f01da2ce68ee", func := "ogive/ogivelaw18.GateInbox", spec := "gateInbox", apart := false }
def GateInboxSaid : Prop := gateInboxRow.holds Try.pinned (OpenSpec.ofChange gateInboxSpec)

/-- ITS FALSE NEIGHBOUR: 'it returns false'. Refute it at one input. -/
def gateInboxWrong : ChangeSpec := { name := "gateInbox", fn := fun _ => fun
  | [d1, d2] => { results := [.lit (.bool false)], args := [d1, d2] }
  | _ => none }
def GateInboxWrongFalsely : Prop := gateInboxRow.holds Try.pinned (OpenSpec.ofChange gateInboxWrong)

/-- 'ogivelaw18.GateAges': WHATEVER THE INPUT: true; the input reads as it did. -/
def gateAgesSpec : ChangeSpec := { name := "gateAges", fn := fun _ => fun
  | [d1, d2, d3] => { results := [.lit (.bool true)], args := [d1, d2, d3] }
  | _ => none }
def gateAgesRow : OpenClaim := { program := "ytjomfmhgiecafaa", sum := "deefbb5d1916a56c1f9108370909edd3f26fc9742d8192fac498f01da2ce68ee", func := "ogive/ogivelaw18.GateAges", spec := "gateAges", apart := false }
def GateAgesSaid : Prop := gateAgesRow.holds Try.pinned (OpenSpec.ofChange gateAgesSpec)

/-- ITS FALSE NEIGHBOUR: 'it returns false'. Refute it at one input. -/
def gateAgesWrong : ChangeSpec := { name := "gateAges", fn := fun _ => fun
  | [d1, d2, d3] => { results := [.lit (.bool false)], args := [d1, d2, d3] }
  | _ => none }
def GateAgesWrongFalsely : Prop := gateAgesRow.holds Try.pinned (OpenSpec.ofChange gateAgesWrong)

/-- 'ogivelaw18.GateAlone': WHATEVER THE INPUT: true; the input reads as it did. -/
def gateAloneSpec : ChangeSpec := { name := "gateAlone", fn := fun _ => fun
  | [d1, d2] => { results := [.lit (.bool true)], args := [d1, d2] }
  | _ => none }
def gateAloneRow : OpenClaim := { program := "ytjomfmhgiecafaa", sum := "deefbb5d1916a56c1f9108370909edd3f26fc9742d8192fac498f01da2ce68ee", func := "ogive/ogivelaw18.GateAlone", spec := "gateAlone", unfollowed := true, recurses := true, apart := false }
def GateAloneSaid : Prop := gateAloneRow.holds Try.pinned (OpenSpec.ofChange gateAloneSpec)

/-- ITS FALSE NEIGHBOUR: 'it returns false'. Refute it at one input. -/
def gateAloneWrong : ChangeSpec := { name := "gateAlone", fn := fun _ => fun
  | [d1, d2] => { results := [.lit (.bool false)], args := [d1, d2] }
  | _ => none }
def GateAloneWrongFalsely : Prop := gateAloneRow.holds Try.pinned (OpenSpec.ofChange gateAloneWrong)

/- THE SECOND FORM. 'bulk': how many values and letters a reading holds, each counted each time it is reached (what is shared counts as often as it is met; a slice's spare places count too). A statement '..UptoSaid' is the law's where the arguments, and the package variables that the reading takes, are together of bulk at most 1048576: NARROWER than '..Said'. Prove '..Said' where nothing that the law and all that it calls make is longer than what came in: it says more and counts as full. Else prove '..UptoSaid'. A law counts once. -/
mutual
def uptoBulk {H : Type} : DataW H → Nat
  | .lit (.string bytes) => bytes.length + 1
  | .lit _ => 1
  | .nil => 1
  | .ptr d => uptoBulk d + 1
  | .slice elems spare => uptoBulkAll elems + uptoBulkAll spare + 1
  | .agg parts => uptoBulkAll parts + 1
  | .iface _ d => uptoBulk d + 1
  | .map entries => uptoBulkEntries entries + 1
  | .held _ => 1
def uptoBulkAll {H : Type} : List (DataW H) → Nat
  | [] => 0
  | d :: r => uptoBulk d + uptoBulkAll r
def uptoBulkEntries {H : Type} : List (Lit × DataW H) → Nat
  | [] => 0
  | x :: r => uptoBulkEntry x + uptoBulkEntries r
def uptoBulkEntry {H : Type} : Lit × DataW H → Nat
  | (.string bytes, d) => bytes.length + uptoBulk d + 1
  | (_, d) => uptoBulk d + 1
 end
def uptoSmall : (H : Type) → List (DataW H) → Bool := fun _ ds => decide (uptoBulkAll ds ≤ 1048576)
def OpenSpec.upto (s : _root_.Go.ChangeSpec) : _root_.Go.OpenSpec := { _root_.Go.OpenSpec.ofChange s with cond := some uptoSmall }

/-- 'ogivelaw18.GateRests', WHERE WHAT IT READS IS OF BULK AT MOST 1048576: true; the input reads as it did. -/
def gateRestsUptoRow : OpenClaim := { program := "ytjomfmhgiecafaa", sum := "deefbb5d1916a56c1f9108370909edd3f26fc9742d8192fac498f01da2ce68ee", func := "ogive/ogivelaw18.GateRests", spec := "gateRests", apart := false, narrowed := true }
def GateRestsUptoSaid : Prop := gateRestsUptoRow.holds Try.pinned (OpenSpec.upto gateRestsSpec)

/-- 'ogivelaw18.GateOldest', WHERE WHAT IT READS IS OF BULK AT MOST 1048576: true; the input reads as it did. -/
def gateOldestUptoRow : OpenClaim := { program := "ytjomfmhgiecafaa", sum := "deefbb5d1916a56c1f9108370909edd3f26fc9742d8192fac498f01da2ce68ee", func := "ogive/ogivelaw18.GateOldest", spec := "gateOldest", apart := false, narrowed := true }
def GateOldestUptoSaid : Prop := gateOldestUptoRow.holds Try.pinned (OpenSpec.upto gateOldestSpec)

/-- 'ogivelaw18.GateInbox', WHERE WHAT IT READS IS OF BULK AT MOST 1048576: true; the input reads as it did. -/
def gateInboxUptoRow : OpenClaim := { program := "ytjomfmhgiecafaa", sum := "deefbb5d1916a56c1f9108370909edd3f26fc9742d8192fac498f01da2ce68ee", func := "ogive/ogivelaw18.GateInbox", spec := "gateInbox", apart := false, narrowed := true }
def GateInboxUptoSaid : Prop := gateInboxUptoRow.holds Try.pinned (OpenSpec.upto gateInboxSpec)

/-- 'ogivelaw18.GateAges', WHERE WHAT IT READS IS OF BULK AT MOST 1048576: true; the input reads as it did. -/
def gateAgesUptoRow : OpenClaim := { program := "ytjomfmhgiecafaa", sum := "deefbb5d1916a56c1f9108370909edd3f26fc9742d8192fac498f01da2ce68ee", func := "ogive/ogivelaw18.GateAges", spec := "gateAges", apart := false, narrowed := true }
def GateAgesUptoSaid : Prop := gateAgesUptoRow.holds Try.pinned (OpenSpec.upto gateAgesSpec)

/-- 'ogivelaw18.GateAlone', WHERE WHAT IT READS IS OF BULK AT MOST 1048576: true; the input reads as it did. -/
def gateAloneUptoRow : OpenClaim := { program := "ytjomfmhgiecafaa", sum := "deefbb5d1916a56c1f9108370909edd3f26fc9742d8192fac498f01da2ce68ee", func := "ogive/ogivelaw18.GateAlone", spec := "gateAlone", unfollowed := true, recurses := true, apart := false, narrowed := true }
def GateAloneUptoSaid : Prop := gateAloneUptoRow.holds Try.pinned (OpenSpec.upto gateAloneSpec)

end Rows
end Go.Proofs.Ytjomfmhgiecafaa
