/-
  No cell of these rows narrows 'for every input' (looked for: loops, veiled, ifaces, maps, wideKeys, modest, calm, conditions, laid).
  DERIVED. THE GIVEN ROWS OF THIS SEAT. 6 by the template 'for every input the law returns true; each argument reads behind the call as it read before'; 0 by the template 'total and deterministic' (their statements: YtdiahlfhcbcceaaTotals.lean).
  GIVEN WITH THE SEED: the statements are not yours to turn. If you find one false, say at which input.
  Laid BY PROGRAM, IN A SANDBOX (cutbox-rows.mjs): the forced cells as the released guide's own fill.sh prints them over the translation 732b55ead7c19a81… (all of the seat's roots in one cut). By AI agents, Wed Nov 11 2026. No macro, syntax, notation, axiom, sorry.
-/
import Derived.Test.YtdiahlfhcbcceaaChecked
import GoSem.Claim
import GoSem.ClaimJoined
import GoSem.ClaimMapViews
import Derived.JoinedTies
import Derived.KernelRfl
namespace Go.Proofs.Ytdiahlfhcbcceaa
/- THE CELL 'sum', in the pinned program and in every row, IS THE sha256 OF THE DUMP (.gsa) THAT YtdiahlfhcbcceaaProg.lean LOADS. Nothing in Lean hashes anything: it is a label: what it is worth is what the hold of that sum in a sandbox is worth. -/
noncomputable def Try.pinned : Pinned := { name := "ytdiahlfhcbcceaa", sum := "732b55ead7c19a81b708b0b4f2b9f4dbca46f39e212cc7e92635a2187e2f13e6", checked := Try.checked }
namespace Rows
def none {H : Type} : Left H := { results := [], args := [] }

/-- 'ogivelaw10.ChainTells': WHATEVER THE INPUT: true; the input reads as it did. -/
def chainTellsSpec : ChangeSpec := { name := "chainTells", fn := fun _ => fun
  | [d1, d2, d3] => { results := [.lit (.bool true)], args := [d1, d2, d3] }
  | _ => none }
def chainTellsRow : OpenClaim := { program := "ytdiahlfhcbcceaa", sum := "732b55ead7c19a81b708b0b4f2b9f4dbca46f39e212cc7e92635a2187e2f13e6", func := "ogive/ogivelaw10.ChainTells", spec := "chainTells", unfollowed := true, recurses := true, apart := false }
def ChainTellsSaid : Prop := chainTellsRow.holds Try.pinned (OpenSpec.ofChange chainTellsSpec)

/-- ITS FALSE NEIGHBOUR: 'it returns false'. Refute it at one input. -/
def chainTellsWrong : ChangeSpec := { name := "chainTells", fn := fun _ => fun
  | [d1, d2, d3] => { results := [.lit (.bool false)], args := [d1, d2, d3] }
  | _ => none }
def ChainTellsWrongFalsely : Prop := chainTellsRow.holds Try.pinned (OpenSpec.ofChange chainTellsWrong)

/-- 'ogivelaw10.ChainMay': WHATEVER THE INPUT: true; the input reads as it did. -/
def chainMaySpec : ChangeSpec := { name := "chainMay", fn := fun _ => fun
  | [d] => { results := [.lit (.bool true)], args := [d] }
  | _ => none }
def chainMayRow : OpenClaim := { program := "ytdiahlfhcbcceaa", sum := "732b55ead7c19a81b708b0b4f2b9f4dbca46f39e212cc7e92635a2187e2f13e6", func := "ogive/ogivelaw10.ChainMay", spec := "chainMay", unfollowed := true, recurses := true, apart := false }
def ChainMaySaid : Prop := chainMayRow.holds Try.pinned (OpenSpec.ofChange chainMaySpec)

/-- ITS FALSE NEIGHBOUR: 'it returns false'. Refute it at one input. -/
def chainMayWrong : ChangeSpec := { name := "chainMay", fn := fun _ => fun
  | [d] => { results := [.lit (.bool false)], args := [d] }
  | _ => none }
def ChainMayWrongFalsely : Prop := chainMayRow.holds Try.pinned (OpenSpec.ofChange chainMayWrong)

/-- 'ogivelaw10.ChainStays': WHATEVER THE INPUT: true; the input reads as it did. -/
def chainStaysSpec : ChangeSpec := { name := "chainStays", fn := fun _ => fun
  | [d1, d2, d3] => { results := [.lit (.bool true)], args := [d1, d2, d3] }
  | _ => none }
def chainStaysRow : OpenClaim := { program := "ytdiahlfhcbcceaa", sum := "732b55ead7c19a81b708b0b4f2b9f4dbca46f39e212cc7e92635a2187e2f13e6", func := "ogive/ogivelaw10.ChainStays", spec := "chainStays", unfollowed := true, recurses := true, apart := false }
def ChainStaysSaid : Prop := chainStaysRow.holds Try.pinned (OpenSpec.ofChange chainStaysSpec)

/-- ITS FALSE NEIGHBOUR: 'it returns false'. Refute it at one input. -/
def chainStaysWrong : ChangeSpec := { name := "chainStays", fn := fun _ => fun
  | [d1, d2, d3] => { results := [.lit (.bool false)], args := [d1, d2, d3] }
  | _ => none }
def ChainStaysWrongFalsely : Prop := chainStaysRow.holds Try.pinned (OpenSpec.ofChange chainStaysWrong)

/-- 'ogivelaw10.ChainLate': WHATEVER THE INPUT: true; the input reads as it did. -/
def chainLateSpec : ChangeSpec := { name := "chainLate", fn := fun _ => fun
  | [d1, d2] => { results := [.lit (.bool true)], args := [d1, d2] }
  | _ => none }
def chainLateRow : OpenClaim := { program := "ytdiahlfhcbcceaa", sum := "732b55ead7c19a81b708b0b4f2b9f4dbca46f39e212cc7e92635a2187e2f13e6", func := "ogive/ogivelaw10.ChainLate", spec := "chainLate", unfollowed := true, recurses := true, apart := false }
def ChainLateSaid : Prop := chainLateRow.holds Try.pinned (OpenSpec.ofChange chainLateSpec)

/-- ITS FALSE NEIGHBOUR: 'it returns false'. Refute it at one input. -/
def chainLateWrong : ChangeSpec := { name := "chainLate", fn := fun _ => fun
  | [d1, d2] => { results := [.lit (.bool false)], args := [d1, d2] }
  | _ => none }
def ChainLateWrongFalsely : Prop := chainLateRow.holds Try.pinned (OpenSpec.ofChange chainLateWrong)

/-- 'ogivelaw10.ChainUndone': WHATEVER THE INPUT: true; the input reads as it did. -/
def chainUndoneSpec : ChangeSpec := { name := "chainUndone", fn := fun _ => fun
  | [d1, d2] => { results := [.lit (.bool true)], args := [d1, d2] }
  | _ => none }
def chainUndoneRow : OpenClaim := { program := "ytdiahlfhcbcceaa", sum := "732b55ead7c19a81b708b0b4f2b9f4dbca46f39e212cc7e92635a2187e2f13e6", func := "ogive/ogivelaw10.ChainUndone", spec := "chainUndone", unfollowed := true, recurses := true, apart := false }
def ChainUndoneSaid : Prop := chainUndoneRow.holds Try.pinned (OpenSpec.ofChange chainUndoneSpec)

/-- ITS FALSE NEIGHBOUR: 'it returns false'. Refute it at one input. -/
def chainUndoneWrong : ChangeSpec := { name := "chainUndone", fn := fun _ => fun
  | [d1, d2] => { results := [.lit (.bool false)], args := [d1, d2] }
  | _ => none }
def ChainUndoneWrongFalsely : Prop := chainUndoneRow.holds Try.pinned (OpenSpec.ofChange chainUndoneWrong)

/-- 'ogivelaw10.ChainSees': WHATEVER THE INPUT: true; the input reads as it did. -/
def chainSeesSpec : ChangeSpec := { name := "chainSees", fn := fun _ => fun
  | [d1, d2] => { results := [.lit (.bool true)], args := [d1, d2] }
  | _ => none }
def chainSeesRow : OpenClaim := { program := "ytdiahlfhcbcceaa", sum := "732b55ead7c19a81b708b0b4f2b9f4dbca46f39e212cc7e92635a2187e2f13e6", func := "ogive/ogivelaw10.ChainSees", spec := "chainSees", unfollowed := true, recurses := true, apart := false }
def ChainSeesSaid : Prop := chainSeesRow.holds Try.pinned (OpenSpec.ofChange chainSeesSpec)

/-- ITS FALSE NEIGHBOUR: 'it returns false'. Refute it at one input. -/
def chainSeesWrong : ChangeSpec := { name := "chainSees", fn := fun _ => fun
  | [d1, d2] => { results := [.lit (.bool false)], args := [d1, d2] }
  | _ => none }
def ChainSeesWrongFalsely : Prop := chainSeesRow.holds Try.pinned (OpenSpec.ofChange chainSeesWrong)

/- THE SECOND FORM. 'bulk': how many values and letters a reading holds, each counted each time it is reached (what is shared counts as often as it is met; a slice's spare places count too). A statement '..UptoSaid' is the law's where the arguments, and the package variables that the reading takes, are together of bulk at most 1048576: NARROWER than '..Said'. Prove '..Said' where nothing that the law and all that it calls make is longer than what came in: it says more and counts as full. Else prove '..UptoSaid'. A law counts once. -/
mutual
def uptoBulk {H : Type} : DataW H → Nat
  | .lit (.string bytes) => bytes.length + 1
  | .lit _ => 1
  | .nil => 1
  | .ptr d => uptoBulk d + 1
  | .slice elems spare => uptoBulkAll elems + uptoBulkAll spare + 1
  | .agg parts => uptoBulkAll parts + 1
  | .iface _ d => uptoBulk d + 1
  | .map entries => uptoBulkEntries entries + 1
  | .held _ => 1
def uptoBulkAll {H : Type} : List (DataW H) → Nat
  | [] => 0
  | d :: r => uptoBulk d + uptoBulkAll r
def uptoBulkEntries {H : Type} : List (Lit × DataW H) → Nat
  | [] => 0
  | x :: r => uptoBulkEntry x + uptoBulkEntries r
def uptoBulkEntry {H : Type} : Lit × DataW H → Nat
  | (.string bytes, d) => bytes.length + uptoBulk d + 1
  | (_, d) => uptoBulk d + 1
 end
def uptoSmall : (H : Type) → List (DataW H) → Bool := fun _ ds => decide (uptoBulkAll ds ≤ 1048576)
def OpenSpec.upto (s : _root_.Go.ChangeSpec) : _root_.Go.OpenSpec := { _root_.Go.OpenSpec.ofChange s with cond := some uptoSmall }

/-- 'ogivelaw10.ChainTells', WHERE WHAT IT READS IS OF BULK AT MOST 1048576: true; the input reads as it did. -/
def chainTellsUptoRow : OpenClaim := { program := "ytdiahlfhcbcceaa", sum := "732b55ead7c19a81b708b0b4f2b9f4dbca46f39e212cc7e92635a2187e2f13e6", func := "ogive/ogivelaw10.ChainTells", spec := "chainTells", unfollowed := true, recurses := true, apart := false, narrowed := true }
def ChainTellsUptoSaid : Prop := chainTellsUptoRow.holds Try.pinned (OpenSpec.upto chainTellsSpec)

/-- 'ogivelaw10.ChainMay', WHERE WHAT IT READS IS OF BULK AT MOST 1048576: true; the input reads as it did. -/
def chainMayUptoRow : OpenClaim := { program := "ytdiahlfhcbcceaa", sum := "732b55ead7c19a81b708b0b4f2b9f4dbca46f39e212cc7e92635a2187e2f13e6", func := "ogive/ogivelaw10.ChainMay", spec := "chainMay", unfollowed := true, recurses := true, apart := false, narrowed := true }
def ChainMayUptoSaid : Prop := chainMayUptoRow.holds Try.pinned (OpenSpec.upto chainMaySpec)

/-- 'ogivelaw10.ChainStays', WHERE WHAT IT READS IS OF BULK AT MOST 1048576: true; the input reads as it did. -/
def chainStaysUptoRow : OpenClaim := { program := "ytdiahlfhcbcceaa", sum := "732b55ead7c19a81b708b0b4f2b9f4dbca46f39e212cc7e92635a2187e2f13e6", func := "ogive/ogivelaw10.ChainStays", spec := "chainStays", unfollowed := true, recurses := true, apart := false, narrowed := true }
def ChainStaysUptoSaid : Prop := chainStaysUptoRow.holds Try.pinned (OpenSpec.upto chainStaysSpec)

/-- 'ogivelaw10.ChainLate', WHERE WHAT IT READS IS OF BULK AT MOST 1048576: true; the input reads as it did. -/
def chainLateUptoRow : OpenClaim := { program := "ytdiahlfhcbcceaa", sum := "732b55ead7c19a81b708b0b4f2b9f4dbca46f39e212cc7e92635a2187e2f13e6", func := "ogive/ogivelaw10.ChainLate", spec := "chainLate", unfollowed := true, recurses := true, apart := false, narrowed := true }
def ChainLateUptoSaid : Prop := chainLateUptoRow.holds Try.pinned (OpenSpec.upto chainLateSpec)

/-- 'ogivelaw10.ChainUndone', WHERE WHAT IT READS IS OF BULK AT MOST 1048576: true; the input reads as it did. -/
def chainUndoneUptoRow : OpenClaim := { program := "ytdiahlfhcbcceaa", sum := "732b55ead7c19a81b708b0b4f2b9f4dbca46f39e212cc7e92635a2187e2f13e6", func := "ogive/ogivelaw10.ChainUndone", spec := "chainUndone", unfollowed := true, recurses := true, apart := false, narrowed := true }
def ChainUndoneUptoSaid : Prop := chainUndoneUptoRow.holds Try.pinned (OpenSpec.upto chainUndoneSpec)

/-- 'ogivelaw10.ChainSees', WHERE WHAT IT READS IS OF BULK AT MOST 1048576: true; the input reads as it did. -/
def chainSeesUptoRow : OpenClaim := { program := "ytdiahlfhcbcceaa", sum := "732b55ead7c19a81b708b0b4f2b9f4dbca46f39e212cc7e92635a2187e2f13e6", func := "ogive/ogivelaw10.ChainSees", spec := "chainSees", unfollowed := true, recurses := true, apart := false, narrowed := true }
def ChainSeesUptoSaid : Prop := chainSeesUptoRow.holds Try.pinned (OpenSpec.upto chainSeesSpec)

end Rows
end Go.Proofs.Ytdiahlfhcbcceaa
