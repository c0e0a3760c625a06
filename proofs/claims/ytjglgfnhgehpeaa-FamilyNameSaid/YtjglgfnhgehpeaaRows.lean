/-
  No cell of these rows narrows 'for every input' (looked for: loops, veiled, ifaces, maps, wideKeys, modest, calm, conditions, laid).
  DERIVED. THE GIVEN ROWS OF THIS SEAT. 9 by the template 'for every input the law returns true; each argument reads behind the call as it read before'; 0 by the template 'total and deterministic' (their statements: YtjglgfnhgehpeaaTotals.lean).
  GIVEN WITH THE SEED: the statements are not yours to turn. If you find one false, say at which input.
  Laid BY PROGRAM, IN A SANDBOX (cutbox-rows.mjs): the forced cells as the released guide's own fill.sh prints them over the translation 1211f137a5357194… (all of the seat's roots in one cut). By AI agents, Wed Nov 11 2026. No macro, syntax, notation, axiom, sorry.
-/
import Derived.Test.YtjglgfnhgehpeaaChecked
import GoSem.Claim
import GoSem.ClaimJoined
import GoSem.ClaimMapViews
import Derived.JoinedTies
import Derived.KernelRfl
namespace Go.Proofs.Ytjglgfnhgehpeaa
/- THE CELL 'sum', in the pinned program and in every row, IS THE sha256 OF THE DUMP (.gsa) THAT YtjglgfnhgehpeaaProg.lean LOADS. Nothing in Lean hashes anything: it is a label: what it is worth is what the hold of that sum in a sandbox is worth. -/
noncomputable def Try.pinned : Pinned := { name := "ytjglgfnhgehpeaa", sum := "1211f137a5357194647943337f27bc25f38979e75ecb38fad3c115ef6da9d894", checked := Try.checked }
namespace Rows
def none {H : Type} : Left H := { results := [], args := [] }

/-- 'tegulalaw33.ExtreeBalanced': WHATEVER THE INPUT: true; the input reads as it did. -/
def extreeBalancedSpec : ChangeSpec := { name := "extreeBalanced", fn := fun _ => fun
  | [d1, d2] => { results := [.lit (.bool true)], args := [d1, d2] }
  | _ => none }
def extreeBalancedRow : OpenClaim := { program := "ytjglgfnhgehpeaa", sum := "1211f137a5357194647943337f27bc25f38979e75ecb38fad3c115ef6da9d894", func := "tegula/tegulalaw33.ExtreeBalanced", spec := "extreeBalanced", unfollowed := true, recurses := true, apart := false }
def ExtreeBalancedSaid : Prop := extreeBalancedRow.holds Try.pinned (OpenSpec.ofChange extreeBalancedSpec)

/-- ITS FALSE NEIGHBOUR: 'it returns false'. Refute it at one input. -/
def extreeBalancedWrong : ChangeSpec := { name := "extreeBalanced", fn := fun _ => fun
  | [d1, d2] => { results := [.lit (.bool false)], args := [d1, d2] }
  | _ => none }
def ExtreeBalancedWrongFalsely : Prop := extreeBalancedRow.holds Try.pinned (OpenSpec.ofChange extreeBalancedWrong)

/-- 'tegulalaw33.ExtreeSorted': WHATEVER THE INPUT: true; the input reads as it did. -/
def extreeSortedSpec : ChangeSpec := { name := "extreeSorted", fn := fun _ => fun
  | [d1, d2] => { results := [.lit (.bool true)], args := [d1, d2] }
  | _ => none }
def extreeSortedRow : OpenClaim := { program := "ytjglgfnhgehpeaa", sum := "1211f137a5357194647943337f27bc25f38979e75ecb38fad3c115ef6da9d894", func := "tegula/tegulalaw33.ExtreeSorted", spec := "extreeSorted", unfollowed := true, recurses := true, apart := false }
def ExtreeSortedSaid : Prop := extreeSortedRow.holds Try.pinned (OpenSpec.ofChange extreeSortedSpec)

/-- ITS FALSE NEIGHBOUR: 'it returns false'. Refute it at one input. -/
def extreeSortedWrong : ChangeSpec := { name := "extreeSorted", fn := fun _ => fun
  | [d1, d2] => { results := [.lit (.bool false)], args := [d1, d2] }
  | _ => none }
def ExtreeSortedWrongFalsely : Prop := extreeSortedRow.holds Try.pinned (OpenSpec.ofChange extreeSortedWrong)

/-- 'tegulalaw33.ExtreePersists': WHATEVER THE INPUT: true; the input reads as it did. -/
def extreePersistsSpec : ChangeSpec := { name := "extreePersists", fn := fun _ => fun
  | [d] => { results := [.lit (.bool true)], args := [d] }
  | _ => none }
def extreePersistsRow : OpenClaim := { program := "ytjglgfnhgehpeaa", sum := "1211f137a5357194647943337f27bc25f38979e75ecb38fad3c115ef6da9d894", func := "tegula/tegulalaw33.ExtreePersists", spec := "extreePersists", unfollowed := true, recurses := true, apart := false }
def ExtreePersistsSaid : Prop := extreePersistsRow.holds Try.pinned (OpenSpec.ofChange extreePersistsSpec)

/-- ITS FALSE NEIGHBOUR: 'it returns false'. Refute it at one input. -/
def extreePersistsWrong : ChangeSpec := { name := "extreePersists", fn := fun _ => fun
  | [d] => { results := [.lit (.bool false)], args := [d] }
  | _ => none }
def ExtreePersistsWrongFalsely : Prop := extreePersistsRow.holds Try.pinned (OpenSpec.ofChange extreePersistsWrong)

/-- 'tegulalaw33.ExtreeStops': WHATEVER THE INPUT: true; the input reads as it did. -/
def extreeStopsSpec : ChangeSpec := { name := "extreeStops", fn := fun _ => fun
  | [d1, d2] => { results := [.lit (.bool true)], args := [d1, d2] }
  | _ => none }
def extreeStopsRow : OpenClaim := { program := "ytjglgfnhgehpeaa", sum := "1211f137a5357194647943337f27bc25f38979e75ecb38fad3c115ef6da9d894", func := "tegula/tegulalaw33.ExtreeStops", spec := "extreeStops", unfollowed := true, recurses := true, apart := false }
def ExtreeStopsSaid : Prop := extreeStopsRow.holds Try.pinned (OpenSpec.ofChange extreeStopsSpec)

/-- ITS FALSE NEIGHBOUR: 'it returns false'. Refute it at one input. -/
def extreeStopsWrong : ChangeSpec := { name := "extreeStops", fn := fun _ => fun
  | [d1, d2] => { results := [.lit (.bool false)], args := [d1, d2] }
  | _ => none }
def ExtreeStopsWrongFalsely : Prop := extreeStopsRow.holds Try.pinned (OpenSpec.ofChange extreeStopsWrong)

/-- 'tegulalaw33.ExtreeOrder': WHATEVER THE INPUT: true; the input reads as it did. -/
def extreeOrderSpec : ChangeSpec := { name := "extreeOrder", fn := fun _ => fun
  | [d1, d2, d3] => { results := [.lit (.bool true)], args := [d1, d2, d3] }
  | _ => none }
def extreeOrderRow : OpenClaim := { program := "ytjglgfnhgehpeaa", sum := "1211f137a5357194647943337f27bc25f38979e75ecb38fad3c115ef6da9d894", func := "tegula/tegulalaw33.ExtreeOrder", spec := "extreeOrder", unfollowed := true, recurses := true, apart := false }
def ExtreeOrderSaid : Prop := extreeOrderRow.holds Try.pinned (OpenSpec.ofChange extreeOrderSpec)

/-- ITS FALSE NEIGHBOUR: 'it returns false'. Refute it at one input. -/
def extreeOrderWrong : ChangeSpec := { name := "extreeOrder", fn := fun _ => fun
  | [d1, d2, d3] => { results := [.lit (.bool false)], args := [d1, d2, d3] }
  | _ => none }
def ExtreeOrderWrongFalsely : Prop := extreeOrderRow.holds Try.pinned (OpenSpec.ofChange extreeOrderWrong)

/-- 'tegulalaw33.ExtreeScript': WHATEVER THE INPUT: true; the input reads as it did. -/
def extreeScriptSpec : ChangeSpec := { name := "extreeScript", fn := fun _ => fun
  | [d] => { results := [.lit (.bool true)], args := [d] }
  | _ => none }
def extreeScriptRow : OpenClaim := { program := "ytjglgfnhgehpeaa", sum := "1211f137a5357194647943337f27bc25f38979e75ecb38fad3c115ef6da9d894", func := "tegula/tegulalaw33.ExtreeScript", spec := "extreeScript", unfollowed := true, recurses := true, apart := false }
def ExtreeScriptSaid : Prop := extreeScriptRow.holds Try.pinned (OpenSpec.ofChange extreeScriptSpec)

/-- ITS FALSE NEIGHBOUR: 'it returns false'. Refute it at one input. -/
def extreeScriptWrong : ChangeSpec := { name := "extreeScript", fn := fun _ => fun
  | [d] => { results := [.lit (.bool false)], args := [d] }
  | _ => none }
def ExtreeScriptWrongFalsely : Prop := extreeScriptRow.holds Try.pinned (OpenSpec.ofChange extreeScriptWrong)

/-- 'tegulalaw33.ExtreeFind': WHATEVER THE INPUT: true; the input reads as it did. -/
def extreeFindSpec : ChangeSpec := { name := "extreeFind", fn := fun _ => fun
  | [d1, d2, d3] => { results := [.lit (.bool true)], args := [d1, d2, d3] }
  | _ => none }
def extreeFindRow : OpenClaim := { program := "ytjglgfnhgehpeaa", sum := "1211f137a5357194647943337f27bc25f38979e75ecb38fad3c115ef6da9d894", func := "tegula/tegulalaw33.ExtreeFind", spec := "extreeFind", unfollowed := true, recurses := true, apart := false }
def ExtreeFindSaid : Prop := extreeFindRow.holds Try.pinned (OpenSpec.ofChange extreeFindSpec)

/-- ITS FALSE NEIGHBOUR: 'it returns false'. Refute it at one input. -/
def extreeFindWrong : ChangeSpec := { name := "extreeFind", fn := fun _ => fun
  | [d1, d2, d3] => { results := [.lit (.bool false)], args := [d1, d2, d3] }
  | _ => none }
def ExtreeFindWrongFalsely : Prop := extreeFindRow.holds Try.pinned (OpenSpec.ofChange extreeFindWrong)

/-- 'tegulalaw33.ExtreeOf': WHATEVER THE INPUT: true; the input reads as it did. -/
def extreeOfSpec : ChangeSpec := { name := "extreeOf", fn := fun _ => fun
  | [d] => { results := [.lit (.bool true)], args := [d] }
  | _ => none }
def extreeOfRow : OpenClaim := { program := "ytjglgfnhgehpeaa", sum := "1211f137a5357194647943337f27bc25f38979e75ecb38fad3c115ef6da9d894", func := "tegula/tegulalaw33.ExtreeOf", spec := "extreeOf", unfollowed := true, recurses := true, apart := false }
def ExtreeOfSaid : Prop := extreeOfRow.holds Try.pinned (OpenSpec.ofChange extreeOfSpec)

/-- ITS FALSE NEIGHBOUR: 'it returns false'. Refute it at one input. -/
def extreeOfWrong : ChangeSpec := { name := "extreeOf", fn := fun _ => fun
  | [d] => { results := [.lit (.bool false)], args := [d] }
  | _ => none }
def ExtreeOfWrongFalsely : Prop := extreeOfRow.holds Try.pinned (OpenSpec.ofChange extreeOfWrong)

/-- 'tegulalaw36.FamilyName': WHATEVER THE INPUT: true; the input reads as it did. -/
def familyNameSpec : ChangeSpec := { name := "familyName", fn := fun _ => fun
  | [d] => { results := [.lit (.bool true)], args := [d] }
  | _ => none }
def familyNameRow : OpenClaim := { program := "ytjglgfnhgehpeaa", sum := "1211f137a5357194647943337f27bc25f38979e75ecb38fad3c115ef6da9d894", func := "tegula/tegulalaw36.FamilyName", spec := "familyName", inPlace := ["maps.clone"], unfollowed := true, recurses := true, apart := false }
def FamilyNameSaid : Prop := familyNameRow.holds Try.pinned (OpenSpec.ofChange familyNameSpec)

/-- ITS FALSE NEIGHBOUR: 'it returns false'. Refute it at one input. -/
def familyNameWrong : ChangeSpec := { name := "familyName", fn := fun _ => fun
  | [d] => { results := [.lit (.bool false)], args := [d] }
  | _ => none }
def FamilyNameWrongFalsely : Prop := familyNameRow.holds Try.pinned (OpenSpec.ofChange familyNameWrong)

/- THE SECOND FORM. 'bulk': how many values and letters a reading holds, each counted each time it is reached (what is shared counts as often as it is met; a slice's spare places count too). A statement '..UptoSaid' is the law's where the arguments, and the package variables that the reading takes, are together of bulk at most 1048576: NARROWER than '..Said'. Prove '..Said' where nothing that the law and all that it calls make is longer than what came in: it says more and counts as full. Else prove '..UptoSaid'. A law counts once. -/
mutual
def uptoBulk {H : Type} : DataW H → Nat
  | .lit (.string bytes) => bytes.length + 1
  | .lit _ => 1
  | .nil => 1
  | .ptr d => uptoBulk d + 1
  | .slice elems spare => uptoBulkAll elems + uptoBulkAll spare + 1
  | .agg parts => uptoBulkAll parts + 1
  | .iface _ d => uptoBulk d + 1
  | .map entries => uptoBulkEntries entries + 1
  | .held _ => 1
def uptoBulkAll {H : Type} : List (DataW H) → Nat
  | [] => 0
  | d :: r => uptoBulk d + uptoBulkAll r
def uptoBulkEntries {H : Type} : List (Lit × DataW H) → Nat
  | [] => 0
  | x :: r => uptoBulkEntry x + uptoBulkEntries r
def uptoBulkEntry {H : Type} : Lit × DataW H → Nat
  | (.string bytes, d) => bytes.length + uptoBulk d + 1
  | (_, d) => uptoBulk d + 1
 end
def uptoSmall : (H : Type) → List (DataW H) → Bool := fun _ ds => decide (uptoBulkAll ds ≤ 1048576)
def OpenSpec.upto (s : _root_.Go.ChangeSpec) : _root_.Go.OpenSpec := { _root_.Go.OpenSpec.ofChange s with cond := some uptoSmall }

/-- 'tegulalaw33.ExtreeBalanced', WHERE WHAT IT READS IS OF BULK AT MOST 1048576: true; the input reads as it did. -/
def extreeBalancedUptoRow : OpenClaim := { program := "ytjglgfnhgehpeaa", sum := "1211f137a5357194647943337f27bc25f38979e75ecb38fad3c115ef6da9d894", func := "tegula/tegulalaw33.ExtreeBalanced", spec := "extreeBalanced", unfollowed := true, recurses := true, apart := false, narrowed := true }
def ExtreeBalancedUptoSaid : Prop := extreeBalancedUptoRow.holds Try.pinned (OpenSpec.upto extreeBalancedSpec)

/-- 'tegulalaw33.ExtreeSorted', WHERE WHAT IT READS IS OF BULK AT MOST 1048576: true; the input reads as it did. -/
def extreeSortedUptoRow : OpenClaim := { program := "ytjglgfnhgehpeaa", sum := "1211f137a5357194647943337f27bc25f38979e75ecb38fad3c115ef6da9d894", func := "tegula/tegulalaw33.ExtreeSorted", spec := "extreeSorted", unfollowed := true, recurses := true, apart := false, narrowed := true }
def ExtreeSortedUptoSaid : Prop := extreeSortedUptoRow.holds Try.pinned (OpenSpec.upto extreeSortedSpec)

/-- 'tegulalaw33.ExtreePersists', WHERE WHAT IT READS IS OF BULK AT MOST 1048576: true; the input reads as it did. -/
def extreePersistsUptoRow : OpenClaim := { program := "ytjglgfnhgehpeaa", sum := "1211f137a5357194647943337f27bc25f38979e75ecb38fad3c115ef6da9d894", func := "tegula/tegulalaw33.ExtreePersists", spec := "extreePersists", unfollowed := true, recurses := true, apart := false, narrowed := true }
def ExtreePersistsUptoSaid : Prop := extreePersistsUptoRow.holds Try.pinned (OpenSpec.upto extreePersistsSpec)

/-- 'tegulalaw33.ExtreeStops', WHERE WHAT IT READS IS OF BULK AT MOST 1048576: true; the input reads as it did. -/
def extreeStopsUptoRow : OpenClaim := { program := "ytjglgfnhgehpeaa", sum := "1211f137a5357194647943337f27bc25f38979e75ecb38fad3c115ef6da9d894", func := "tegula/tegulalaw33.ExtreeStops", spec := "extreeStops", unfollowed := true, recurses := true, apart := false, narrowed := true }
def ExtreeStopsUptoSaid : Prop := extreeStopsUptoRow.holds Try.pinned (OpenSpec.upto extreeStopsSpec)

/-- 'tegulalaw33.ExtreeOrder', WHERE WHAT IT READS IS OF BULK AT MOST 1048576: true; the input reads as it did. -/
def extreeOrderUptoRow : OpenClaim := { program := "ytjglgfnhgehpeaa", sum := "1211f137a5357194647943337f27bc25f38979e75ecb38fad3c115ef6da9d894", func := "tegula/tegulalaw33.ExtreeOrder", spec := "extreeOrder", unfollowed := true, recurses := true, apart := false, narrowed := true }
def ExtreeOrderUptoSaid : Prop := extreeOrderUptoRow.holds Try.pinned (OpenSpec.upto extreeOrderSpec)

/-- 'tegulalaw33.ExtreeScript', WHERE WHAT IT READS IS OF BULK AT MOST 1048576: true; the input reads as it did. -/
def extreeScriptUptoRow : OpenClaim := { program := "ytjglgfnhgehpeaa", sum := "1211f137a5357194647943337f27bc25f38979e75ecb38fad3c115ef6da9d894", func := "tegula/tegulalaw33.ExtreeScript", spec := "extreeScript", unfollowed := true, recurses := true, apart := false, narrowed := true }
def ExtreeScriptUptoSaid : Prop := extreeScriptUptoRow.holds Try.pinned (OpenSpec.upto extreeScriptSpec)

/-- 'tegulalaw33.ExtreeFind', WHERE WHAT IT READS IS OF BULK AT MOST 1048576: true; the input reads as it did. -/
def extreeFindUptoRow : OpenClaim := { program := "ytjglgfnhgehpeaa", sum := "1211f137a5357194647943337f27bc25f38979e75ecb38fad3c115ef6da9d894", func := "tegula/tegulalaw33.ExtreeFind", spec := "extreeFind", unfollowed := true, recurses := true, apart := false, narrowed := true }
def ExtreeFindUptoSaid : Prop := extreeFindUptoRow.holds Try.pinned (OpenSpec.upto extreeFindSpec)

/-- 'tegulalaw33.ExtreeOf', WHERE WHAT IT READS IS OF BULK AT MOST 1048576: true; the input reads as it did. -/
def extreeOfUptoRow : OpenClaim := { program := "ytjglgfnhgehpeaa", sum := "1211f137a5357194647943337f27bc25f38979e75ecb38fad3c115ef6da9d894", func := "tegula/tegulalaw33.ExtreeOf", spec := "extreeOf", unfollowed := true, recurses := true, apart := false, narrowed := true }
def ExtreeOfUptoSaid : Prop := extreeOfUptoRow.holds Try.pinned (OpenSpec.upto extreeOfSpec)

/-- 'tegulalaw36.FamilyName', WHERE WHAT IT READS IS OF BULK AT MOST 1048576: true; the input reads as it did. -/
def familyNameUptoRow : OpenClaim := { program := "ytjglgfnhgehpeaa", sum := "1211f137a5357194647943337f27bc25f38979e75ecb38fad3c115ef6da9d894", func := "tegula/tegulalaw36.FamilyName", spec := "familyName", inPlace := ["maps.clone"], unfollowed := true, recurses := true, apart := false, narrowed := true }
def FamilyNameUptoSaid : Prop := familyNameUptoRow.holds Try.pinned (OpenSpec.upto familyNameSpec)

end Rows
end Go.Proofs.Ytjglgfnhgehpeaa
