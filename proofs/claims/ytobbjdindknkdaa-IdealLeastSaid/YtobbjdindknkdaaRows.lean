/-
  No cell of these rows narrows 'for every input' (looked for: loops, veiled, ifaces, maps, wideKeys, modest, calm, conditions, laid).
  DERIVED. THE GIVEN ROWS OF THIS SEAT. 3 by the template 'for every input the law returns true; each argument reads behind the call as it read before'; 0 by the template 'total and deterministic' (their statements: YtobbjdindknkdaaTotals.lean).
  GIVEN WITH THE SEED: the statements are not yours to turn. If you find one false, say at which input.
  Laid BY PROGRAM, IN A SANDBOX (cutbox-rows.mjs): the forced cells as the released guide's own fill.sh prints them over the translation ff5f77091258d917… (all of the seat's roots in one cut). By AI agents, Wed Nov 11 2026. No macro, syntax, notation, axiom, sorry.
-/
import Derived.Test.YtobbjdindknkdaaChecked
import GoSem.Claim
import GoSem.ClaimJoined
import GoSem.ClaimMapViews
import Derived.JoinedTies
import Derived.KernelRfl
namespace Go.Proofs.Ytobbjdindknkdaa
/- THE CELL 'sum', in the pinned program and in every row, IS THE sha256 OF THE DUMP (.gsa) THAT YtobbjdindknkdaaProg.lean LOADS. Nothing in Lean hashes anything: it is a label: what it is worth is what the hold of that sum in a sandbox is worth. -/
noncomputable def Try.pinned : Pinned := { name := "ytobbjdindknkdaa", sum := "ff5f77091258d91705f39cce3b1a9660dc0119dd8548e5b50b18eb82ed0c77fb", checked := Try.checked }
namespace Rows
def none {H : Type} : Left H := { results := [], args := [] }

/-- 'rivuletlaw31.IdealRanks': WHATEVER THE INPUT: true; the input reads as it did. -/
def idealRanksSpec : ChangeSpec := { name := "idealRanks", fn := fun _ => fun
  | [d1, d2, d3] => { results := [.lit (.bool true)], args := [d1, d2, d3] }
  | _ => none }
def idealRanksRow : OpenClaim := { program := "ytobbjdindknkdaa", sum := "ff5f77091258d91705f39cce3b1a9660dc0119dd8548e5b50b18eb82ed0c77fb", func := "rivulet/rivuletlaw31.IdealRanks", spec := "idealRanks", unfollowed := true, recurses := true, plainKeys := false, apart := false }
def IdealRanksSaid : Prop := idealRanksRow.holds Try.pinned (OpenSpec.ofChange idealRanksSpec)

/-- ITS FALSE NEIGHBOUR: 'it returns false'. Refute it at one input. -/
def idealRanksWrong : ChangeSpec := { name := "idealRanks", fn := fun _ => fun
  | [d1, d2, d3] => { results := [.lit (.bool false)], args := [d1, d2, d3] }
  | _ => none }
def IdealRanksWrongFalsely : Prop := idealRanksRow.holds Try.pinned (OpenSpec.ofChange idealRanksWrong)

/-- 'rivuletlaw31.IdealLeast': WHATEVER THE INPUT: true; the input reads as it did. -/
def idealLeastSpec : ChangeSpec := { name := "idealLeast", fn := fun _ => fun
  | [d1, d2, d3] => { results := [.lit (.bool true)], args := [d1, d2, d3] }
  | _ => none }
def idealLeastRow : OpenClaim := { program := "ytobbjdindknkdaa", sum := "ff5f77091258d91705f39cce3b1a9660dc0119dd8548e5b50b18eb82ed0c77fb", func := "rivulet/rivuletlaw31.IdealLeast", spec := "idealLeast", unfollowed := true, recurses := true, plainKeys := false, apart := false }
def IdealLeastSaid : Prop := idealLeastRow.holds Try.pinned (OpenSpec.ofChange idealLeastSpec)

/-- ITS FALSE NEIGHBOUR: 'it returns false'. Refute it at one input. -/
def idealLeastWrong : ChangeSpec := { name := "idealLeast", fn := fun _ => fun
  | [d1, d2, d3] => { results := [.lit (.bool false)], args := [d1, d2, d3] }
  | _ => none }
def IdealLeastWrongFalsely : Prop := idealLeastRow.holds Try.pinned (OpenSpec.ofChange idealLeastWrong)

/-- 'rivuletlaw31.IdealHeaps': WHATEVER THE INPUT: true; the input reads as it did. -/
def idealHeapsSpec : ChangeSpec := { name := "idealHeaps", fn := fun _ => fun
  | [d1, d2] => { results := [.lit (.bool true)], args := [d1, d2] }
  | _ => none }
def idealHeapsRow : OpenClaim := { program := "ytobbjdindknkdaa", sum := "ff5f77091258d91705f39cce3b1a9660dc0119dd8548e5b50b18eb82ed0c77fb", func := "rivulet/rivuletlaw31.IdealHeaps", spec := "idealHeaps", unfollowed := true, recurses := true, plainKeys := false, apart := false }
def IdealHeapsSaid : Prop := idealHeapsRow.holds Try.pinned (OpenSpec.ofChange idealHeapsSpec)

/-- ITS FALSE NEIGHBOUR: 'it returns false'. Refute it at one input. -/
def idealHeapsWrong : ChangeSpec := { name := "idealHeaps", fn := fun _ => fun
  | [d1, d2] => { results := [.lit (.bool false)], args := [d1, d2] }
  | _ => none }
def IdealHeapsWrongFalsely : Prop := idealHeapsRow.holds Try.pinned (OpenSpec.ofChange idealHeapsWrong)

/- THE SECOND FORM. 'bulk': how many values and letters a reading holds, each counted each time it is reached (what is shared counts as often as it is met; a slice's spare places count too). A statement '..UptoSaid' is the law's where the arguments, and the package variables that the reading takes, are together of bulk at most 1048576: NARROWER than '..Said'. Prove '..Said' where nothing that the law and all that it calls make is longer than what came in: it says more and counts as full. Else prove '..UptoSaid'. A law counts once. -/
mutual
def uptoBulk {H : Type} : DataW H → Nat
  | .lit (.string bytes) => bytes.length + 1
  | .lit _ => 1
  | .nil => 1
  | .ptr d => uptoBulk d + 1
  | .slice elems spare => uptoBulkAll elems + uptoBulkAll spare + 1
  | .agg parts => uptoBulkAll parts + 1
  | .iface _ d => uptoBulk d + 1
  | .map entries => uptoBulkEntries entries + 1
  | .held _ => 1
def uptoBulkAll {H : Type} : List (DataW H) → Nat
  | [] => 0
  | d :: r => uptoBulk d + uptoBulkAll r
def uptoBulkEntries {H : Type} : List (Lit × DataW H) → Nat
  | [] => 0
  | x :: r => uptoBulkEntry x + uptoBulkEntries r
def uptoBulkEntry {H : Type} : Lit × DataW H → Nat
  | (.string bytes, d) => bytes.length + uptoBulk d + 1
  | (_, d) => uptoBulk d + 1
 end
def uptoSmall : (H : Type) → List (DataW H) → Bool := fun _ ds => decide (uptoBulkAll ds ≤ 1048576)
def OpenSpec.upto (s : _root_.Go.ChangeSpec) : _root_.Go.OpenSpec := { _root_.Go.OpenSpec.ofChange s with cond := some uptoSmall }

/-- 'rivuletlaw31.IdealRanks', WHERE WHAT IT READS IS OF BULK AT MOST 1048576: true; the input reads as it did. -/
def idealRanksUptoRow : OpenClaim := { program := "ytobbjdindknkdaa", sum := "ff5f77091258d91705f39cce3b1a9660dc0119dd8548e5b50b18eb82ed0c77fb", func := "rivulet/rivuletlaw31.IdealRanks", spec := "idealRanks", unfollowed := true, recurses := true, plainKeys := false, apart := false, narrowed := true }
def IdealRanksUptoSaid : Prop := idealRanksUptoRow.holds Try.pinned (OpenSpec.upto idealRanksSpec)

/-- 'rivuletlaw31.IdealLeast', WHERE WHAT IT READS IS OF BULK AT MOST 1048576: true; the input reads as it did. -/
def idealLeastUptoRow : OpenClaim := { program := "ytobbjdindknkdaa", sum := "ff5f77091258d91705f39cce3b1a9660dc0119dd8548e5b50b18eb82ed0c77fb", func := "rivulet/rivuletlaw31.IdealLeast", spec := "idealLeast", unfollowed := true, recurses := true, plainKeys := false, apart := false, narrowed := true }
def IdealLeastUptoSaid : Prop := idealLeastUptoRow.holds Try.pinned (OpenSpec.upto idealLeastSpec)

/-- 'rivuletlaw31.IdealHeaps', WHERE WHAT IT READS IS OF BULK AT MOST 1048576: true; the input reads as it did. -/
def idealHeapsUptoRow : OpenClaim := { program := "ytobbjdindknkdaa", sum := "ff5f77091258d91705f39cce3b1a9660dc0119dd8548e5b50b18eb82ed0c77fb", func := "rivulet/rivuletlaw31.IdealHeaps", spec := "idealHeaps", unfollowed := true, recurses := true, plainKeys := false, apart := false, narrowed := true }
def IdealHeapsUptoSaid : Prop := idealHeapsUptoRow.holds Try.pinned (OpenSpec.upto idealHeapsSpec)

end Rows
end Go.Proofs.Ytobbjdindknkdaa
