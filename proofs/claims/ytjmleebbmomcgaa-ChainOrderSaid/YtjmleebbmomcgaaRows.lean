/-
  No cell of these rows narrows 'for every input' (looked for: loops, veiled, ifaces, maps, wideKeys, modest, calm, conditions, laid).
  DERIVED. THE GIVEN ROWS OF THIS SEAT. 5 by the template 'for every input the law returns true; each argument reads behind the call as it read before'; 0 by the template 'total and deterministic' (their statements: YtjmleebbmomcgaaTotals.lean).
  GIVEN WITH THE SEED: the statements are not yours to turn. If you find one false, say at which input.
  Laid BY PROGRAM, IN A SANDBOX (cutbox-rows.mjs): the forced cells as the released guide's own fill.sh prints them over the translation 7b3055b7d5f24cf2… (all of the seat's roots in one cut). By AI agents, Wed Nov 11 2026. No macro, syntax, notation, axiom, sorry.
-/
import Derived.Test.YtjmleebbmomcgaaChecked
import GoSem.Claim
import GoSem.ClaimJoined
import GoSem.ClaimMapViews
import Derived.JoinedTies
import Derived.KernelRfl
namespace Go.Proofs.Ytjmleebbmomcgaa
/- THE CELL 'sum', in the pinned program and in every row, IS THE sha256 OF THE DUMP (.gsa) THAT YtjmleebbmomcgaaProg.lean LOADS. Nothing in Lean hashes anything: it is a label: what it is worth is what the hold of that sum in a sandbox is worth. -/
noncomputable def Try.pinned : Pinned := { name := "ytjmleebbmomcgaa", sum := "7b3055b7d5f24cf28322be853bf9731018f4b4d6f480fec329f0f75b45a34c8c", checked := Try.checked }
namespace Rows
def none {H : Type} : Left H := { results := [], args := [] }

/-- 'archipelagolaw12.ChainChecks': WHATEVER THE INPUT: true; the input reads as it did. -/
def chainChecksSpec : ChangeSpec := { name := "chainChecks", fn := fun _ => fun
  | [d] => { results := [.lit (.bool true)], args := [d] }
  | _ => none }
def chainChecksRow : OpenClaim := { program := "ytjmleebbmomcgaa", sum := "7b3055b7d5f24cf28322be853bf9731018f4b4d6f480fec329f0f75b45a34c8c", func := "archipelago/archipelagolaw12.ChainChecks", spec := "chainChecks", unfollowed := true, recurses := true, apart := false }
def ChainChecksSaid : Prop := chainChecksRow.holds Try.pinned (OpenSpec.ofChange chainChecksSpec)

/-- ITS FALSE NEIGHBOUR: 'it returns false'. Refute it at one input. -/
def chainChecksWrong : ChangeSpec := { name := "chainChecks", fn := fun _ => fun
  | [d] => { results := [.lit (.bool false)], args := [d] }
  | _ => none }
def ChainChecksWrongFalsely : Prop := chainChecksRow.holds Try.pinned (OpenSpec.ofChange chainChecksWrong)

/-- 'archipelagolaw12.ChainClean': WHATEVER THE INPUT: true; the input reads as it did. -/
def chainCleanSpec : ChangeSpec := { name := "chainClean", fn := fun _ => fun
  | [d1, d2, d3] => { results := [.lit (.bool true)], args := [d1, d2, d3] }
  | _ => none }
def chainCleanRow : OpenClaim := { program := "ytjmleebbmomcgaa", sum := "7b3055b7d5f24cf28322be853bf9731018f4b4d6f480fec329f0f75b45a34c8c", func := "archipelago/archipelagolaw12.ChainClean", spec := "chainClean", unfollowed := true, recurses := true, apart := false }
def ChainCleanSaid : Prop := chainCleanRow.holds Try.pinned (OpenSpec.ofChange chainCleanSpec)

/-- ITS FALSE NEIGHBOUR: 'it returns false'. Refute it at one input. -/
def chainCleanWrong : ChangeSpec := { name := "chainClean", fn := fun _ => fun
  | [d1, d2, d3] => { results := [.lit (.bool false)], args := [d1, d2, d3] }
  | _ => none }
def ChainCleanWrongFalsely : Prop := chainCleanRow.holds Try.pinned (OpenSpec.ofChange chainCleanWrong)

/-- 'archipelagolaw12.ChainBelow': WHATEVER THE INPUT: true; the input reads as it did. -/
def chainBelowSpec : ChangeSpec := { name := "chainBelow", fn := fun _ => fun
  | [d1, d2] => { results := [.lit (.bool true)], args := [d1, d2] }
  | _ => none }
def chainBelowRow : OpenClaim := { program := "ytjmleebbmomcgaa", sum := "7b3055b7d5f24cf28322be853bf9731018f4b4d6f480fec329f0f75b45a34c8c", func := "archipelago/archipelagolaw12.ChainBelow", spec := "chainBelow", unfollowed := true, recurses := true, apart := false }
def ChainBelowSaid : Prop := chainBelowRow.holds Try.pinned (OpenSpec.ofChange chainBelowSpec)

/-- ITS FALSE NEIGHBOUR: 'it returns false'. Refute it at one input. -/
def chainBelowWrong : ChangeSpec := { name := "chainBelow", fn := fun _ => fun
  | [d1, d2] => { results := [.lit (.bool false)], args := [d1, d2] }
  | _ => none }
def ChainBelowWrongFalsely : Prop := chainBelowRow.holds Try.pinned (OpenSpec.ofChange chainBelowWrong)

/-- 'archipelagolaw12.ChainPins': WHATEVER THE INPUT: true; the input reads as it did. -/
def chainPinsSpec : ChangeSpec := { name := "chainPins", fn := fun _ => fun
  | [d] => { results := [.lit (.bool true)], args := [d] }
  | _ => none }
def chainPinsRow : OpenClaim := { program := "ytjmleebbmomcgaa", sum := "7b3055b7d5f24cf28322be853bf9731018f4b4d6f480fec329f0f75b45a34c8c", func := "archipelago/archipelagolaw12.ChainPins", spec := "chainPins", unfollowed := true, recurses := true, apart := false }
def ChainPinsSaid : Prop := chainPinsRow.holds Try.pinned (OpenSpec.ofChange chainPinsSpec)

/-- ITS FALSE NEIGHBOUR: 'it returns false'. Refute it at one input. -/
def chainPinsWrong : ChangeSpec := { name := "chainPins", fn := fun _ => fun
  | [d] => { results := [.lit (.bool false)], args := [d] }
  | _ => none }
def ChainPinsWrongFalsely : Prop := chainPinsRow.holds Try.pinned (OpenSpec.ofChange chainPinsWrong)

/-- 'archipelagolaw12.ChainOrder': WHATEVER THE INPUT: true; the input reads as it did. -/
def chainOrderSpec : ChangeSpec := { name := "chainOrder", fn := fun _ => fun
  | [d] => { results := [.lit (.bool true)], args := [d] }
  | _ => none }
def chainOrderRow : OpenClaim := { program := "ytjmleebbmomcgaa", sum := "7b3055b7d5f24cf28322be853bf9731018f4b4d6f480fec329f0f75b45a34c8c", func := "archipelago/archipelagolaw12.ChainOrder", spec := "chainOrder", inPlace := ["slices.overlaps[archipelago/api.Version]"], unfollowed := true, recurses := true, apart := false }
def ChainOrderSaid : Prop := chainOrderRow.holds Try.pinned (OpenSpec.ofChange chainOrderSpec)

/-- ITS FALSE NEIGHBOUR: 'it returns false'. Refute it at one input. -/
def chainOrderWrong : ChangeSpec := { name := "chainOrder", fn := fun _ => fun
  | [d] => { results := [.lit (.bool false)], args := [d] }
  | _ => none }
def ChainOrderWrongFalsely : Prop := chainOrderRow.holds Try.pinned (OpenSpec.ofChange chainOrderWrong)

/- THE SECOND FORM. 'bulk': how many values and letters a reading holds, each counted each time it is reached (what is shared counts as often as it is met; a slice's spare places count too). A statement '..UptoSaid' is the law's where the arguments, and the package variables that the reading takes, are together of bulk at most 1048576: NARROWER than '..Said'. Prove '..Said' where nothing that the law and all that it calls make is longer than what came in: it says more and counts as full. Else prove '..UptoSaid'. A law counts once. -/
mutual
def uptoBulk {H : Type} : DataW H → Nat
  | .lit (.string bytes) => bytes.length + 1
  | .lit _ => 1
  | .nil => 1
  | .ptr d => uptoBulk d + 1
  | .slice elems spare => uptoBulkAll elems + uptoBulkAll spare + 1
  | .agg parts => uptoBulkAll parts + 1
  | .iface _ d => uptoBulk d + 1
  | .map entries => uptoBulkEntries entries + 1
  | .held _ => 1
def uptoBulkAll {H : Type} : List (DataW H) → Nat
  | [] => 0
  | d :: r => uptoBulk d + uptoBulkAll r
def uptoBulkEntries {H : Type} : List (Lit × DataW H) → Nat
  | [] => 0
  | x :: r => uptoBulkEntry x + uptoBulkEntries r
def uptoBulkEntry {H : Type} : Lit × DataW H → Nat
  | (.string bytes, d) => bytes.length + uptoBulk d + 1
  | (_, d) => uptoBulk d + 1
 end
def uptoSmall : (H : Type) → List (DataW H) → Bool := fun _ ds => decide (uptoBulkAll ds ≤ 1048576)
def OpenSpec.upto (s : _root_.Go.ChangeSpec) : _root_.Go.OpenSpec := { _root_.Go.OpenSpec.ofChange s with cond := some uptoSmall }

/-- 'archipelagolaw12.ChainChecks', WHERE WHAT IT READS IS OF BULK AT MOST 1048576: true; the input reads as it did. -/
def chainChecksUptoRow : OpenClaim := { program := "ytjmleebbmomcgaa", sum := "7b3055b7d5f24cf28322be853bf9731018f4b4d6f480fec329f0f75b45a34c8c", func := "archipelago/archipelagolaw12.ChainChecks", spec := "chainChecks", unfollowed := true, recurses := true, apart := false, narrowed := true }
def ChainChecksUptoSaid : Prop := chainChecksUptoRow.holds Try.pinned (OpenSpec.upto chainChecksSpec)

/-- 'archipelagolaw12.ChainClean', WHERE WHAT IT READS IS OF BULK AT MOST 1048576: true; the input reads as it did. -/
def chainCleanUptoRow : OpenClaim := { program := "ytjmleebbmomcgaa", sum := "7b3055b7d5f24cf28322be853bf9731018f4b4d6f480fec329f0f75b45a34c8c", func := "archipelago/archipelagolaw12.ChainClean", spec := "chainClean", unfollowed := true, recurses := true, apart := false, narrowed := true }
def ChainCleanUptoSaid : Prop := chainCleanUptoRow.holds Try.pinned (OpenSpec.upto chainCleanSpec)

/-- 'archipelagolaw12.ChainBelow', WHERE WHAT IT READS IS OF BULK AT MOST 1048576: true; the input reads as it did. -/
def chainBelowUptoRow : OpenClaim := { program := "ytjmleebbmomcgaa", sum := "7b3055b7d5f24cf28322be853bf9731018f4b4d6f480fec329f0f75b45a34c8c", func := "archipelago/archipelagolaw12.ChainBelow", spec := "chainBelow", unfollowed := true, recurses := true, apart := false, narrowed := true }
def ChainBelowUptoSaid : Prop := chainBelowUptoRow.holds Try.pinned (OpenSpec.upto chainBelowSpec)

/-- 'archipelagolaw12.ChainPins', WHERE WHAT IT READS IS OF BULK AT MOST 1048576: true; the input reads as it did. -/
def chainPinsUptoRow : OpenClaim := { program := "ytjmleebbmomcgaa", sum := "7b3055b7d5f24cf28322be853bf9731018f4b4d6f480fec329f0f75b45a34c8c", func := "archipelago/archipelagolaw12.ChainPins", spec := "chainPins", unfollowed := true, recurses := true, apart := false, narrowed := true }
def ChainPinsUptoSaid : Prop := chainPinsUptoRow.holds Try.pinned (OpenSpec.upto chainPinsSpec)

/-- 'archipelagolaw12.ChainOrder', WHERE WHAT IT READS IS OF BULK AT MOST 1048576: true; the input reads as it did. -/
def chainOrderUptoRow : OpenClaim := { program := "ytjmleebbmomcgaa", sum := "7b3055b7d5f24cf28322be853bf9731018f4b4d6f480fec329f0f75b45a34c8c", func := "archipelago/archipelagolaw12.ChainOrder", spec := "chainOrder", inPlace := ["slices.overlaps[archipelago/api.Version]"], unfollowed := true, recurses := true, apart := false, narrowed := true }
def ChainOrderUptoSaid : Prop := chainOrderUptoRow.holds Try.pinned (OpenSpec.upto chainOrderSpec)

end Rows
end Go.Proofs.Ytjmleebbmomcgaa
