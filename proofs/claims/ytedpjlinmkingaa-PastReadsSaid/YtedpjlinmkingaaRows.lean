/-
  No cell of these rows narrows 'for every input' (looked for: loops, veiled, ifaces, maps, wideKeys, modest, calm, conditions, laid).
  DERIVED. THE GIVEN ROWS OF THIS SEAT. 6 by the template 'for every input the law returns true; each argument reads behind the call as it read before'; 0 by the template 'total and deterministic' (their statements: YtedpjlinmkingaaTotals.lean).
  GIVEN WITH THE SEED: the statements are not yours to turn. If you find one false, say at which input.
  Laid BY PROGRAM, IN A SANDBOX (cutbox-rows.mjs): the forced cells as the released guide's own fill.sh prints them over the translation 1f56ed586da253e2… (all of the seat's roots in one cut). By AI agents, Wed Nov 11 2026. No macro, syntax, notation, axiom, sorry.
-/
import Derived.Test.YtedpjlinmkingaaChecked
import GoSem.Claim
import GoSem.ClaimJoined
import GoSem.ClaimMapViews
import Derived.JoinedTies
import Derived.KernelRfl
namespace Go.Proofs.Ytedpjlinmkingaa
/- THE CELL 'sum', in the pinned program and in every row, IS THE sha256 OF THE DUMP (.gsa) THAT YtedpjlinmkingaaProg.lean LOADS. Nothing in Lean hashes anything: it is a label: what it is worth is what the hold of that sum in a sandbox is worth. -/
noncomputable def Try.pinned : Pinned := { name := "ytedpjlinmkingaa", sum := "1f56ed586da253e22ca56fa4dd4c2e4972fc642caaaf574693d03fc7aaacd8ff", checked := Try.checked }
namespace Rows
def none {H : Type} : Left H := { results := [], args := [] }

/-- 'archipelagolaw04.PastAdd': WHATEVER THE INPUT: true; the input reads as it did. -/
def pastAddSpec : ChangeSpec := { name := "pastAdd", fn := fun _ => fun
  | [d1, d2, d3] => { results := [.lit (.bool true)], args := [d1, d2, d3] }
  | _ => none }
def pastAddRow : OpenClaim := { program := "ytedpjlinmkingaa", sum := "1f56ed586da253e22ca56fa4dd4c2e4972fc642caaaf574693d03fc7aaacd8ff", func := "archipelago/archipelagolaw04.PastAdd", spec := "pastAdd", inPlace := ["slices.overlaps[archipelago/api.Dep]"], unfollowed := true, recurses := true, apart := false }
def PastAddSaid : Prop := pastAddRow.holds Try.pinned (OpenSpec.ofChange pastAddSpec)

/-- ITS FALSE NEIGHBOUR: 'it returns false'. Refute it at one input. -/
def pastAddWrong : ChangeSpec := { name := "pastAdd", fn := fun _ => fun
  | [d1, d2, d3] => { results := [.lit (.bool false)], args := [d1, d2, d3] }
  | _ => none }
def PastAddWrongFalsely : Prop := pastAddRow.holds Try.pinned (OpenSpec.ofChange pastAddWrong)

/-- 'archipelagolaw04.PastTells': WHATEVER THE INPUT: true; the input reads as it did. -/
def pastTellsSpec : ChangeSpec := { name := "pastTells", fn := fun _ => fun
  | [d1, d2, d3] => { results := [.lit (.bool true)], args := [d1, d2, d3] }
  | _ => none }
def pastTellsRow : OpenClaim := { program := "ytedpjlinmkingaa", sum := "1f56ed586da253e22ca56fa4dd4c2e4972fc642caaaf574693d03fc7aaacd8ff", func := "archipelago/archipelagolaw04.PastTells", spec := "pastTells", inPlace := ["slices.overlaps[archipelago/api.Dep]"], unfollowed := true, recurses := true, apart := false }
def PastTellsSaid : Prop := pastTellsRow.holds Try.pinned (OpenSpec.ofChange pastTellsSpec)

/-- ITS FALSE NEIGHBOUR: 'it returns false'. Refute it at one input. -/
def pastTellsWrong : ChangeSpec := { name := "pastTells", fn := fun _ => fun
  | [d1, d2, d3] => { results := [.lit (.bool false)], args := [d1, d2, d3] }
  | _ => none }
def PastTellsWrongFalsely : Prop := pastTellsRow.holds Try.pinned (OpenSpec.ofChange pastTellsWrong)

/-- 'archipelagolaw04.PastOnly': WHATEVER THE INPUT: true; the input reads as it did. -/
def pastOnlySpec : ChangeSpec := { name := "pastOnly", fn := fun _ => fun
  | [d1, d2] => { results := [.lit (.bool true)], args := [d1, d2] }
  | _ => none }
def pastOnlyRow : OpenClaim := { program := "ytedpjlinmkingaa", sum := "1f56ed586da253e22ca56fa4dd4c2e4972fc642caaaf574693d03fc7aaacd8ff", func := "archipelago/archipelagolaw04.PastOnly", spec := "pastOnly", inPlace := ["slices.overlaps[archipelago/api.Dep]"], unfollowed := true, recurses := true, apart := false }
def PastOnlySaid : Prop := pastOnlyRow.holds Try.pinned (OpenSpec.ofChange pastOnlySpec)

/-- ITS FALSE NEIGHBOUR: 'it returns false'. Refute it at one input. -/
def pastOnlyWrong : ChangeSpec := { name := "pastOnly", fn := fun _ => fun
  | [d1, d2] => { results := [.lit (.bool false)], args := [d1, d2] }
  | _ => none }
def PastOnlyWrongFalsely : Prop := pastOnlyRow.holds Try.pinned (OpenSpec.ofChange pastOnlyWrong)

/-- 'archipelagolaw04.PastChecks': WHATEVER THE INPUT: true; the input reads as it did. -/
def pastChecksSpec : ChangeSpec := { name := "pastChecks", fn := fun _ => fun
  | [d] => { results := [.lit (.bool true)], args := [d] }
  | _ => none }
def pastChecksRow : OpenClaim := { program := "ytedpjlinmkingaa", sum := "1f56ed586da253e22ca56fa4dd4c2e4972fc642caaaf574693d03fc7aaacd8ff", func := "archipelago/archipelagolaw04.PastChecks", spec := "pastChecks", inPlace := ["slices.overlaps[archipelago/api.Dep]", "internal/abi.NoEscape"], unfollowed := true, recurses := true, apart := false }
def PastChecksSaid : Prop := pastChecksRow.holds Try.pinned (OpenSpec.ofChange pastChecksSpec)

/-- ITS FALSE NEIGHBOUR: 'it returns false'. Refute it at one input. -/
def pastChecksWrong : ChangeSpec := { name := "pastChecks", fn := fun _ => fun
  | [d] => { results := [.lit (.bool false)], args := [d] }
  | _ => none }
def PastChecksWrongFalsely : Prop := pastChecksRow.holds Try.pinned (OpenSpec.ofChange pastChecksWrong)

/-- 'archipelagolaw04.PastReads': WHATEVER THE INPUT: true; the input reads as it did. -/
def pastReadsSpec : ChangeSpec := { name := "pastReads", fn := fun _ => fun
  | [d1, d2, d3] => { results := [.lit (.bool true)], args := [d1, d2, d3] }
  | _ => none }
def pastReadsRow : OpenClaim := { program := "ytedpjlinmkingaa", sum := "1f56ed586da253e22ca56fa4dd4c2e4972fc642caaaf574693d03fc7aaacd8ff", func := "archipelago/archipelagolaw04.PastReads", spec := "pastReads", inPlace := ["slices.overlaps[archipelago/api.Dep]"], unfollowed := true, recurses := true, apart := false }
def PastReadsSaid : Prop := pastReadsRow.holds Try.pinned (OpenSpec.ofChange pastReadsSpec)

/-- ITS FALSE NEIGHBOUR: 'it returns false'. Refute it at one input. -/
def pastReadsWrong : ChangeSpec := { name := "pastReads", fn := fun _ => fun
  | [d1, d2, d3] => { results := [.lit (.bool false)], args := [d1, d2, d3] }
  | _ => none }
def PastReadsWrongFalsely : Prop := pastReadsRow.holds Try.pinned (OpenSpec.ofChange pastReadsWrong)

/-- 'archipelagolaw04.PastBack': WHATEVER THE INPUT: true; the input reads as it did. -/
def pastBackSpec : ChangeSpec := { name := "pastBack", fn := fun _ => fun
  | [d1, d2, d3] => { results := [.lit (.bool true)], args := [d1, d2, d3] }
  | _ => none }
def pastBackRow : OpenClaim := { program := "ytedpjlinmkingaa", sum := "1f56ed586da253e22ca56fa4dd4c2e4972fc642caaaf574693d03fc7aaacd8ff", func := "archipelago/archipelagolaw04.PastBack", spec := "pastBack", inPlace := ["slices.overlaps[archipelago/api.Dep]", "internal/abi.NoEscape"], unfollowed := true, recurses := true, apart := false }
def PastBackSaid : Prop := pastBackRow.holds Try.pinned (OpenSpec.ofChange pastBackSpec)

/-- ITS FALSE NEIGHBOUR: 'it returns false'. Refute it at one input. -/
def pastBackWrong : ChangeSpec := { name := "pastBack", fn := fun _ => fun
  | [d1, d2, d3] => { results := [.lit (.bool false)], args := [d1, d2, d3] }
  | _ => none }
def PastBackWrongFalsely : Prop := pastBackRow.holds Try.pinned (OpenSpec.ofChange pastBackWrong)

/- THE SECOND FORM. 'bulk': how many values and letters a reading holds, each counted each time it is reached (what is shared counts as often as it is met; a slice's spare places count too). A statement '..UptoSaid' is the law's where the arguments, and the package variables that the reading takes, are together of bulk at most 1048576: NARROWER than '..Said'. Prove '..Said' where nothing that the law and all that it calls make is longer than what came in: it says more and counts as full. Else prove '..UptoSaid'. A law counts once. -/
mutual
def uptoBulk {H : Type} : DataW H → Nat
  | .lit (.string bytes) => bytes.length + 1
  | .lit _ => 1
  | .nil => 1
  | .ptr d => uptoBulk d + 1
  | .slice elems spare => uptoBulkAll elems + uptoBulkAll spare + 1
  | .agg parts => uptoBulkAll parts + 1
  | .iface _ d => uptoBulk d + 1
  | .map entries => uptoBulkEntries entries + 1
  | .held _ => 1
def uptoBulkAll {H : Type} : List (DataW H) → Nat
  | [] => 0
  | d :: r => uptoBulk d + uptoBulkAll r
def uptoBulkEntries {H : Type} : List (Lit × DataW H) → Nat
  | [] => 0
  | x :: r => uptoBulkEntry x + uptoBulkEntries r
def uptoBulkEntry {H : Type} : Lit × DataW H → Nat
  | (.string bytes, d) => bytes.length + uptoBulk d + 1
  | (_, d) => uptoBulk d + 1
 end
def uptoSmall : (H : Type) → List (DataW H) → Bool := fun _ ds => decide (uptoBulkAll ds ≤ 1048576)
def OpenSpec.upto (s : _root_.Go.ChangeSpec) : _root_.Go.OpenSpec := { _root_.Go.OpenSpec.ofChange s with cond := some uptoSmall }

/-- 'archipelagolaw04.PastAdd', WHERE WHAT IT READS IS OF BULK AT MOST 1048576: true; the input reads as it did. -/
def pastAddUptoRow : OpenClaim := { program := "ytedpjlinmkingaa", sum := "1f56ed586da253e22ca56fa4dd4c2e4972fc642caaaf574693d03fc7aaacd8ff", func := "archipelago/archipelagolaw04.PastAdd", spec := "pastAdd", inPlace := ["slices.overlaps[archipelago/api.Dep]"], unfollowed := true, recurses := true, apart := false, narrowed := true }
def PastAddUptoSaid : Prop := pastAddUptoRow.holds Try.pinned (OpenSpec.upto pastAddSpec)

/-- 'archipelagolaw04.PastTells', WHERE WHAT IT READS IS OF BULK AT MOST 1048576: true; the input reads as it did. -/
def pastTellsUptoRow : OpenClaim := { program := "ytedpjlinmkingaa", sum := "1f56ed586da253e22ca56fa4dd4c2e4972fc642caaaf574693d03fc7aaacd8ff", func := "archipelago/archipelagolaw04.PastTells", spec := "pastTells", inPlace := ["slices.overlaps[archipelago/api.Dep]"], unfollowed := true, recurses := true, apart := false, narrowed := true }
def PastTellsUptoSaid : Prop := pastTellsUptoRow.holds Try.pinned (OpenSpec.upto pastTellsSpec)

/-- 'archipelagolaw04.PastOnly', WHERE WHAT IT READS IS OF BULK AT MOST 1048576: true; the input reads as it did. -/
def pastOnlyUptoRow : OpenClaim := { program := "ytedpjlinmkingaa", sum := "1f56ed586da253e22ca56fa4dd4c2e4972fc642caaaf574693d03fc7aaacd8ff", func := "archipelago/archipelagolaw04.PastOnly", spec := "pastOnly", inPlace := ["slices.overlaps[archipelago/api.Dep]"], unfollowed := true, recurses := true, apart := false, narrowed := true }
def PastOnlyUptoSaid : Prop := pastOnlyUptoRow.holds Try.pinned (OpenSpec.upto pastOnlySpec)

/-- 'archipelagolaw04.PastChecks', WHERE WHAT IT READS IS OF BULK AT MOST 1048576: true; the input reads as it did. -/
def pastChecksUptoRow : OpenClaim := { program := "ytedpjlinmkingaa", sum := "1f56ed586da253e22ca56fa4dd4c2e4972fc642caaaf574693d03fc7aaacd8ff", func := "archipelago/archipelagolaw04.PastChecks", spec := "pastChecks", inPlace := ["slices.overlaps[archipelago/api.Dep]", "internal/abi.NoEscape"], unfollowed := true, recurses := true, apart := false, narrowed := true }
def PastChecksUptoSaid : Prop := pastChecksUptoRow.holds Try.pinned (OpenSpec.upto pastChecksSpec)

/-- 'archipelagolaw04.PastReads', WHERE WHAT IT READS IS OF BULK AT MOST 1048576: true; the input reads as it did. -/
def pastReadsUptoRow : OpenClaim := { program := "ytedpjlinmkingaa", sum := "1f56ed586da253e22ca56fa4dd4c2e4972fc642caaaf574693d03fc7aaacd8ff", func := "archipelago/archipelagolaw04.PastReads", spec := "pastReads", inPlace := ["slices.overlaps[archipelago/api.Dep]"], unfollowed := true, recurses := true, apart := false, narrowed := true }
def PastReadsUptoSaid : Prop := pastReadsUptoRow.holds Try.pinned (OpenSpec.upto pastReadsSpec)

/-- 'archipelagolaw04.PastBack', WHERE WHAT IT READS IS OF BULK AT MOST 1048576: true; the input reads as it did. -/
def pastBackUptoRow : OpenClaim := { program := "ytedpjlinmkingaa", sum := "1f56ed586da253e22ca56fa4dd4c2e4972fc642caaaf574693d03fc7aaacd8ff", func := "archipelago/archipelagolaw04.PastBack", spec := "pastBack", inPlace := ["slices.overlaps[archipelago/api.Dep]", "internal/abi.NoEscape"], unfollowed := true, recurses := true, apart := false, narrowed := true }
def PastBackUptoSaid : Prop := pastBackUptoRow.holds Try.pinned (OpenSpec.upto pastBackSpec)

end Rows
end Go.Proofs.Ytedpjlinmkingaa
