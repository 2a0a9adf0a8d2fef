/-
  No cell of these rows narrows 'for every input' (looked for: loops, veiled, ifaces, maps, wideKeys, modest, calm, conditions, laid).
  DERIVED. THE GIVEN ROWS OF THIS SEAT. 4 by the template 'for every input the law returns true; each argument reads behind the call as it read before'; 0 by the template 'total and deterministic' (their statements: YtknhoebmoljopaaTotals.lean).
  GIVEN WITH THE SEED: the statements are not yours to turn. If you find one false, say at which input.
  Laid BY PROGRAM, IN A SANDBOX (cutbox-rows.mjs): the forced cells as the released guide's own fill.sh prints them over the translation 66bdeee8e03b1af2… (all of the seat's roots in one cut). By AI agents, Wed Nov 11 2026. No macro, syntax, notation, axiom, sorry.
-/
import Derived.Test.YtknhoebmoljopaaChecked
import GoSem.Claim
import GoSem.ClaimJoined
import GoSem.ClaimMapViews
import Derived.JoinedTies
import Derived.KernelRfl
namespace Go.Proofs.Ytknhoebmoljopaa
/- THE CELL 'sum', in the pinned program and in every row, IS THE sha256 OF THE DUMP (.gsa) THAT YtknhoebmoljopaaProg.lean LOADS. Nothing in Lean hashes anything: it is a label: what it is worth is what the hold of that sum in a sandbox is worth. -/
noncomputable def Try.pinned : Pinned := { name := "ytknhoebmoljopaa", sum := "66bdeee8e03b1af234e374c872e996ca10d8dad07ecf7996b36ec98bbd957e36", checked := Try.checked }
namespace Rows
def none {H : Type} : Left H := { results := [], args := [] }

/-- 'archipelagolaw15.ClientOrder': WHATEVER THE INPUT: true; the input reads as it did. -/
def clientOrderSpec : ChangeSpec := { name := "clientOrder", fn := fun _ => fun
  | [d] => { results := [.lit (.bool true)], args := [d] }
  | _ => none }
def clientOrderRow : OpenClaim := { program := "ytknhoebmoljopaa", sum := "66bdeee8e03b1af234e374c872e996ca10d8dad07ecf7996b36ec98bbd957e36", func := "archipelago/archipelagolaw15.ClientOrder", spec := "clientOrder", inPlace := ["slices.overlaps[archipelago/api.Dep]"], unfollowed := true, recurses := true, apart := false }
def ClientOrderSaid : Prop := clientOrderRow.holds Try.pinned (OpenSpec.ofChange clientOrderSpec)

/-- ITS FALSE NEIGHBOUR: 'it returns false'. Refute it at one input. -/
def clientOrderWrong : ChangeSpec := { name := "clientOrder", fn := fun _ => fun
  | [d] => { results := [.lit (.bool false)], args := [d] }
  | _ => none }
def ClientOrderWrongFalsely : Prop := clientOrderRow.holds Try.pinned (OpenSpec.ofChange clientOrderWrong)

/-- 'archipelagolaw15.ClientMay': WHATEVER THE INPUT: true; the input reads as it did. -/
def clientMaySpec : ChangeSpec := { name := "clientMay", fn := fun _ => fun
  | [d1, d2, d3] => { results := [.lit (.bool true)], args := [d1, d2, d3] }
  | _ => none }
def clientMayRow : OpenClaim := { program := "ytknhoebmoljopaa", sum := "66bdeee8e03b1af234e374c872e996ca10d8dad07ecf7996b36ec98bbd957e36", func := "archipelago/archipelagolaw15.ClientMay", spec := "clientMay", inPlace := ["slices.overlaps[archipelago/api.Dep]"], unfollowed := true, recurses := true, apart := false }
def ClientMaySaid : Prop := clientMayRow.holds Try.pinned (OpenSpec.ofChange clientMaySpec)

/-- ITS FALSE NEIGHBOUR: 'it returns false'. Refute it at one input. -/
def clientMayWrong : ChangeSpec := { name := "clientMay", fn := fun _ => fun
  | [d1, d2, d3] => { results := [.lit (.bool false)], args := [d1, d2, d3] }
  | _ => none }
def ClientMayWrongFalsely : Prop := clientMayRow.holds Try.pinned (OpenSpec.ofChange clientMayWrong)

/-- 'archipelagolaw15.ClientFits': WHATEVER THE INPUT: true; the input reads as it did. -/
def clientFitsSpec : ChangeSpec := { name := "clientFits", fn := fun _ => fun
  | [d1, d2] => { results := [.lit (.bool true)], args := [d1, d2] }
  | _ => none }
def clientFitsRow : OpenClaim := { program := "ytknhoebmoljopaa", sum := "66bdeee8e03b1af234e374c872e996ca10d8dad07ecf7996b36ec98bbd957e36", func := "archipelago/archipelagolaw15.ClientFits", spec := "clientFits", inPlace := ["slices.overlaps[archipelago/api.Dep]"], unfollowed := true, recurses := true, apart := false }
def ClientFitsSaid : Prop := clientFitsRow.holds Try.pinned (OpenSpec.ofChange clientFitsSpec)

/-- ITS FALSE NEIGHBOUR: 'it returns false'. Refute it at one input. -/
def clientFitsWrong : ChangeSpec := { name := "clientFits", fn := fun _ => fun
  | [d1, d2] => { results := [.lit (.bool false)], args := [d1, d2] }
  | _ => none }
def ClientFitsWrongFalsely : Prop := clientFitsRow.holds Try.pinned (OpenSpec.ofChange clientFitsWrong)

/-- 'archipelagolaw15.ClientEnters': WHATEVER THE INPUT: true; the input reads as it did. -/
def clientEntersSpec : ChangeSpec := { name := "clientEnters", fn := fun _ => fun
  | [d1, d2] => { results := [.lit (.bool true)], args := [d1, d2] }
  | _ => none }
def clientEntersRow : OpenClaim := { program := "ytknhoebmoljopaa", sum := "66bdeee8e03b1af234e374c872e996ca10d8dad07ecf7996b36ec98bbd957e36", func := "archipelago/archipelagolaw15.ClientEnters", spec := "clientEnters", inPlace := ["slices.overlaps[archipelago/api.Dep]"], unfollowed := true, recurses := true, apart := false }
def ClientEntersSaid : Prop := clientEntersRow.holds Try.pinned (OpenSpec.ofChange clientEntersSpec)

/-- ITS FALSE NEIGHBOUR: 'it returns false'. Refute it at one input. -/
def clientEntersWrong : ChangeSpec := { name := "clientEnters", fn := fun _ => fun
  | [d1, d2] => { results := [.lit (.bool false)], args := [d1, d2] }
  | _ => none }
def ClientEntersWrongFalsely : Prop := clientEntersRow.holds Try.pinned (OpenSpec.ofChange clientEntersWrong)

/- THE SECOND FORM. 'bulk': how many values and letters a reading holds, each counted each time it is reached (what is shared counts as often as it is met; a slice's spare places count too). A statement '..UptoSaid' is the law's where the arguments, and the package variables that the reading takes, are together of bulk at most 1048576: NARROWER than '..Said'. Prove '..Said' where nothing that the law and all that it calls make is longer than what came in: it says more and counts as full. Else prove '..UptoSaid'. A law counts once. -/
mutual
def uptoBulk {H : Type} : DataW H → Nat
  | .lit (.string bytes) => bytes.length + 1
  | .lit _ => 1
  | .nil => 1
  | .ptr d => uptoBulk d + 1
  | .slice elems spare => uptoBulkAll elems + uptoBulkAll spare + 1
  | .agg parts => uptoBulkAll parts + 1
  | .iface _ d => uptoBulk d + 1
  | .map entries => uptoBulkEntries entries + 1
  | .held _ => 1
def uptoBulkAll {H : Type} : List (DataW H) → Nat
  | [] => 0
  | d :: r => uptoBulk d + uptoBulkAll r
def uptoBulkEntries {H : Type} : List (Lit × DataW H) → Nat
  | [] => 0
  | x :: r => uptoBulkEntry x + uptoBulkEntries r
def uptoBulkEntry {H : Type} : Lit × DataW H → Nat
  | (.string bytes, d) => bytes.length + uptoBulk d + 1
  | (_, d) => uptoBulk d + 1
 end
def uptoSmall : (H : Type) → List (DataW H) → Bool := fun _ ds => decide (uptoBulkAll ds ≤ 1048576)
def OpenSpec.upto (s : _root_.Go.ChangeSpec) : _root_.Go.OpenSpec := { _root_.Go.OpenSpec.ofChange s with cond := some uptoSmall }

/-- 'archipelagolaw15.ClientOrder', WHERE WHAT IT READS IS OF BULK AT MOST 1048576: true; the input reads as it did. -/
def clientOrderUptoRow : OpenClaim := { program := "ytknhoebmoljopaa", sum := "66bdeee8e03b1af234e374c872e996ca10d8dad07ecf7996b36ec98bbd957e36", func := "archipelago/archipelagolaw15.ClientOrder", spec := "clientOrder", inPlace := ["slices.overlaps[archipelago/api.Dep]"], unfollowed := true, recurses := true, apart := false, narrowed := true }
def ClientOrderUptoSaid : Prop := clientOrderUptoRow.holds Try.pinned (OpenSpec.upto clientOrderSpec)

/-- 'archipelagolaw15.ClientMay', WHERE WHAT IT READS IS OF BULK AT MOST 1048576: true; the input reads as it did. -/
def clientMayUptoRow : OpenClaim := { program := "ytknhoebmoljopaa", sum := "66bdeee8e03b1af234e374c872e996ca10d8dad07ecf7996b36ec98bbd957e36", func := "archipelago/archipelagolaw15.ClientMay", spec := "clientMay", inPlace := ["slices.overlaps[archipelago/api.Dep]"], unfollowed := true, recurses := true, apart := false, narrowed := true }
def ClientMayUptoSaid : Prop := clientMayUptoRow.holds Try.pinned (OpenSpec.upto clientMaySpec)

/-- 'archipelagolaw15.ClientFits', WHERE WHAT IT READS IS OF BULK AT MOST 1048576: true; the input reads as it did. -/
def clientFitsUptoRow : OpenClaim := { program := "ytknhoebmoljopaa", sum := "66bdeee8e03b1af234e374c872e996ca10d8dad07ecf7996b36ec98bbd957e36", func := "archipelago/archipelagolaw15.ClientFits", spec := "clientFits", inPlace := ["slices.overlaps[archipelago/api.Dep]"], unfollowed := true, recurses := true, apart := false, narrowed := true }
def ClientFitsUptoSaid : Prop := clientFitsUptoRow.holds Try.pinned (OpenSpec.upto clientFitsSpec)

/-- 'archipelagolaw15.ClientEnters', WHERE WHAT IT READS IS OF BULK AT MOST 1048576: true; the input reads as it did. -/
def clientEntersUptoRow : OpenClaim := { program := "ytknhoebmoljopaa", sum := "66bdeee8e03b1af234e374c872e996ca10d8dad07ecf7996b36ec98bbd957e36", func := "archipelago/archipelagolaw15.ClientEnters", spec := "clientEnters", inPlace := ["slices.overlaps[archipelago/api.Dep]"], unfollowed := true, recurses := true, apart := false, narrowed := true }
def ClientEntersUptoSaid : Prop := clientEntersUptoRow.holds Try.pinned (OpenSpec.upto clientEntersSpec)

end Rows
end Go.Proofs.Ytknhoebmoljopaa
