/-
  No cell of these rows narrows 'for every input' (looked for: loops, veiled, ifaces, maps, wideKeys, modest, calm, conditions, laid).
  DERIVED. THE GIVEN ROWS OF THIS SEAT. 6 by the template 'for every input the law returns true; each argument reads behind the call as it read before'; 0 by the template 'total and deterministic' (their statements: YtildciopogbhcaaTotals.lean).
  GIVEN WITH THE SEED: the statements are not yours to turn. If you find one false, say at which input.
  Laid BY PROGRAM, IN A SANDBOX (cutbox-rows.mjs): the forced cells as the released guide's own fill.sh prints them over the translation fb22f604cf19bb9a… (all of the seat's roots in one cut). By AI agents, Wed Nov 11 2026. No macro, syntax, notation, axiom, sorry.
-/
import Derived.Test.YtildciopogbhcaaChecked
import GoSem.Claim
import GoSem.ClaimJoined
import GoSem.ClaimMapViews
import Derived.JoinedTies
import Derived.KernelRfl
namespace Go.Proofs.Ytildciopogbhcaa
/- THE CELL 'sum', in the pinned program and in every row, IS THE sha256 OF THE DUMP (.gsa) THAT YtildciopogbhcaaProg.lean LOADS. Nothing in Lean hashes anything: it is a label: what it is worth is what the hold of that sum in a sandbox is worth. -/
noncomputable def Try.pinned : Pinned := { name := "ytildciopogbhcaa", sum := "fb22f604cf19bb9a132110f038c7ad20f2e9c4240ebb331cebed45e0f443e5aa", checked := Try.checked }
namespace Rows
def none {H : Type} : Left H := { results := [], args := [] }

/-- 'archipelagolaw05.NearestTells': WHATEVER THE INPUT: true; the input reads as it did. -/
def nearestTellsSpec : ChangeSpec := { name := "nearestTells", fn := fun _ => fun
  | [d1, d2, d3] => { results := [.lit (.bool true)], args := [d1, d2, d3] }
  | _ => none }
def nearestTellsRow : OpenClaim := { program := "ytildciopogbhcaa", sum := "fb22f604cf19bb9a132110f038c7ad20f2e9c4240ebb331cebed45e0f443e5aa", func := "archipelago/archipelagolaw05.NearestTells", spec := "nearestTells", inPlace := ["slices.overlaps[archipelago/api.Dep]"], unfollowed := true, recurses := true, apart := false }
def NearestTellsSaid : Prop := nearestTellsRow.holds Try.pinned (OpenSpec.ofChange nearestTellsSpec)

/-- ITS FALSE NEIGHBOUR: 'it returns false'. Refute it at one input. -/
def nearestTellsWrong : ChangeSpec := { name := "nearestTells", fn := fun _ => fun
  | [d1, d2, d3] => { results := [.lit (.bool false)], args := [d1, d2, d3] }
  | _ => none }
def NearestTellsWrongFalsely : Prop := nearestTellsRow.holds Try.pinned (OpenSpec.ofChange nearestTellsWrong)

/-- 'archipelagolaw05.NearestBack': WHATEVER THE INPUT: true; the input reads as it did. -/
def nearestBackSpec : ChangeSpec := { name := "nearestBack", fn := fun _ => fun
  | [d] => { results := [.lit (.bool true)], args := [d] }
  | _ => none }
def nearestBackRow : OpenClaim := { program := "ytildciopogbhcaa", sum := "fb22f604cf19bb9a132110f038c7ad20f2e9c4240ebb331cebed45e0f443e5aa", func := "archipelago/archipelagolaw05.NearestBack", spec := "nearestBack", inPlace := ["slices.overlaps[archipelago/api.Dep]"], unfollowed := true, recurses := true, apart := false }
def NearestBackSaid : Prop := nearestBackRow.holds Try.pinned (OpenSpec.ofChange nearestBackSpec)

/-- ITS FALSE NEIGHBOUR: 'it returns false'. Refute it at one input. -/
def nearestBackWrong : ChangeSpec := { name := "nearestBack", fn := fun _ => fun
  | [d] => { results := [.lit (.bool false)], args := [d] }
  | _ => none }
def NearestBackWrongFalsely : Prop := nearestBackRow.holds Try.pinned (OpenSpec.ofChange nearestBackWrong)

/-- 'archipelagolaw05.NearestLeft': WHATEVER THE INPUT: true; the input reads as it did. -/
def nearestLeftSpec : ChangeSpec := { name := "nearestLeft", fn := fun _ => fun
  | [d] => { results := [.lit (.bool true)], args := [d] }
  | _ => none }
def nearestLeftRow : OpenClaim := { program := "ytildciopogbhcaa", sum := "fb22f604cf19bb9a132110f038c7ad20f2e9c4240ebb331cebed45e0f443e5aa", func := "archipelago/archipelagolaw05.NearestLeft", spec := "nearestLeft", inPlace := ["slices.overlaps[archipelago/api.Dep]"], unfollowed := true, recurses := true, apart := false }
def NearestLeftSaid : Prop := nearestLeftRow.holds Try.pinned (OpenSpec.ofChange nearestLeftSpec)

/-- ITS FALSE NEIGHBOUR: 'it returns false'. Refute it at one input. -/
def nearestLeftWrong : ChangeSpec := { name := "nearestLeft", fn := fun _ => fun
  | [d] => { results := [.lit (.bool false)], args := [d] }
  | _ => none }
def NearestLeftWrongFalsely : Prop := nearestLeftRow.holds Try.pinned (OpenSpec.ofChange nearestLeftWrong)

/-- 'archipelagolaw05.NearestRow': WHATEVER THE INPUT: true; the input reads as it did. -/
def nearestRowSpec : ChangeSpec := { name := "nearestRow", fn := fun _ => fun
  | [d] => { results := [.lit (.bool true)], args := [d] }
  | _ => none }
def nearestRowRow : OpenClaim := { program := "ytildciopogbhcaa", sum := "fb22f604cf19bb9a132110f038c7ad20f2e9c4240ebb331cebed45e0f443e5aa", func := "archipelago/archipelagolaw05.NearestRow", spec := "nearestRow", inPlace := ["slices.overlaps[archipelago/api.Dep]"], unfollowed := true, recurses := true, apart := false }
def NearestRowSaid : Prop := nearestRowRow.holds Try.pinned (OpenSpec.ofChange nearestRowSpec)

/-- ITS FALSE NEIGHBOUR: 'it returns false'. Refute it at one input. -/
def nearestRowWrong : ChangeSpec := { name := "nearestRow", fn := fun _ => fun
  | [d] => { results := [.lit (.bool false)], args := [d] }
  | _ => none }
def NearestRowWrongFalsely : Prop := nearestRowRow.holds Try.pinned (OpenSpec.ofChange nearestRowWrong)

/-- 'archipelagolaw05.NearestExpands': WHATEVER THE INPUT: true; the input reads as it did. -/
def nearestExpandsSpec : ChangeSpec := { name := "nearestExpands", fn := fun _ => fun
  | [d1, d2] => { results := [.lit (.bool true)], args := [d1, d2] }
  | _ => none }
def nearestExpandsRow : OpenClaim := { program := "ytildciopogbhcaa", sum := "fb22f604cf19bb9a132110f038c7ad20f2e9c4240ebb331cebed45e0f443e5aa", func := "archipelago/archipelagolaw05.NearestExpands", spec := "nearestExpands", inPlace := ["slices.overlaps[archipelago/api.Dep]"], unfollowed := true, recurses := true, apart := false }
def NearestExpandsSaid : Prop := nearestExpandsRow.holds Try.pinned (OpenSpec.ofChange nearestExpandsSpec)

/-- ITS FALSE NEIGHBOUR: 'it returns false'. Refute it at one input. -/
def nearestExpandsWrong : ChangeSpec := { name := "nearestExpands", fn := fun _ => fun
  | [d1, d2] => { results := [.lit (.bool false)], args := [d1, d2] }
  | _ => none }
def NearestExpandsWrongFalsely : Prop := nearestExpandsRow.holds Try.pinned (OpenSpec.ofChange nearestExpandsWrong)

/-- 'archipelagolaw05.NearestOwn': WHATEVER THE INPUT: true; the input reads as it did. -/
def nearestOwnSpec : ChangeSpec := { name := "nearestOwn", fn := fun _ => fun
  | [d] => { results := [.lit (.bool true)], args := [d] }
  | _ => none }
def nearestOwnRow : OpenClaim := { program := "ytildciopogbhcaa", sum := "fb22f604cf19bb9a132110f038c7ad20f2e9c4240ebb331cebed45e0f443e5aa", func := "archipelago/archipelagolaw05.NearestOwn", spec := "nearestOwn", inPlace := ["slices.overlaps[archipelago/api.Dep]"], unfollowed := true, recurses := true, apart := false }
def NearestOwnSaid : Prop := nearestOwnRow.holds Try.pinned (OpenSpec.ofChange nearestOwnSpec)

/-- ITS FALSE NEIGHBOUR: 'it returns false'. Refute it at one input. -/
def nearestOwnWrong : ChangeSpec := { name := "nearestOwn", fn := fun _ => fun
  | [d] => { results := [.lit (.bool false)], args := [d] }
  | _ => none }
def NearestOwnWrongFalsely : Prop := nearestOwnRow.holds Try.pinned (OpenSpec.ofChange nearestOwnWrong)

/- THE SECOND FORM. 'bulk': how many values and letters a reading holds, each counted each time it is reached (what is shared counts as often as it is met; a slice's spare places count too). A statement '..UptoSaid' is the law's where the arguments, and the package variables that the reading takes, are together of bulk at most 1048576: NARROWER than '..Said'. Prove '..Said' where nothing that the law and all that it calls make is longer than what came in: it says more and counts as full. Else prove '..UptoSaid'. A law counts once. -/
mutual
def uptoBulk {H : Type} : DataW H → Nat
  | .lit (.string bytes) => bytes.length + 1
  | .lit _ => 1
  | .nil => 1
  | .ptr d => uptoBulk d + 1
  | .slice elems spare => uptoBulkAll elems + uptoBulkAll spare + 1
  | .agg parts => uptoBulkAll parts + 1
  | .iface _ d => uptoBulk d + 1
  | .map entries => uptoBulkEntries entries + 1
  | .held _ => 1
def uptoBulkAll {H : Type} : List (DataW H) → Nat
  | [] => 0
  | d :: r => uptoBulk d + uptoBulkAll r
def uptoBulkEntries {H : Type} : List (Lit × DataW H) → Nat
  | [] => 0
  | x :: r => uptoBulkEntry x + uptoBulkEntries r
def uptoBulkEntry {H : Type} : Lit × DataW H → Nat
  | (.string bytes, d) => bytes.length + uptoBulk d + 1
  | (_, d) => uptoBulk d + 1
 end
def uptoSmall : (H : Type) → List (DataW H) → Bool := fun _ ds => decide (uptoBulkAll ds ≤ 1048576)
def OpenSpec.upto (s : _root_.Go.ChangeSpec) : _root_.Go.OpenSpec := { _root_.Go.OpenSpec.ofChange s with cond := some uptoSmall }

/-- 'archipelagolaw05.NearestTells', WHERE WHAT IT READS IS OF BULK AT MOST 1048576: true; the input reads as it did. -/
def nearestTellsUptoRow : OpenClaim := { program := "ytildciopogbhcaa", sum := "fb22f604cf19bb9a132110f038c7ad20f2e9c4240ebb331cebed45e0f443e5aa", func := "archipelago/archipelagolaw05.NearestTells", spec := "nearestTells", inPlace := ["slices.overlaps[archipelago/api.Dep]"], unfollowed := true, recurses := true, apart := false, narrowed := true }
def NearestTellsUptoSaid : Prop := nearestTellsUptoRow.holds Try.pinned (OpenSpec.upto nearestTellsSpec)

/-- 'archipelagolaw05.NearestBack', WHERE WHAT IT READS IS OF BULK AT MOST 1048576: true; the input reads as it did. -/
def nearestBackUptoRow : OpenClaim := { program := "ytildciopogbhcaa", sum := "fb22f604cf19bb9a132110f038c7ad20f2e9c4240ebb331cebed45e0f443e5aa", func := "archipelago/archipelagolaw05.NearestBack", spec := "nearestBack", inPlace := ["slices.overlaps[archipelago/api.Dep]"], unfollowed := true, recurses := true, apart := false, narrowed := true }
def NearestBackUptoSaid : Prop := nearestBackUptoRow.holds Try.pinned (OpenSpec.upto nearestBackSpec)

/-- 'archipelagolaw05.NearestLeft', WHERE WHAT IT READS IS OF BULK AT MOST 1048576: true; the input reads as it did. -/
def nearestLeftUptoRow : OpenClaim := { program := "ytildciopogbhcaa", sum := "fb22f604cf19bb9a132110f038c7ad20f2e9c4240ebb331cebed45e0f443e5aa", func := "archipelago/archipelagolaw05.NearestLeft", spec := "nearestLeft", inPlace := ["slices.overlaps[archipelago/api.Dep]"], unfollowed := true, recurses := true, apart := false, narrowed := true }
def NearestLeftUptoSaid : Prop := nearestLeftUptoRow.holds Try.pinned (OpenSpec.upto nearestLeftSpec)

/-- 'archipelagolaw05.NearestRow', WHERE WHAT IT READS IS OF BULK AT MOST 1048576: true; the input reads as it did. -/
def nearestRowUptoRow : OpenClaim := { program := "ytildciopogbhcaa", sum := "fb22f604cf19bb9a132110f038c7ad20f2e9c4240ebb331cebed45e0f443e5aa", func := "archipelago/archipelagolaw05.NearestRow", spec := "nearestRow", inPlace := ["slices.overlaps[archipelago/api.Dep]"], unfollowed := true, recurses := true, apart := false, narrowed := true }
def NearestRowUptoSaid : Prop := nearestRowUptoRow.holds Try.pinned (OpenSpec.upto nearestRowSpec)

/-- 'archipelagolaw05.NearestExpands', WHERE WHAT IT READS IS OF BULK AT MOST 1048576: true; the input reads as it did. -/
def nearestExpandsUptoRow : OpenClaim := { program := "ytildciopogbhcaa", sum := "fb22f604cf19bb9a132110f038c7ad20f2e9c4240ebb331cebed45e0f443e5aa", func := "archipelago/archipelagolaw05.NearestExpands", spec := "nearestExpands", inPlace := ["slices.overlaps[archipelago/api.Dep]"], unfollowed := true, recurses := true, apart := false, narrowed := true }
def NearestExpandsUptoSaid : Prop := nearestExpandsUptoRow.holds Try.pinned (OpenSpec.upto nearestExpandsSpec)

/-- 'archipelagolaw05.NearestOwn', WHERE WHAT IT READS IS OF BULK AT MOST 1048576: true; the input reads as it did. -/
def nearestOwnUptoRow : OpenClaim := { program := "ytildciopogbhcaa", sum := "fb22f604cf19bb9a132110f038c7ad20f2e9c4240ebb331cebed45e0f443e5aa", func := "archipelago/archipelagolaw05.NearestOwn", spec := "nearestOwn", inPlace := ["slices.overlaps[archipelago/api.Dep]"], unfollowed := true, recurses := true, apart := false, narrowed := true }
def NearestOwnUptoSaid : Prop := nearestOwnUptoRow.holds Try.pinned (OpenSpec.upto nearestOwnSpec)

end Rows
end Go.Proofs.Ytildciopogbhcaa
