/-
  No cell of these rows narrows 'for every input' (looked for: loops, veiled, ifaces, maps, wideKeys, modest, calm, conditions, laid).
  DERIVED. THE GIVEN ROWS OF THIS SEAT. 6 by the template 'for every input the law returns true; each argument reads behind the call as it read before'; 0 by the template 'total and deterministic' (their statements: YtimklpfnpmjdcaaTotals.lean).
  GIVEN WITH THE SEED: the statements are not yours to turn. If you find one false, say at which input.
  Laid BY PROGRAM, IN A SANDBOX (cutbox-rows.mjs): the forced cells as the released guide's own fill.sh prints them over the translation 8013da1e589914ee… (all of the seat's roots in one cut). By AI agents, Wed Nov 11 2026. No macro, syntax, notation, axiom, sorry.
-/
import Derived.Test.YtimklpfnpmjdcaaChecked
import GoSem.Claim
import GoSem.ClaimJoined
import GoSem.ClaimMapViews
import Derived.JoinedTies
import Derived.KernelRfl
namespace Go.Proofs.Ytimklpfnpmjdcaa
/- THE CELL 'sum', in the pinned program and in every row, IS THE sha256 OF THE DUMP (.gsa) THAT YtimklpfnpmjdcaaProg.lean LOADS. Nothing in Lean hashes anything: it is a label: what it is worth is what the hold of that sum in a sandbox is worth. -/
noncomputable def Try.pinned : Pinned := { name := "ytimklpfnpmjdcaa", sum := "8013da1e589914eeef2e4596342719c23c1ad07f1807023053e6063c91081812", checked := Try.checked }
namespace Rows
def none {H : Type} : Left H := { results := [], args := [] }

/-- 'archipelagolaw19.CutTells': WHATEVER THE INPUT: true; the input reads as it did. -/
def cutTellsSpec : ChangeSpec := { name := "cutTells", fn := fun _ => fun
  | [d1, d2, d3] => { results := [.lit (.bool true)], args := [d1, d2, d3] }
  | _ => none }
def cutTellsRow : OpenClaim := { program := "ytimklpfnpmjdcaa", sum := "8013da1e589914eeef2e4596342719c23c1ad07f1807023053e6063c91081812", func := "archipelago/archipelagolaw19.CutTells", spec := "cutTells", inPlace := ["slices.overlaps[archipelago/api.Dep]"], unfollowed := true, recurses := true, apart := false }
def CutTellsSaid : Prop := cutTellsRow.holds Try.pinned (OpenSpec.ofChange cutTellsSpec)

/-- ITS FALSE NEIGHBOUR: 'it returns false'. Refute it at one input. -/
def cutTellsWrong : ChangeSpec := { name := "cutTells", fn := fun _ => fun
  | [d1, d2, d3] => { results := [.lit (.bool false)], args := [d1, d2, d3] }
  | _ => none }
def CutTellsWrongFalsely : Prop := cutTellsRow.holds Try.pinned (OpenSpec.ofChange cutTellsWrong)

/-- 'archipelagolaw19.CutMeans': WHATEVER THE INPUT: true; the input reads as it did. -/
def cutMeansSpec : ChangeSpec := { name := "cutMeans", fn := fun _ => fun
  | [d1, d2, d3] => { results := [.lit (.bool true)], args := [d1, d2, d3] }
  | _ => none }
def cutMeansRow : OpenClaim := { program := "ytimklpfnpmjdcaa", sum := "8013da1e589914eeef2e4596342719c23c1ad07f1807023053e6063c91081812", func := "archipelago/archipelagolaw19.CutMeans", spec := "cutMeans", inPlace := ["slices.overlaps[archipelago/api.Dep]"], unfollowed := true, recurses := true, apart := false }
def CutMeansSaid : Prop := cutMeansRow.holds Try.pinned (OpenSpec.ofChange cutMeansSpec)

/-- ITS FALSE NEIGHBOUR: 'it returns false'. Refute it at one input. -/
def cutMeansWrong : ChangeSpec := { name := "cutMeans", fn := fun _ => fun
  | [d1, d2, d3] => { results := [.lit (.bool false)], args := [d1, d2, d3] }
  | _ => none }
def CutMeansWrongFalsely : Prop := cutMeansRow.holds Try.pinned (OpenSpec.ofChange cutMeansWrong)

/-- 'archipelagolaw19.CutFewer': WHATEVER THE INPUT: true; the input reads as it did. -/
def cutFewerSpec : ChangeSpec := { name := "cutFewer", fn := fun _ => fun
  | [d1, d2, d3] => { results := [.lit (.bool true)], args := [d1, d2, d3] }
  | _ => none }
def cutFewerRow : OpenClaim := { program := "ytimklpfnpmjdcaa", sum := "8013da1e589914eeef2e4596342719c23c1ad07f1807023053e6063c91081812", func := "archipelago/archipelagolaw19.CutFewer", spec := "cutFewer", inPlace := ["slices.overlaps[archipelago/api.Dep]"], unfollowed := true, recurses := true, apart := false }
def CutFewerSaid : Prop := cutFewerRow.holds Try.pinned (OpenSpec.ofChange cutFewerSpec)

/-- ITS FALSE NEIGHBOUR: 'it returns false'. Refute it at one input. -/
def cutFewerWrong : ChangeSpec := { name := "cutFewer", fn := fun _ => fun
  | [d1, d2, d3] => { results := [.lit (.bool false)], args := [d1, d2, d3] }
  | _ => none }
def CutFewerWrongFalsely : Prop := cutFewerRow.holds Try.pinned (OpenSpec.ofChange cutFewerWrong)

/-- 'archipelagolaw19.CutOne': WHATEVER THE INPUT: true; the input reads as it did. -/
def cutOneSpec : ChangeSpec := { name := "cutOne", fn := fun _ => fun
  | [d1, d2, d3] => { results := [.lit (.bool true)], args := [d1, d2, d3] }
  | _ => none }
def cutOneRow : OpenClaim := { program := "ytimklpfnpmjdcaa", sum := "8013da1e589914eeef2e4596342719c23c1ad07f1807023053e6063c91081812", func := "archipelago/archipelagolaw19.CutOne", spec := "cutOne", inPlace := ["slices.overlaps[archipelago/api.Dep]"], unfollowed := true, recurses := true, apart := false }
def CutOneSaid : Prop := cutOneRow.holds Try.pinned (OpenSpec.ofChange cutOneSpec)

/-- ITS FALSE NEIGHBOUR: 'it returns false'. Refute it at one input. -/
def cutOneWrong : ChangeSpec := { name := "cutOne", fn := fun _ => fun
  | [d1, d2, d3] => { results := [.lit (.bool false)], args := [d1, d2, d3] }
  | _ => none }
def CutOneWrongFalsely : Prop := cutOneRow.holds Try.pinned (OpenSpec.ofChange cutOneWrong)

/-- 'archipelagolaw19.CutGrows': WHATEVER THE INPUT: true; the input reads as it did. -/
def cutGrowsSpec : ChangeSpec := { name := "cutGrows", fn := fun _ => fun
  | [d1, d2, d3] => { results := [.lit (.bool true)], args := [d1, d2, d3] }
  | _ => none }
def cutGrowsRow : OpenClaim := { program := "ytimklpfnpmjdcaa", sum := "8013da1e589914eeef2e4596342719c23c1ad07f1807023053e6063c91081812", func := "archipelago/archipelagolaw19.CutGrows", spec := "cutGrows", inPlace := ["slices.overlaps[archipelago/api.Dep]"], unfollowed := true, recurses := true, apart := false }
def CutGrowsSaid : Prop := cutGrowsRow.holds Try.pinned (OpenSpec.ofChange cutGrowsSpec)

/-- ITS FALSE NEIGHBOUR: 'it returns false'. Refute it at one input. -/
def cutGrowsWrong : ChangeSpec := { name := "cutGrows", fn := fun _ => fun
  | [d1, d2, d3] => { results := [.lit (.bool false)], args := [d1, d2, d3] }
  | _ => none }
def CutGrowsWrongFalsely : Prop := cutGrowsRow.holds Try.pinned (OpenSpec.ofChange cutGrowsWrong)

/-- 'archipelagolaw19.CutSeen': WHATEVER THE INPUT: true; the input reads as it did. -/
def cutSeenSpec : ChangeSpec := { name := "cutSeen", fn := fun _ => fun
  | [d] => { results := [.lit (.bool true)], args := [d] }
  | _ => none }
def cutSeenRow : OpenClaim := { program := "ytimklpfnpmjdcaa", sum := "8013da1e589914eeef2e4596342719c23c1ad07f1807023053e6063c91081812", func := "archipelago/archipelagolaw19.CutSeen", spec := "cutSeen", inPlace := ["slices.overlaps[archipelago/api.Dep]"], unfollowed := true, recurses := true, apart := false }
def CutSeenSaid : Prop := cutSeenRow.holds Try.pinned (OpenSpec.ofChange cutSeenSpec)

/-- ITS FALSE NEIGHBOUR: 'it returns false'. Refute it at one input. -/
def cutSeenWrong : ChangeSpec := { name := "cutSeen", fn := fun _ => fun
  | [d] => { results := [.lit (.bool false)], args := [d] }
  | _ => none }
def CutSeenWrongFalsely : Prop := cutSeenRow.holds Try.pinned (OpenSpec.ofChange cutSeenWrong)

/- THE SECOND FORM. 'bulk': how many values and letters a reading holds, each counted each time it is reached (what is shared counts as often as it is met; a slice's spare places count too). A statement '..UptoSaid' is the law's where the arguments, and the package variables that the reading takes, are together of bulk at most 1048576: NARROWER than '..Said'. Prove '..Said' where nothing that the law and all that it calls make is longer than what came in: it says more and counts as full. Else prove '..UptoSaid'. A law counts once. -/
mutual
def uptoBulk {H : Type} : DataW H → Nat
  | .lit (.string bytes) => bytes.length + 1
  | .lit _ => 1
  | .nil => 1
  | .ptr d => uptoBulk d + 1
  | .slice elems spare => uptoBulkAll elems + uptoBulkAll spare + 1
  | .agg parts => uptoBulkAll parts + 1
  | .iface _ d => uptoBulk d + 1
  | .map entries => uptoBulkEntries entries + 1
  | .held _ => 1
def uptoBulkAll {H : Type} : List (DataW H) → Nat
  | [] => 0
  | d :: r => uptoBulk d + uptoBulkAll r
def uptoBulkEntries {H : Type} : List (Lit × DataW H) → Nat
  | [] => 0
  | x :: r => uptoBulkEntry x + uptoBulkEntries r
def uptoBulkEntry {H : Type} : Lit × DataW H → Nat
  | (.string bytes, d) => bytes.length + uptoBulk d + 1
  | (_, d) => uptoBulk d + 1
 end
def uptoSmall : (H : Type) → List (DataW H) → Bool := fun _ ds => decide (uptoBulkAll ds ≤ 1048576)
def OpenSpec.upto (s : _root_.Go.ChangeSpec) : _root_.Go.OpenSpec := { _root_.Go.OpenSpec.ofChange s with cond := some uptoSmall }

/-- 'archipelagolaw19.CutTells', WHERE WHAT IT READS IS OF BULK AT MOST 1048576: true; the input reads as it did. -/
def cutTellsUptoRow : OpenClaim := { program := "ytimklpfnpmjdcaa", sum := "8013da1e589914eeef2e4596342719c23c1ad07f1807023053e6063c91081812", func := "archipelago/archipelagolaw19.CutTells", spec := "cutTells", inPlace := ["slices.overlaps[archipelago/api.Dep]"], unfollowed := true, recurses := true, apart := false, narrowed := true }
def CutTellsUptoSaid : Prop := cutTellsUptoRow.holds Try.pinned (OpenSpec.upto cutTellsSpec)

/-- 'archipelagolaw19.CutMeans', WHERE WHAT IT READS IS OF BULK AT MOST 1048576: true; the input reads as it did. -/
def cutMeansUptoRow : OpenClaim := { program := "ytimklpfnpmjdcaa", sum := "8013da1e589914eeef2e4596342719c23c1ad07f1807023053e6063c91081812", func := "archipelago/archipelagolaw19.CutMeans", spec := "cutMeans", inPlace := ["slices.overlaps[archipelago/api.Dep]"], unfollowed := true, recurses := true, apart := false, narrowed := true }
def CutMeansUptoSaid : Prop := cutMeansUptoRow.holds Try.pinned (OpenSpec.upto cutMeansSpec)

/-- 'archipelagolaw19.CutFewer', WHERE WHAT IT READS IS OF BULK AT MOST 1048576: true; the input reads as it did. -/
def cutFewerUptoRow : OpenClaim := { program := "ytimklpfnpmjdcaa", sum := "8013da1e589914eeef2e4596342719c23c1ad07f1807023053e6063c91081812", func := "archipelago/archipelagolaw19.CutFewer", spec := "cutFewer", inPlace := ["slices.overlaps[archipelago/api.Dep]"], unfollowed := true, recurses := true, apart := false, narrowed := true }
def CutFewerUptoSaid : Prop := cutFewerUptoRow.holds Try.pinned (OpenSpec.upto cutFewerSpec)

/-- 'archipelagolaw19.CutOne', WHERE WHAT IT READS IS OF BULK AT MOST 1048576: true; the input reads as it did. -/
def cutOneUptoRow : OpenClaim := { program := "ytimklpfnpmjdcaa", sum := "8013da1e589914eeef2e4596342719c23c1ad07f1807023053e6063c91081812", func := "archipelago/archipelagolaw19.CutOne", spec := "cutOne", inPlace := ["slices.overlaps[archipelago/api.Dep]"], unfollowed := true, recurses := true, apart := false, narrowed := true }
def CutOneUptoSaid : Prop := cutOneUptoRow.holds Try.pinned (OpenSpec.upto cutOneSpec)

/-- 'archipelagolaw19.CutGrows', WHERE WHAT IT READS IS OF BULK AT MOST 1048576: true; the input reads as it did. -/
def cutGrowsUptoRow : OpenClaim := { program := "ytimklpfnpmjdcaa", sum := "8013da1e589914eeef2e4596342719c23c1ad07f1807023053e6063c91081812", func := "archipelago/archipelagolaw19.CutGrows", spec := "cutGrows", inPlace := ["slices.overlaps[archipelago/api.Dep]"], unfollowed := true, recurses := true, apart := false, narrowed := true }
def CutGrowsUptoSaid : Prop := cutGrowsUptoRow.holds Try.pinned (OpenSpec.upto cutGrowsSpec)

/-- 'archipelagolaw19.CutSeen', WHERE WHAT IT READS IS OF BULK AT MOST 1048576: true; the input reads as it did. -/
def cutSeenUptoRow : OpenClaim := { program := "ytimklpfnpmjdcaa", sum := "8013da1e589914eeef2e4596342719c23c1ad07f1807023053e6063c91081812", func := "archipelago/archipelagolaw19.CutSeen", spec := "cutSeen", inPlace := ["slices.overlaps[archipelago/api.Dep]"], unfollowed := true, recurses := true, apart := false, narrowed := true }
def CutSeenUptoSaid : Prop := cutSeenUptoRow.holds Try.pinned (OpenSpec.upto cutSeenSpec)

end Rows
end Go.Proofs.Ytimklpfnpmjdcaa
