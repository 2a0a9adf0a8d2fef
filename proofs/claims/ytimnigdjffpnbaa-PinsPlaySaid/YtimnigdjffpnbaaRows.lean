/-
  No cell of these rows narrows 'for every input' (looked for: loops, veiled, ifaces, maps, wideKeys, modest, calm, conditions, laid).
  DERIVED. THE GIVEN ROWS OF THIS SEAT. 6 by the template 'for every input the law returns true; each argument reads behind the call as it read before'; 0 by the template 'total and deterministic' (their statements: YtimnigdjffpnbaaTotals.lean).
  GIVEN WITH THE SEED: the statements are not yours to turn. If you find one false, say at which input.
  Laid BY PROGRAM, IN A SANDBOX (cutbox-rows.mjs): the forced cells as the released guide's own fill.sh prints them over the translation 09d9d79c8f7347e0… (all of the seat's roots in one cut). By AI agents, Wed Nov 11 2026. No macro, syntax, notation, axiom, sorry.
-/
import Derived.Test.YtimnigdjffpnbaaChecked
import GoSem.Claim
import GoSem.ClaimJoined
import GoSem.ClaimMapViews
import Derived.JoinedTies
import Derived.KernelRfl
namespace Go.Proofs.Ytimnigdjffpnbaa
/- THE CELL 'sum', in the pinned program and in every row, IS THE sha256 OF THE DUMP (.gsa) THAT YtimnigdjffpnbaaProg.lean LOADS. Nothing in Lean hashes anything: it is a label: what it is worth is what the hold of that sum in a sandbox is worth. -/
noncomputable def Try.pinned : Pinned := { name := "ytimnigdjffpnbaa", sum := "09d9d79c8f7347e0319c0c076d615517b5bf7514152c4fa37bd84ccdf417a4f8", checked := Try.checked }
namespace Rows
def none {H : Type} : Left H := { results := [], args := [] }

/-- 'archipelagolaw16.PinsFull': WHATEVER THE INPUT: true; the input reads as it did. -/
def pinsFullSpec : ChangeSpec := { name := "pinsFull", fn := fun _ => fun
  | [d1, d2] => { results := [.lit (.bool true)], args := [d1, d2] }
  | _ => none }
def pinsFullRow : OpenClaim := { program := "ytimnigdjffpnbaa", sum := "09d9d79c8f7347e0319c0c076d615517b5bf7514152c4fa37bd84ccdf417a4f8", func := "archipelago/archipelagolaw16.PinsFull", spec := "pinsFull", inPlace := ["slices.overlaps[archipelago/api.Pin]"], unfollowed := true, recurses := true, apart := false }
def PinsFullSaid : Prop := pinsFullRow.holds Try.pinned (OpenSpec.ofChange pinsFullSpec)

/-- ITS FALSE NEIGHBOUR: 'it returns false'. Refute it at one input. -/
def pinsFullWrong : ChangeSpec := { name := "pinsFull", fn := fun _ => fun
  | [d1, d2] => { results := [.lit (.bool false)], args := [d1, d2] }
  | _ => none }
def PinsFullWrongFalsely : Prop := pinsFullRow.holds Try.pinned (OpenSpec.ofChange pinsFullWrong)

/-- 'archipelagolaw16.PinsRise': WHATEVER THE INPUT: true; the input reads as it did. -/
def pinsRiseSpec : ChangeSpec := { name := "pinsRise", fn := fun _ => fun
  | [d] => { results := [.lit (.bool true)], args := [d] }
  | _ => none }
def pinsRiseRow : OpenClaim := { program := "ytimnigdjffpnbaa", sum := "09d9d79c8f7347e0319c0c076d615517b5bf7514152c4fa37bd84ccdf417a4f8", func := "archipelago/archipelagolaw16.PinsRise", spec := "pinsRise", inPlace := ["slices.overlaps[archipelago/api.Pin]"], unfollowed := true, recurses := true, apart := false }
def PinsRiseSaid : Prop := pinsRiseRow.holds Try.pinned (OpenSpec.ofChange pinsRiseSpec)

/-- ITS FALSE NEIGHBOUR: 'it returns false'. Refute it at one input. -/
def pinsRiseWrong : ChangeSpec := { name := "pinsRise", fn := fun _ => fun
  | [d] => { results := [.lit (.bool false)], args := [d] }
  | _ => none }
def PinsRiseWrongFalsely : Prop := pinsRiseRow.holds Try.pinned (OpenSpec.ofChange pinsRiseWrong)

/-- 'archipelagolaw16.PinsBack': WHATEVER THE INPUT: true; the input reads as it did. -/
def pinsBackSpec : ChangeSpec := { name := "pinsBack", fn := fun _ => fun
  | [d1, d2] => { results := [.lit (.bool true)], args := [d1, d2] }
  | _ => none }
def pinsBackRow : OpenClaim := { program := "ytimnigdjffpnbaa", sum := "09d9d79c8f7347e0319c0c076d615517b5bf7514152c4fa37bd84ccdf417a4f8", func := "archipelago/archipelagolaw16.PinsBack", spec := "pinsBack", inPlace := ["slices.overlaps[archipelago/api.Pin]"], unfollowed := true, recurses := true, apart := false }
def PinsBackSaid : Prop := pinsBackRow.holds Try.pinned (OpenSpec.ofChange pinsBackSpec)

/-- ITS FALSE NEIGHBOUR: 'it returns false'. Refute it at one input. -/
def pinsBackWrong : ChangeSpec := { name := "pinsBack", fn := fun _ => fun
  | [d1, d2] => { results := [.lit (.bool false)], args := [d1, d2] }
  | _ => none }
def PinsBackWrongFalsely : Prop := pinsBackRow.holds Try.pinned (OpenSpec.ofChange pinsBackWrong)

/-- 'archipelagolaw16.PinsAll': WHATEVER THE INPUT: true; the input reads as it did. -/
def pinsAllSpec : ChangeSpec := { name := "pinsAll", fn := fun _ => fun
  | [d1, d2] => { results := [.lit (.bool true)], args := [d1, d2] }
  | _ => none }
def pinsAllRow : OpenClaim := { program := "ytimnigdjffpnbaa", sum := "09d9d79c8f7347e0319c0c076d615517b5bf7514152c4fa37bd84ccdf417a4f8", func := "archipelago/archipelagolaw16.PinsAll", spec := "pinsAll", inPlace := ["slices.overlaps[archipelago/api.Pin]"], unfollowed := true, recurses := true, apart := false }
def PinsAllSaid : Prop := pinsAllRow.holds Try.pinned (OpenSpec.ofChange pinsAllSpec)

/-- ITS FALSE NEIGHBOUR: 'it returns false'. Refute it at one input. -/
def pinsAllWrong : ChangeSpec := { name := "pinsAll", fn := fun _ => fun
  | [d1, d2] => { results := [.lit (.bool false)], args := [d1, d2] }
  | _ => none }
def PinsAllWrongFalsely : Prop := pinsAllRow.holds Try.pinned (OpenSpec.ofChange pinsAllWrong)

/-- 'archipelagolaw16.PinsKeys': WHATEVER THE INPUT: true; the input reads as it did. -/
def pinsKeysSpec : ChangeSpec := { name := "pinsKeys", fn := fun _ => fun
  | [d1, d2] => { results := [.lit (.bool true)], args := [d1, d2] }
  | _ => none }
def pinsKeysRow : OpenClaim := { program := "ytimnigdjffpnbaa", sum := "09d9d79c8f7347e0319c0c076d615517b5bf7514152c4fa37bd84ccdf417a4f8", func := "archipelago/archipelagolaw16.PinsKeys", spec := "pinsKeys", inPlace := ["slices.overlaps[archipelago/api.Pin]"], unfollowed := true, recurses := true, apart := false }
def PinsKeysSaid : Prop := pinsKeysRow.holds Try.pinned (OpenSpec.ofChange pinsKeysSpec)

/-- ITS FALSE NEIGHBOUR: 'it returns false'. Refute it at one input. -/
def pinsKeysWrong : ChangeSpec := { name := "pinsKeys", fn := fun _ => fun
  | [d1, d2] => { results := [.lit (.bool false)], args := [d1, d2] }
  | _ => none }
def PinsKeysWrongFalsely : Prop := pinsKeysRow.holds Try.pinned (OpenSpec.ofChange pinsKeysWrong)

/-- 'archipelagolaw16.PinsPlay': WHATEVER THE INPUT: true; the input reads as it did. -/
def pinsPlaySpec : ChangeSpec := { name := "pinsPlay", fn := fun _ => fun
  | [d1, d2, d3] => { results := [.lit (.bool true)], args := [d1, d2, d3] }
  | _ => none }
def pinsPlayRow : OpenClaim := { program := "ytimnigdjffpnbaa", sum := "09d9d79c8f7347e0319c0c076d615517b5bf7514152c4fa37bd84ccdf417a4f8", func := "archipelago/archipelagolaw16.PinsPlay", spec := "pinsPlay", inPlace := ["slices.overlaps[archipelago/api.Pin]"], unfollowed := true, recurses := true, apart := false }
def PinsPlaySaid : Prop := pinsPlayRow.holds Try.pinned (OpenSpec.ofChange pinsPlaySpec)

/-- ITS FALSE NEIGHBOUR: 'it returns false'. Refute it at one input. -/
def pinsPlayWrong : ChangeSpec := { name := "pinsPlay", fn := fun _ => fun
  | [d1, d2, d3] => { results := [.lit (.bool false)], args := [d1, d2, d3] }
  | _ => none }
def PinsPlayWrongFalsely : Prop := pinsPlayRow.holds Try.pinned (OpenSpec.ofChange pinsPlayWrong)

/- THE SECOND FORM. 'bulk': how many values and letters a reading holds, each counted each time it is reached (what is shared counts as often as it is met; a slice's spare places count too). A statement '..UptoSaid' is the law's where the arguments, and the package variables that the reading takes, are together of bulk at most 1048576: NARROWER than '..Said'. Prove '..Said' where nothing that the law and all that it calls make is longer than what came in: it says more and counts as full. Else prove '..UptoSaid'. A law counts once. -/
mutual
def uptoBulk {H : Type} : DataW H → Nat
  | .lit (.string bytes) => bytes.length + 1
  | .lit _ => 1
  | .nil => 1
  | .ptr d => uptoBulk d + 1
  | .slice elems spare => uptoBulkAll elems + uptoBulkAll spare + 1
  | .agg parts => uptoBulkAll parts + 1
  | .iface _ d => uptoBulk d + 1
  | .map entries => uptoBulkEntries entries + 1
  | .held _ => 1
def uptoBulkAll {H : Type} : List (DataW H) → Nat
  | [] => 0
  | d :: r => uptoBulk d + uptoBulkAll r
def uptoBulkEntries {H : Type} : List (Lit × DataW H) → Nat
  | [] => 0
  | x :: r => uptoBulkEntry x + uptoBulkEntries r
def uptoBulkEntry {H : Type} : Lit × DataW H → Nat
  | (.string bytes, d) => bytes.length + uptoBulk d + 1
  | (_, d) => uptoBulk d + 1
 end
def uptoSmall : (H : Type) → List (DataW H) → Bool := fun _ ds => decide (uptoBulkAll ds ≤ 1048576)
def OpenSpec.upto (s : _root_.Go.ChangeSpec) : _root_.Go.OpenSpec := { _root_.Go.OpenSpec.ofChange s with cond := some uptoSmall }

/-- 'archipelagolaw16.PinsFull', WHERE WHAT IT READS IS OF BULK AT MOST 1048576: true; the input reads as it did. -/
def pinsFullUptoRow : OpenClaim := { program := "ytimnigdjffpnbaa", sum := "09d9d79c8f7347e0319c0c076d615517b5bf7514152c4fa37bd84ccdf417a4f8", func := "archipelago/archipelagolaw16.PinsFull", spec := "pinsFull", inPlace := ["slices.overlaps[archipelago/api.Pin]"], unfollowed := true, recurses := true, apart := false, narrowed := true }
def PinsFullUptoSaid : Prop := pinsFullUptoRow.holds Try.pinned (OpenSpec.upto pinsFullSpec)

/-- 'archipelagolaw16.PinsRise', WHERE WHAT IT READS IS OF BULK AT MOST 1048576: true; the input reads as it did. -/
def pinsRiseUptoRow : OpenClaim := { program := "ytimnigdjffpnbaa", sum := "09d9d79c8f7347e0319c0c076d615517b5bf7514152c4fa37bd84ccdf417a4f8", func := "archipelago/archipelagolaw16.PinsRise", spec := "pinsRise", inPlace := ["slices.overlaps[archipelago/api.Pin]"], unfollowed := true, recurses := true, apart := false, narrowed := true }
def PinsRiseUptoSaid : Prop := pinsRiseUptoRow.holds Try.pinned (OpenSpec.upto pinsRiseSpec)

/-- 'archipelagolaw16.PinsBack', WHERE WHAT IT READS IS OF BULK AT MOST 1048576: true; the input reads as it did. -/
def pinsBackUptoRow : OpenClaim := { program := "ytimnigdjffpnbaa", sum := "09d9d79c8f7347e0319c0c076d615517b5bf7514152c4fa37bd84ccdf417a4f8", func := "archipelago/archipelagolaw16.PinsBack", spec := "pinsBack", inPlace := ["slices.overlaps[archipelago/api.Pin]"], unfollowed := true, recurses := true, apart := false, narrowed := true }
def PinsBackUptoSaid : Prop := pinsBackUptoRow.holds Try.pinned (OpenSpec.upto pinsBackSpec)

/-- 'archipelagolaw16.PinsAll', WHERE WHAT IT READS IS OF BULK AT MOST 1048576: true; the input reads as it did. -/
def pinsAllUptoRow : OpenClaim := { program := "ytimnigdjffpnbaa", sum := "09d9d79c8f7347e0319c0c076d615517b5bf7514152c4fa37bd84ccdf417a4f8", func := "archipelago/archipelagolaw16.PinsAll", spec := "pinsAll", inPlace := ["slices.overlaps[archipelago/api.Pin]"], unfollowed := true, recurses := true, apart := false, narrowed := true }
def PinsAllUptoSaid : Prop := pinsAllUptoRow.holds Try.pinned (OpenSpec.upto pinsAllSpec)

/-- 'archipelagolaw16.PinsKeys', WHERE WHAT IT READS IS OF BULK AT MOST 1048576: true; the input reads as it did. -/
def pinsKeysUptoRow : OpenClaim := { program := "ytimnigdjffpnbaa", sum := "09d9d79c8f7347e0319c0c076d615517b5bf7514152c4fa37bd84ccdf417a4f8", func := "archipelago/archipelagolaw16.PinsKeys", spec := "pinsKeys", inPlace := ["slices.overlaps[archipelago/api.Pin]"], unfollowed := true, recurses := true, apart := false, narrowed := true }
def PinsKeysUptoSaid : Prop := pinsKeysUptoRow.holds Try.pinned (OpenSpec.upto pinsKeysSpec)

/-- 'archipelagolaw16.PinsPlay', WHERE WHAT IT READS IS OF BULK AT MOST 1048576: true; the input reads as it did. -/
def pinsPlayUptoRow : OpenClaim := { program := "ytimnigdjffpnbaa", sum := "09d9d79c8f7347e0319c0c076d615517b5bf7514152c4fa37bd84ccdf417a4f8", func := "archipelago/archipelagolaw16.PinsPlay", spec := "pinsPlay", inPlace := ["slices.overlaps[archipelago/api.Pin]"], unfollowed := true, recurses := true, apart := false, narrowed := true }
def PinsPlayUptoSaid : Prop := pinsPlayUptoRow.holds Try.pinned (OpenSpec.upto pinsPlaySpec)

end Rows
end Go.Proofs.Ytimnigdjffpnbaa
