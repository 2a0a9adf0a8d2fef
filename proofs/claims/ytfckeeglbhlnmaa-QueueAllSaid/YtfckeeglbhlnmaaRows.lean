/-
  No cell of these rows narrows 'for every input' (looked for: loops, veiled, ifaces, maps, wideKeys, modest, calm, conditions, laid).
  DERIVED. THE GIVEN ROWS OF THIS SEAT. 6 by the template 'for every input the law returns true; each argument reads behind the call as it read before'; 0 by the template 'total and deterministic' (their statements: YtfckeeglbhlnmaaTotals.lean).
  GIVEN WITH THE SEED: the statements are not yours to turn. If you find one false, say at which input.
  Laid BY PROGRAM, IN A SANDBOX (cutbox-rows.mjs): the forced cells as the released guide's own fill.sh prints them over the translation afef6b114907748a… (all of the seat's roots in one cut). By AI agents, Wed Nov 11 2026. No macro, syntax, notation, axiom, sorry.
-/
import Derived.Test.YtfckeeglbhlnmaaChecked
import GoSem.Claim
import GoSem.ClaimJoined
import GoSem.ClaimMapViews
import Derived.JoinedTies
import Derived.KernelRfl
namespace Go.Proofs.Ytfckeeglbhlnmaa
/- THE CELL 'sum', in the pinned program and in every row, IS THE sha256 OF THE DUMP (.gsa) THAT YtfckeeglbhlnmaaProg.lean LOADS. Nothing in Lean hashes anything: it is a label: what it is worth is what the hold of that sum in a sandbox is worth. -/
noncomputable def Try.pinned : Pinned := { name := "ytfckeeglbhlnmaa", sum := "afef6b114907748a12f93b78523d4fd89488c187628158e0e1bcb6a6efc994af", checked := Try.checked }
namespace Rows
def none {H : Type} : Left H := { results := [], args := [] }

/-- 'archipelagolaw14.QueueLeft': WHATEVER THE INPUT: true; the input reads as it did. -/
def queueLeftSpec : ChangeSpec := { name := "queueLeft", fn := fun _ => fun
  | [d1, d2, d3] => { results := [.lit (.bool true)], args := [d1, d2, d3] }
  | _ => none }
def queueLeftRow : OpenClaim := { program := "ytfckeeglbhlnmaa", sum := "afef6b114907748a12f93b78523d4fd89488c187628158e0e1bcb6a6efc994af", func := "archipelago/archipelagolaw14.QueueLeft", spec := "queueLeft", unfollowed := true, recurses := true, apart := false }
def QueueLeftSaid : Prop := queueLeftRow.holds Try.pinned (OpenSpec.ofChange queueLeftSpec)

/-- ITS FALSE NEIGHBOUR: 'it returns false'. Refute it at one input. -/
def queueLeftWrong : ChangeSpec := { name := "queueLeft", fn := fun _ => fun
  | [d1, d2, d3] => { results := [.lit (.bool false)], args := [d1, d2, d3] }
  | _ => none }
def QueueLeftWrongFalsely : Prop := queueLeftRow.holds Try.pinned (OpenSpec.ofChange queueLeftWrong)

/-- 'archipelagolaw14.QueueHave': WHATEVER THE INPUT: true; the input reads as it did. -/
def queueHaveSpec : ChangeSpec := { name := "queueHave", fn := fun _ => fun
  | [d1, d2, d3] => { results := [.lit (.bool true)], args := [d1, d2, d3] }
  | _ => none }
def queueHaveRow : OpenClaim := { program := "ytfckeeglbhlnmaa", sum := "afef6b114907748a12f93b78523d4fd89488c187628158e0e1bcb6a6efc994af", func := "archipelago/archipelagolaw14.QueueHave", spec := "queueHave", unfollowed := true, recurses := true, apart := false }
def QueueHaveSaid : Prop := queueHaveRow.holds Try.pinned (OpenSpec.ofChange queueHaveSpec)

/-- ITS FALSE NEIGHBOUR: 'it returns false'. Refute it at one input. -/
def queueHaveWrong : ChangeSpec := { name := "queueHave", fn := fun _ => fun
  | [d1, d2, d3] => { results := [.lit (.bool false)], args := [d1, d2, d3] }
  | _ => none }
def QueueHaveWrongFalsely : Prop := queueHaveRow.holds Try.pinned (OpenSpec.ofChange queueHaveWrong)

/-- 'archipelagolaw14.QueueDrop': WHATEVER THE INPUT: true; the input reads as it did. -/
def queueDropSpec : ChangeSpec := { name := "queueDrop", fn := fun _ => fun
  | [d1, d2] => { results := [.lit (.bool true)], args := [d1, d2] }
  | _ => none }
def queueDropRow : OpenClaim := { program := "ytfckeeglbhlnmaa", sum := "afef6b114907748a12f93b78523d4fd89488c187628158e0e1bcb6a6efc994af", func := "archipelago/archipelagolaw14.QueueDrop", spec := "queueDrop", unfollowed := true, recurses := true, apart := false }
def QueueDropSaid : Prop := queueDropRow.holds Try.pinned (OpenSpec.ofChange queueDropSpec)

/-- ITS FALSE NEIGHBOUR: 'it returns false'. Refute it at one input. -/
def queueDropWrong : ChangeSpec := { name := "queueDrop", fn := fun _ => fun
  | [d1, d2] => { results := [.lit (.bool false)], args := [d1, d2] }
  | _ => none }
def QueueDropWrongFalsely : Prop := queueDropRow.holds Try.pinned (OpenSpec.ofChange queueDropWrong)

/-- 'archipelagolaw14.QueueAll': WHATEVER THE INPUT: true; the input reads as it did. -/
def queueAllSpec : ChangeSpec := { name := "queueAll", fn := fun _ => fun
  | [d1, d2] => { results := [.lit (.bool true)], args := [d1, d2] }
  | _ => none }
def queueAllRow : OpenClaim := { program := "ytfckeeglbhlnmaa", sum := "afef6b114907748a12f93b78523d4fd89488c187628158e0e1bcb6a6efc994af", func := "archipelago/archipelagolaw14.QueueAll", spec := "queueAll", unfollowed := true, recurses := true, apart := false }
def QueueAllSaid : Prop := queueAllRow.holds Try.pinned (OpenSpec.ofChange queueAllSpec)

/-- ITS FALSE NEIGHBOUR: 'it returns false'. Refute it at one input. -/
def queueAllWrong : ChangeSpec := { name := "queueAll", fn := fun _ => fun
  | [d1, d2] => { results := [.lit (.bool false)], args := [d1, d2] }
  | _ => none }
def QueueAllWrongFalsely : Prop := queueAllRow.holds Try.pinned (OpenSpec.ofChange queueAllWrong)

/-- 'archipelagolaw14.QueueFull': WHATEVER THE INPUT: true; the input reads as it did. -/
def queueFullSpec : ChangeSpec := { name := "queueFull", fn := fun _ => fun
  | [d] => { results := [.lit (.bool true)], args := [d] }
  | _ => none }
def queueFullRow : OpenClaim := { program := "ytfckeeglbhlnmaa", sum := "afef6b114907748a12f93b78523d4fd89488c187628158e0e1bcb6a6efc994af", func := "archipelago/archipelagolaw14.QueueFull", spec := "queueFull", unfollowed := true, recurses := true, apart := false }
def QueueFullSaid : Prop := queueFullRow.holds Try.pinned (OpenSpec.ofChange queueFullSpec)

/-- ITS FALSE NEIGHBOUR: 'it returns false'. Refute it at one input. -/
def queueFullWrong : ChangeSpec := { name := "queueFull", fn := fun _ => fun
  | [d] => { results := [.lit (.bool false)], args := [d] }
  | _ => none }
def QueueFullWrongFalsely : Prop := queueFullRow.holds Try.pinned (OpenSpec.ofChange queueFullWrong)

/-- 'archipelagolaw14.QueueTells': WHATEVER THE INPUT: true; the input reads as it did. -/
def queueTellsSpec : ChangeSpec := { name := "queueTells", fn := fun _ => fun
  | [d1, d2, d3] => { results := [.lit (.bool true)], args := [d1, d2, d3] }
  | _ => none }
def queueTellsRow : OpenClaim := { program := "ytfckeeglbhlnmaa", sum := "afef6b114907748a12f93b78523d4fd89488c187628158e0e1bcb6a6efc994af", func := "archipelago/archipelagolaw14.QueueTells", spec := "queueTells", unfollowed := true, recurses := true, apart := false }
def QueueTellsSaid : Prop := queueTellsRow.holds Try.pinned (OpenSpec.ofChange queueTellsSpec)

/-- ITS FALSE NEIGHBOUR: 'it returns false'. Refute it at one input. -/
def queueTellsWrong : ChangeSpec := { name := "queueTells", fn := fun _ => fun
  | [d1, d2, d3] => { results := [.lit (.bool false)], args := [d1, d2, d3] }
  | _ => none }
def QueueTellsWrongFalsely : Prop := queueTellsRow.holds Try.pinned (OpenSpec.ofChange queueTellsWrong)

/- THE SECOND FORM. 'bulk': how many values and letters a reading holds, each counted each time it is reached (what is shared counts as often as it is met; a slice's spare places count too). A statement '..UptoSaid' is the law's where the arguments, and the package variables that the reading takes, are together of bulk at most 1048576: NARROWER than '..Said'. Prove '..Said' where nothing that the law and all that it calls make is longer than what came in: it says more and counts as full. Else prove '..UptoSaid'. A law counts once. -/
mutual
def uptoBulk {H : Type} : DataW H → Nat
  | .lit (.string bytes) => bytes.length + 1
  | .lit _ => 1
  | .nil => 1
  | .ptr d => uptoBulk d + 1
  | .slice elems spare => uptoBulkAll elems + uptoBulkAll spare + 1
  | .agg parts => uptoBulkAll parts + 1
  | .iface _ d => uptoBulk d + 1
  | .map entries => uptoBulkEntries entries + 1
  | .held _ => 1
def uptoBulkAll {H : Type} : List (DataW H) → Nat
  | [] => 0
  | d :: r => uptoBulk d + uptoBulkAll r
def uptoBulkEntries {H : Type} : List (Lit × DataW H) → Nat
  | [] => 0
  | x :: r => uptoBulkEntry x + uptoBulkEntries r
def uptoBulkEntry {H : Type} : Lit × DataW H → Nat
  | (.string bytes, d) => bytes.length + uptoBulk d + 1
  | (_, d) => uptoBulk d + 1
 end
def uptoSmall : (H : Type) → List (DataW H) → Bool := fun _ ds => decide (uptoBulkAll ds ≤ 1048576)
def OpenSpec.upto (s : _root_.Go.ChangeSpec) : _root_.Go.OpenSpec := { _root_.Go.OpenSpec.ofChange s with cond := some uptoSmall }

/-- 'archipelagolaw14.QueueLeft', WHERE WHAT IT READS IS OF BULK AT MOST 1048576: true; the input reads as it did. -/
def queueLeftUptoRow : OpenClaim := { program := "ytfckeeglbhlnmaa", sum := "afef6b114907748a12f93b78523d4fd89488c187628158e0e1bcb6a6efc994af", func := "archipelago/archipelagolaw14.QueueLeft", spec := "queueLeft", unfollowed := true, recurses := true, apart := false, narrowed := true }
def QueueLeftUptoSaid : Prop := queueLeftUptoRow.holds Try.pinned (OpenSpec.upto queueLeftSpec)

/-- 'archipelagolaw14.QueueHave', WHERE WHAT IT READS IS OF BULK AT MOST 1048576: true; the input reads as it did. -/
def queueHaveUptoRow : OpenClaim := { program := "ytfckeeglbhlnmaa", sum := "afef6b114907748a12f93b78523d4fd89488c187628158e0e1bcb6a6efc994af", func := "archipelago/archipelagolaw14.QueueHave", spec := "queueHave", unfollowed := true, recurses := true, apart := false, narrowed := true }
def QueueHaveUptoSaid : Prop := queueHaveUptoRow.holds Try.pinned (OpenSpec.upto queueHaveSpec)

/-- 'archipelagolaw14.QueueDrop', WHERE WHAT IT READS IS OF BULK AT MOST 1048576: true; the input reads as it did. -/
def queueDropUptoRow : OpenClaim := { program := "ytfckeeglbhlnmaa", sum := "afef6b114907748a12f93b78523d4fd89488c187628158e0e1bcb6a6efc994af", func := "archipelago/archipelagolaw14.QueueDrop", spec := "queueDrop", unfollowed := true, recurses := true, apart := false, narrowed := true }
def QueueDropUptoSaid : Prop := queueDropUptoRow.holds Try.pinned (OpenSpec.upto queueDropSpec)

/-- 'archipelagolaw14.QueueAll', WHERE WHAT IT READS IS OF BULK AT MOST 1048576: true; the input reads as it did. -/
def queueAllUptoRow : OpenClaim := { program := "ytfckeeglbhlnmaa", sum := "afef6b114907748a12f93b78523d4fd89488c187628158e0e1bcb6a6efc994af", func := "archipelago/archipelagolaw14.QueueAll", spec := "queueAll", unfollowed := true, recurses := true, apart := false, narrowed := true }
def QueueAllUptoSaid : Prop := queueAllUptoRow.holds Try.pinned (OpenSpec.upto queueAllSpec)

/-- 'archipelagolaw14.QueueFull', WHERE WHAT IT READS IS OF BULK AT MOST 1048576: true; the input reads as it did. -/
def queueFullUptoRow : OpenClaim := { program := "ytfckeeglbhlnmaa", sum := "afef6b114907748a12f93b78523d4fd89488c187628158e0e1bcb6a6efc994af", func := "archipelago/archipelagolaw14.QueueFull", spec := "queueFull", unfollowed := true, recurses := true, apart := false, narrowed := true }
def QueueFullUptoSaid : Prop := queueFullUptoRow.holds Try.pinned (OpenSpec.upto queueFullSpec)

/-- 'archipelagolaw14.QueueTells', WHERE WHAT IT READS IS OF BULK AT MOST 1048576: true; the input reads as it did. -/
def queueTellsUptoRow : OpenClaim := { program := "ytfckeeglbhlnmaa", sum := "afef6b114907748a12f93b78523d4fd89488c187628158e0e1bcb6a6efc994af", func := "archipelago/archipelagolaw14.QueueTells", spec := "queueTells", unfollowed := true, recurses := true, apart := false, narrowed := true }
def QueueTellsUptoSaid : Prop := queueTellsUptoRow.holds Try.pinned (OpenSpec.upto queueTellsSpec)

end Rows
end Go.Proofs.Ytfckeeglbhlnmaa
