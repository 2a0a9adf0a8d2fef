/-
  No cell of these rows narrows 'for every input' (looked for: loops, veiled, ifaces, maps, wideKeys, modest, calm, conditions, laid).
  DERIVED. THE GIVEN ROWS OF THIS SEAT. 6 by the template 'for every input the law returns true; each argument reads behind the call as it read before'; 0 by the template 'total and deterministic' (their statements: YtdngcojjipaajaaTotals.lean).
  GIVEN WITH THE SEED: the statements are not yours to turn. If you find one false, say at which input.
  Laid BY PROGRAM, IN A SANDBOX (cutbox-rows.mjs): the forced cells as the released guide's own fill.sh prints them over the translation 76bf6d74e9925e8f… (all of the seat's roots in one cut). By AI agents, Wed Nov 11 2026. No macro, syntax, notation, axiom, sorry.
-/
import Derived.Test.YtdngcojjipaajaaChecked
import GoSem.Claim
import GoSem.ClaimJoined
import GoSem.ClaimMapViews
import Derived.JoinedTies
import Derived.KernelRfl
namespace Go.Proofs.Ytdngcojjipaajaa
/- THE CELL 'sum', in the pinned program and in every row, IS THE sha256 OF THE DUMP (.gsa) THAT YtdngcojjipaajaaProg.lean LOADS. Nothing in Lean hashes anything: it is a label: what it is worth is what the hold of that sum in a sandbox is worth. -/
noncomputable def Try.pinned : Pinned := { name := "ytdngcojjipaajaa", sum := "76bf6d74e9925e8f29a045676e85e5cdfcc9e3a1446d94706005b8ddf8fb8011", checked := Try.checked }
namespace Rows
def none {H : Type} : Left H := { results := [], args := [] }

/-- 'archipelagolaw20.HistoryStale': WHATEVER THE INPUT: true; the input reads as it did. -/
def historyStaleSpec : ChangeSpec := { name := "historyStale", fn := fun _ => fun
  | [d1, d2] => { results := [.lit (.bool true)], args := [d1, d2] }
  | _ => none }
def historyStaleRow : OpenClaim := { program := "ytdngcojjipaajaa", sum := "76bf6d74e9925e8f29a045676e85e5cdfcc9e3a1446d94706005b8ddf8fb8011", func := "archipelago/archipelagolaw20.HistoryStale", spec := "historyStale", inPlace := ["slices.overlaps[archipelago/api.Dep]"], unfollowed := true, recurses := true, plainKeys := false, apart := false }
def HistoryStaleSaid : Prop := historyStaleRow.holds Try.pinned (OpenSpec.ofChange historyStaleSpec)

/-- ITS FALSE NEIGHBOUR: 'it returns false'. Refute it at one input. -/
def historyStaleWrong : ChangeSpec := { name := "historyStale", fn := fun _ => fun
  | [d1, d2] => { results := [.lit (.bool false)], args := [d1, d2] }
  | _ => none }
def HistoryStaleWrongFalsely : Prop := historyStaleRow.holds Try.pinned (OpenSpec.ofChange historyStaleWrong)

/-- 'archipelagolaw20.HistoryWrites': WHATEVER THE INPUT: true; the input reads as it did. -/
def historyWritesSpec : ChangeSpec := { name := "historyWrites", fn := fun _ => fun
  | [d] => { results := [.lit (.bool true)], args := [d] }
  | _ => none }
def historyWritesRow : OpenClaim := { program := "ytdngcojjipaajaa", sum := "76bf6d74e9925e8f29a045676e85e5cdfcc9e3a1446d94706005b8ddf8fb8011", func := "archipelago/archipelagolaw20.HistoryWrites", spec := "historyWrites", inPlace := ["slices.overlaps[archipelago/api.Dep]"], unfollowed := true, recurses := true, plainKeys := false, apart := false }
def HistoryWritesSaid : Prop := historyWritesRow.holds Try.pinned (OpenSpec.ofChange historyWritesSpec)

/-- ITS FALSE NEIGHBOUR: 'it returns false'. Refute it at one input. -/
def historyWritesWrong : ChangeSpec := { name := "historyWrites", fn := fun _ => fun
  | [d] => { results := [.lit (.bool false)], args := [d] }
  | _ => none }
def HistoryWritesWrongFalsely : Prop := historyWritesRow.holds Try.pinned (OpenSpec.ofChange historyWritesWrong)

/-- 'archipelagolaw20.HistoryRight': WHATEVER THE INPUT: true; the input reads as it did. -/
def historyRightSpec : ChangeSpec := { name := "historyRight", fn := fun _ => fun
  | [d] => { results := [.lit (.bool true)], args := [d] }
  | _ => none }
def historyRightRow : OpenClaim := { program := "ytdngcojjipaajaa", sum := "76bf6d74e9925e8f29a045676e85e5cdfcc9e3a1446d94706005b8ddf8fb8011", func := "archipelago/archipelagolaw20.HistoryRight", spec := "historyRight", inPlace := ["slices.overlaps[archipelago/api.Dep]"], unfollowed := true, recurses := true, plainKeys := false, apart := false }
def HistoryRightSaid : Prop := historyRightRow.holds Try.pinned (OpenSpec.ofChange historyRightSpec)

/-- ITS FALSE NEIGHBOUR: 'it returns false'. Refute it at one input. -/
def historyRightWrong : ChangeSpec := { name := "historyRight", fn := fun _ => fun
  | [d] => { results := [.lit (.bool false)], args := [d] }
  | _ => none }
def HistoryRightWrongFalsely : Prop := historyRightRow.holds Try.pinned (OpenSpec.ofChange historyRightWrong)

/-- 'archipelagolaw20.HistoryOf': WHATEVER THE INPUT: true; the input reads as it did. -/
def historyOfSpec : ChangeSpec := { name := "historyOf", fn := fun _ => fun
  | [d] => { results := [.lit (.bool true)], args := [d] }
  | _ => none }
def historyOfRow : OpenClaim := { program := "ytdngcojjipaajaa", sum := "76bf6d74e9925e8f29a045676e85e5cdfcc9e3a1446d94706005b8ddf8fb8011", func := "archipelago/archipelagolaw20.HistoryOf", spec := "historyOf", inPlace := ["slices.overlaps[archipelago/api.Dep]"], unfollowed := true, recurses := true, plainKeys := false, apart := false }
def HistoryOfSaid : Prop := historyOfRow.holds Try.pinned (OpenSpec.ofChange historyOfSpec)

/-- ITS FALSE NEIGHBOUR: 'it returns false'. Refute it at one input. -/
def historyOfWrong : ChangeSpec := { name := "historyOf", fn := fun _ => fun
  | [d] => { results := [.lit (.bool false)], args := [d] }
  | _ => none }
def HistoryOfWrongFalsely : Prop := historyOfRow.holds Try.pinned (OpenSpec.ofChange historyOfWrong)

/-- 'archipelagolaw20.HistoryTells': WHATEVER THE INPUT: true; the input reads as it did. -/
def historyTellsSpec : ChangeSpec := { name := "historyTells", fn := fun _ => fun
  | [d1, d2, d3] => { results := [.lit (.bool true)], args := [d1, d2, d3] }
  | _ => none }
def historyTellsRow : OpenClaim := { program := "ytdngcojjipaajaa", sum := "76bf6d74e9925e8f29a045676e85e5cdfcc9e3a1446d94706005b8ddf8fb8011", func := "archipelago/archipelagolaw20.HistoryTells", spec := "historyTells", inPlace := ["slices.overlaps[archipelago/api.Dep]"], unfollowed := true, recurses := true, plainKeys := false, apart := false }
def HistoryTellsSaid : Prop := historyTellsRow.holds Try.pinned (OpenSpec.ofChange historyTellsSpec)

/-- ITS FALSE NEIGHBOUR: 'it returns false'. Refute it at one input. -/
def historyTellsWrong : ChangeSpec := { name := "historyTells", fn := fun _ => fun
  | [d1, d2, d3] => { results := [.lit (.bool false)], args := [d1, d2, d3] }
  | _ => none }
def HistoryTellsWrongFalsely : Prop := historyTellsRow.holds Try.pinned (OpenSpec.ofChange historyTellsWrong)

/-- 'archipelagolaw20.HistoryTurned': WHATEVER THE INPUT: true; the input reads as it did. -/
def historyTurnedSpec : ChangeSpec := { name := "historyTurned", fn := fun _ => fun
  | [d1, d2, d3] => { results := [.lit (.bool true)], args := [d1, d2, d3] }
  | _ => none }
def historyTurnedRow : OpenClaim := { program := "ytdngcojjipaajaa", sum := "76bf6d74e9925e8f29a045676e85e5cdfcc9e3a1446d94706005b8ddf8fb8011", func := "archipelago/archipelagolaw20.HistoryTurned", spec := "historyTurned", inPlace := ["slices.overlaps[archipelago/api.Dep]"], unfollowed := true, recurses := true, plainKeys := false, apart := false }
def HistoryTurnedSaid : Prop := historyTurnedRow.holds Try.pinned (OpenSpec.ofChange historyTurnedSpec)

/-- ITS FALSE NEIGHBOUR: 'it returns false'. Refute it at one input. -/
def historyTurnedWrong : ChangeSpec := { name := "historyTurned", fn := fun _ => fun
  | [d1, d2, d3] => { results := [.lit (.bool false)], args := [d1, d2, d3] }
  | _ => none }
def HistoryTurnedWrongFalsely : Prop := historyTurnedRow.holds Try.pinned (OpenSpec.ofChange historyTurnedWrong)

/- THE SECOND FORM. 'bulk': how many values and letters a reading holds, each counted each time it is reached (what is shared counts as often as it is met; a slice's spare places count too). A statement '..UptoSaid' is the law's where the arguments, and the package variables that the reading takes, are together of bulk at most 1048576: NARROWER than '..Said'. Prove '..Said' where nothing that the law and all that it calls make is longer than what came in: it says more and counts as full. Else prove '..UptoSaid'. A law counts once. -/
mutual
def uptoBulk {H : Type} : DataW H → Nat
  | .lit (.string bytes) => bytes.length + 1
  | .lit _ => 1
  | .nil => 1
  | .ptr d => uptoBulk d + 1
  | .slice elems spare => uptoBulkAll elems + uptoBulkAll spare + 1
  | .agg parts => uptoBulkAll parts + 1
  | .iface _ d => uptoBulk d + 1
  | .map entries => uptoBulkEntries entries + 1
  | .held _ => 1
def uptoBulkAll {H : Type} : List (DataW H) → Nat
  | [] => 0
  | d :: r => uptoBulk d + uptoBulkAll r
def uptoBulkEntries {H : Type} : List (Lit × DataW H) → Nat
  | [] => 0
  | x :: r => uptoBulkEntry x + uptoBulkEntries r
def uptoBulkEntry {H : Type} : Lit × DataW H → Nat
  | (.string bytes, d) => bytes.length + uptoBulk d + 1
  | (_, d) => uptoBulk d + 1
 end
def uptoSmall : (H : Type) → List (DataW H) → Bool := fun _ ds => decide (uptoBulkAll ds ≤ 1048576)
def OpenSpec.upto (s : _root_.Go.ChangeSpec) : _root_.Go.OpenSpec := { _root_.Go.OpenSpec.ofChange s with cond := some uptoSmall }

/-- 'archipelagolaw20.HistoryStale', WHERE WHAT IT READS IS OF BULK AT MOST 1048576: true; the input reads as it did. -/
def historyStaleUptoRow : OpenClaim := { program := "ytdngcojjipaajaa", sum := "76bf6d74e9925e8f29a045676e85e5cdfcc9e3a1446d94706005b8ddf8fb8011", func := "archipelago/archipelagolaw20.HistoryStale", spec := "historyStale", inPlace := ["slices.overlaps[archipelago/api.Dep]"], unfollowed := true, recurses := true, plainKeys := false, apart := false, narrowed := true }
def HistoryStaleUptoSaid : Prop := historyStaleUptoRow.holds Try.pinned (OpenSpec.upto historyStaleSpec)

/-- 'archipelagolaw20.HistoryWrites', WHERE WHAT IT READS IS OF BULK AT MOST 1048576: true; the input reads as it did. -/
def historyWritesUptoRow : OpenClaim := { program := "ytdngcojjipaajaa", sum := "76bf6d74e9925e8f29a045676e85e5cdfcc9e3a1446d94706005b8ddf8fb8011", func := "archipelago/archipelagolaw20.HistoryWrites", spec := "historyWrites", inPlace := ["slices.overlaps[archipelago/api.Dep]"], unfollowed := true, recurses := true, plainKeys := false, apart := false, narrowed := true }
def HistoryWritesUptoSaid : Prop := historyWritesUptoRow.holds Try.pinned (OpenSpec.upto historyWritesSpec)

/-- 'archipelagolaw20.HistoryRight', WHERE WHAT IT READS IS OF BULK AT MOST 1048576: true; the input reads as it did. -/
def historyRightUptoRow : OpenClaim := { program := "ytdngcojjipaajaa", sum := "76bf6d74e9925e8f29a045676e85e5cdfcc9e3a1446d94706005b8ddf8fb8011", func := "archipelago/archipelagolaw20.HistoryRight", spec := "historyRight", inPlace := ["slices.overlaps[archipelago/api.Dep]"], unfollowed := true, recurses := true, plainKeys := false, apart := false, narrowed := true }
def HistoryRightUptoSaid : Prop := historyRightUptoRow.holds Try.pinned (OpenSpec.upto historyRightSpec)

/-- 'archipelagolaw20.HistoryOf', WHERE WHAT IT READS IS OF BULK AT MOST 1048576: true; the input reads as it did. -/
def historyOfUptoRow : OpenClaim := { program := "ytdngcojjipaajaa", sum := "76bf6d74e9925e8f29a045676e85e5cdfcc9e3a1446d94706005b8ddf8fb8011", func := "archipelago/archipelagolaw20.HistoryOf", spec := "historyOf", inPlace := ["slices.overlaps[archipelago/api.Dep]"], unfollowed := true, recurses := true, plainKeys := false, apart := false, narrowed := true }
def HistoryOfUptoSaid : Prop := historyOfUptoRow.holds Try.pinned (OpenSpec.upto historyOfSpec)

/-- 'archipelagolaw20.HistoryTells', WHERE WHAT IT READS IS OF BULK AT MOST 1048576: true; the input reads as it did. -/
def historyTellsUptoRow : OpenClaim := { program := "ytdngcojjipaajaa", sum := "76bf6d74e9925e8f29a045676e85e5cdfcc9e3a1446d94706005b8ddf8fb8011", func := "archipelago/archipelagolaw20.HistoryTells", spec := "historyTells", inPlace := ["slices.overlaps[archipelago/api.Dep]"], unfollowed := true, recurses := true, plainKeys := false, apart := false, narrowed := true }
def HistoryTellsUptoSaid : Prop := historyTellsUptoRow.holds Try.pinned (OpenSpec.upto historyTellsSpec)

/-- 'archipelagolaw20.HistoryTurned', WHERE WHAT IT READS IS OF BULK AT MOST 1048576: true; the input reads as it did. -/
def historyTurnedUptoRow : OpenClaim := { program := "ytdngcojjipaajaa", sum := "76bf6d74e9925e8f29a045676e85e5cdfcc9e3a1446d94706005b8ddf8fb8011", func := "archipelago/archipelagolaw20.HistoryTurned", spec := "historyTurned", inPlace := ["slices.overlaps[archipelago/api.Dep]"], unfollowed := true, recurses := true, plainKeys := false, apart := false, narrowed := true }
def HistoryTurnedUptoSaid : Prop := historyTurnedUptoRow.holds Try.pinned (OpenSpec.upto historyTurnedSpec)

end Rows
end Go.Proofs.Ytdngcojjipaajaa
