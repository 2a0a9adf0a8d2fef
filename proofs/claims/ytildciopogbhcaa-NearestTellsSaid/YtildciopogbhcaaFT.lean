/- Types, and how they lie in cells, printed by a program of mine. -/
import Derived.Test.YtildciopogbhcaaAbB
import Derived.Test.YtildciopogbhcaaAbB
import Derived.Test.YtildciopogbhcaaAbB
import Derived.Test.YtildciopogbhcaaAbB
namespace Go.Ark
open Go Go.Ab

structure Api_Stamp where
  N : Int
  Site : Int
  deriving DecidableEq

abbrev encApi_Stamp (x : Api_Stamp) : List DV := [.v (.int .i64 x.N), .v (.int .i64 x.Site)]

structure Api_Dep where
  Key : ByteArray
  Stamp : Api_Stamp
  deriving DecidableEq

abbrev encApi_Dep (x : Api_Dep) : List DV := [.v (.string x.Key), .v (.int .i64 x.Stamp.N), .v (.int .i64 x.Stamp.Site)]

structure Api_Version where
  Key : ByteArray
  Value : ByteArray
  Gone : Bool
  Stamp : Api_Stamp
  Past : (List Api_Dep)
  deriving DecidableEq

abbrev encApi_Version (x : Api_Version) : List DV := [.v (.string x.Key), .v (.string x.Value), .v (.bool x.Gone), .v (.int .i64 x.Stamp.N), .v (.int .i64 x.Stamp.Site), .sl 3 (List.map encApi_Dep x.Past)]

structure Api_Range where
  From : ByteArray
  To : ByteArray
  deriving DecidableEq

abbrev encApi_Range (x : Api_Range) : List DV := [.v (.string x.From), .v (.string x.To)]

structure Law14_Write where
  Key : Int
  Site : Int
  Saw : (List Int)
  deriving DecidableEq

abbrev encI_i64 (x : Int) : List DV := [.v (.int .i64 x)]

abbrev encLaw14_Write (x : Law14_Write) : List DV := [.v (.int .i64 x.Key), .v (.int .i64 x.Site), .sl 1 (List.map encI_i64 x.Saw)]

structure Ref14_Got where
  V : Api_Version
  L : (List Api_Version)
  Is : Bool
  deriving DecidableEq

abbrev encRef14_Got (x : Ref14_Got) : List DV := [.v (.string x.V.Key), .v (.string x.V.Value), .v (.bool x.V.Gone), .v (.int .i64 x.V.Stamp.N), .v (.int .i64 x.V.Stamp.Site), .sl 3 (List.map encApi_Dep x.V.Past), .sl 6 (List.map encApi_Version x.L), .v (.bool x.Is)]

structure Law14_Ask where
  Ranges : Int
  More : Int
  Version : Api_Version
  deriving DecidableEq

abbrev encLaw14_Ask (x : Law14_Ask) : List DV := [.v (.int .i64 x.Ranges), .v (.int .i64 x.More), .v (.string x.Version.Key), .v (.string x.Version.Value), .v (.bool x.Version.Gone), .v (.int .i64 x.Version.Stamp.N), .v (.int .i64 x.Version.Stamp.Site), .sl 3 (List.map encApi_Dep x.Version.Past)]

abbrev encL_encApi_Dep (x : (List Api_Dep)) : List DV := [.sl 3 (List.map encApi_Dep x)]

abbrev encI_u8 (x : Int) : List DV := [.v (.int .u8 x)]

abbrev encB (x : Bool) : List DV := [.v (.bool x)]

def wfApi_Stamp (x : Api_Stamp) : Prop := ((Lit.int .i64 x.N).wf = true) ∧ ((Lit.int .i64 x.Site).wf = true)

def wfApi_Dep (x : Api_Dep) : Prop := (x.Key.size ≤ reachBytes) ∧ (wfApi_Stamp x.Stamp)

def wfApi_Version (x : Api_Version) : Prop := (x.Key.size ≤ reachBytes) ∧ (x.Value.size ≤ reachBytes) ∧ (True) ∧ (wfApi_Stamp x.Stamp) ∧ (x.Past.length ≤ reachBytes ∧ ∀ y, y ∈ x.Past → wfApi_Dep y)

def wfApi_Range (x : Api_Range) : Prop := (x.From.size ≤ reachBytes) ∧ (x.To.size ≤ reachBytes)

def wfLaw14_Write (x : Law14_Write) : Prop := ((Lit.int .i64 x.Key).wf = true) ∧ ((Lit.int .i64 x.Site).wf = true) ∧ (x.Saw.length ≤ reachBytes ∧ ∀ y, y ∈ x.Saw → (Lit.int .i64 y).wf = true)

def wfRef14_Got (x : Ref14_Got) : Prop := (wfApi_Version x.V) ∧ (x.L.length ≤ reachBytes ∧ ∀ y, y ∈ x.L → wfApi_Version y) ∧ (True)

def wfLaw14_Ask (x : Law14_Ask) : Prop := ((Lit.int .i64 x.Ranges).wf = true) ∧ ((Lit.int .i64 x.More).wf = true) ∧ (wfApi_Version x.Version)

structure Api_Pin where
  ID : Int
  Deps : (List Api_Dep)
  deriving DecidableEq

abbrev encApi_Pin (x : Api_Pin) : List DV := [.v (.int .i64 x.ID), .sl 3 (List.map encApi_Dep x.Deps)]

def wfApi_Pin (x : Api_Pin) : Prop := ((Lit.int .i64 x.ID).wf = true) ∧ (x.Deps.length ≤ reachBytes ∧ ∀ y, y ∈ x.Deps → wfApi_Dep y)

structure Law04_Ask where
  Dep : Api_Dep
  Ranges : (List Api_Range)
  deriving DecidableEq

abbrev encLaw04_Ask (x : Law04_Ask) : List DV := [.v (.string x.Dep.Key), .v (.int .i64 x.Dep.Stamp.N), .v (.int .i64 x.Dep.Stamp.Site), .sl 2 (List.map encApi_Range x.Ranges)]

structure Ref01_Got where
  N : Int
  End : Int
  deriving DecidableEq

abbrev encRef01_Got (x : Ref01_Got) : List DV := [.v (.int .u64 x.N), .v (.int .i64 x.End)]

structure Ref01_GotText where
  S : ByteArray
  End : Int
  deriving DecidableEq

abbrev encRef01_GotText (x : Ref01_GotText) : List DV := [.v (.string x.S), .v (.int .i64 x.End)]

structure Ref03_Got where
  S : Api_Stamp
  End : Int
  deriving DecidableEq

abbrev encRef03_Got (x : Ref03_Got) : List DV := [.v (.int .i64 x.S.N), .v (.int .i64 x.S.Site), .v (.int .i64 x.End)]

structure Ref04_Got where
  P : (List Api_Dep)
  End : Int
  deriving DecidableEq

abbrev encRef04_Got (x : Ref04_Got) : List DV := [.sl 3 (List.map encApi_Dep x.P), .v (.int .i64 x.End)]

abbrev encI_u64 (x : Int) : List DV := [.v (.int .u64 x)]

def wfLaw04_Ask (x : Law04_Ask) : Prop := (wfApi_Dep x.Dep) ∧ (x.Ranges.length ≤ reachBytes ∧ ∀ y, y ∈ x.Ranges → wfApi_Range y)

def wfRef01_Got (x : Ref01_Got) : Prop := ((Lit.int .u64 x.N).wf = true) ∧ ((Lit.int .i64 x.End).wf = true)

def wfRef01_GotText (x : Ref01_GotText) : Prop := (x.S.size ≤ reachBytes) ∧ ((Lit.int .i64 x.End).wf = true)

def wfRef03_Got (x : Ref03_Got) : Prop := (wfApi_Stamp x.S) ∧ ((Lit.int .i64 x.End).wf = true)

def wfRef04_Got (x : Ref04_Got) : Prop := (x.P.length ≤ reachBytes ∧ ∀ y, y ∈ x.P → wfApi_Dep y) ∧ ((Lit.int .i64 x.End).wf = true)

abbrev encS (x : ByteArray) : List DV := [.v (.string x)]

structure Api_Session where
  Site : Int
  Past : (List Api_Dep)
  deriving DecidableEq

abbrev encApi_Session (x : Api_Session) : List DV := [.v (.int .i64 x.Site), .sl 3 (List.map encApi_Dep x.Past)]

structure Law15_Ask where
  Past : (List Api_Dep)
  Have : (List Api_Dep)
  Versions : (List Api_Version)
  Own : (List Api_Range)
  deriving DecidableEq

abbrev encLaw15_Ask (x : Law15_Ask) : List DV := [.sl 3 (List.map encApi_Dep x.Past), .sl 3 (List.map encApi_Dep x.Have), .sl 6 (List.map encApi_Version x.Versions), .sl 2 (List.map encApi_Range x.Own)]

def wfApi_Session (x : Api_Session) : Prop := ((Lit.int .i64 x.Site).wf = true) ∧ (x.Past.length ≤ reachBytes ∧ ∀ y, y ∈ x.Past → wfApi_Dep y)

def wfLaw15_Ask (x : Law15_Ask) : Prop := (x.Past.length ≤ reachBytes ∧ ∀ y, y ∈ x.Past → wfApi_Dep y) ∧ (x.Have.length ≤ reachBytes ∧ ∀ y, y ∈ x.Have → wfApi_Dep y) ∧ (x.Versions.length ≤ reachBytes ∧ ∀ y, y ∈ x.Versions → wfApi_Version y) ∧ (x.Own.length ≤ reachBytes ∧ ∀ y, y ∈ x.Own → wfApi_Range y)

structure Law05_Write where
  Key : Int
  Site : Int
  Saw : (List Int)
  deriving DecidableEq

abbrev encLaw05_Write (x : Law05_Write) : List DV := [.v (.int .i64 x.Key), .v (.int .i64 x.Site), .sl 1 (List.map encI_i64 x.Saw)]

structure Law05_Change where
  What : Int
  At : Int
  All : Bool
  Dep : Api_Dep
  deriving DecidableEq

abbrev encLaw05_Change (x : Law05_Change) : List DV := [.v (.int .i64 x.What), .v (.int .i64 x.At), .v (.bool x.All), .v (.string x.Dep.Key), .v (.int .i64 x.Dep.Stamp.N), .v (.int .i64 x.Dep.Stamp.Site)]

def wfLaw05_Write (x : Law05_Write) : Prop := ((Lit.int .i64 x.Key).wf = true) ∧ ((Lit.int .i64 x.Site).wf = true) ∧ (x.Saw.length ≤ reachBytes ∧ ∀ y, y ∈ x.Saw → (Lit.int .i64 y).wf = true)

def wfLaw05_Change (x : Law05_Change) : Prop := ((Lit.int .i64 x.What).wf = true) ∧ ((Lit.int .i64 x.At).wf = true) ∧ (True) ∧ (wfApi_Dep x.Dep)

structure Wire_reader where
  s : ByteArray
  at_ : Int
  bad : Bool
  deriving DecidableEq

abbrev encWire_reader (x : Wire_reader) : List DV := [.v (.string x.s), .v (.int .i64 x.at_), .v (.bool x.bad)]

structure Law06_Spec where
  Ends : (List Int)
  Owners : (List Int)
  Parents : (List Int)
  deriving DecidableEq

abbrev encLaw06_Spec (x : Law06_Spec) : List DV := [.sl 1 (List.map encI_i64 x.Ends), .sl 1 (List.map encI_i64 x.Owners), .sl 1 (List.map encI_i64 x.Parents)]

structure Api_Row where
  Ranges : (List Api_Range)
  Owners : (List Int)
  Parents : (List Int)
  deriving DecidableEq

abbrev encApi_Row (x : Api_Row) : List DV := [.sl 2 (List.map encApi_Range x.Ranges), .sl 1 (List.map encI_i64 x.Owners), .sl 1 (List.map encI_i64 x.Parents)]

def wfWire_reader (x : Wire_reader) : Prop := (x.s.size ≤ reachBytes) ∧ ((Lit.int .i64 x.at_).wf = true) ∧ (True)

def wfLaw06_Spec (x : Law06_Spec) : Prop := (x.Ends.length ≤ reachBytes ∧ ∀ y, y ∈ x.Ends → (Lit.int .i64 y).wf = true) ∧ (x.Owners.length ≤ reachBytes ∧ ∀ y, y ∈ x.Owners → (Lit.int .i64 y).wf = true) ∧ (x.Parents.length ≤ reachBytes ∧ ∀ y, y ∈ x.Parents → (Lit.int .i64 y).wf = true)

def wfApi_Row (x : Api_Row) : Prop := (x.Ranges.length ≤ reachBytes ∧ ∀ y, y ∈ x.Ranges → wfApi_Range y) ∧ (x.Owners.length ≤ reachBytes ∧ ∀ y, y ∈ x.Owners → (Lit.int .i64 y).wf = true) ∧ (x.Parents.length ≤ reachBytes ∧ ∀ y, y ∈ x.Parents → (Lit.int .i64 y).wf = true)
end Go.Ark
