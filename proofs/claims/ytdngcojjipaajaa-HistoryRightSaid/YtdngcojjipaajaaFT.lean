/- Types, and how they lie in cells, printed by a program of mine. -/
import Derived.Test.YtdngcojjipaajaaAbB
import Derived.Test.YtdngcojjipaajaaAbB
namespace Go.Ark
open Go Go.Ab

structure Wire_reader where
  s : ByteArray
  at_ : Int
  bad : Bool
  deriving DecidableEq

abbrev encWire_reader (x : Wire_reader) : List DV := [.v (.string x.s), .v (.int .i64 x.at_), .v (.bool x.bad)]

structure Api_Stamp where
  N : Int
  Site : Int
  deriving DecidableEq

abbrev encApi_Stamp (x : Api_Stamp) : List DV := [.v (.int .i64 x.N), .v (.int .i64 x.Site)]

structure Api_Dep where
  Key : ByteArray
  Stamp : Api_Stamp
  deriving DecidableEq

abbrev encApi_Dep (x : Api_Dep) : List DV := [.v (.string x.Key), .v (.int .i64 x.Stamp.N), .v (.int .i64 x.Stamp.Site)]

structure Api_Version where
  Key : ByteArray
  Value : ByteArray
  Gone : Bool
  Stamp : Api_Stamp
  Past : (List Api_Dep)
  deriving DecidableEq

abbrev encApi_Version (x : Api_Version) : List DV := [.v (.string x.Key), .v (.string x.Value), .v (.bool x.Gone), .v (.int .i64 x.Stamp.N), .v (.int .i64 x.Stamp.Site), .sl 3 (List.map encApi_Dep x.Past)]

structure Ref01_Got where
  N : Int
  End : Int
  deriving DecidableEq

abbrev encRef01_Got (x : Ref01_Got) : List DV := [.v (.int .u64 x.N), .v (.int .i64 x.End)]

structure Ref01_GotText where
  S : ByteArray
  End : Int
  deriving DecidableEq

abbrev encRef01_GotText (x : Ref01_GotText) : List DV := [.v (.string x.S), .v (.int .i64 x.End)]

structure Ref03_Got where
  S : Api_Stamp
  End : Int
  deriving DecidableEq

abbrev encRef03_Got (x : Ref03_Got) : List DV := [.v (.int .i64 x.S.N), .v (.int .i64 x.S.Site), .v (.int .i64 x.End)]

structure Ref04_Got where
  P : (List Api_Dep)
  End : Int
  deriving DecidableEq

abbrev encRef04_Got (x : Ref04_Got) : List DV := [.sl 3 (List.map encApi_Dep x.P), .v (.int .i64 x.End)]

structure Law06_Spec where
  Ends : (List Int)
  Owners : (List Int)
  Parents : (List Int)
  deriving DecidableEq

abbrev encI_i64 (x : Int) : List DV := [.v (.int .i64 x)]

abbrev encLaw06_Spec (x : Law06_Spec) : List DV := [.sl 1 (List.map encI_i64 x.Ends), .sl 1 (List.map encI_i64 x.Owners), .sl 1 (List.map encI_i64 x.Parents)]

structure Api_Range where
  From : ByteArray
  To : ByteArray
  deriving DecidableEq

abbrev encApi_Range (x : Api_Range) : List DV := [.v (.string x.From), .v (.string x.To)]

structure Api_Row where
  Ranges : (List Api_Range)
  Owners : (List Int)
  Parents : (List Int)
  deriving DecidableEq

abbrev encApi_Row (x : Api_Row) : List DV := [.sl 2 (List.map encApi_Range x.Ranges), .sl 1 (List.map encI_i64 x.Owners), .sl 1 (List.map encI_i64 x.Parents)]

abbrev encI_u64 (x : Int) : List DV := [.v (.int .u64 x)]

abbrev encS (x : ByteArray) : List DV := [.v (.string x)]

abbrev encI_u8 (x : Int) : List DV := [.v (.int .u8 x)]

def wfWire_reader (x : Wire_reader) : Prop := (x.s.size ≤ reachBytes) ∧ ((Lit.int .i64 x.at_).wf = true) ∧ (True)

def wfApi_Stamp (x : Api_Stamp) : Prop := ((Lit.int .i64 x.N).wf = true) ∧ ((Lit.int .i64 x.Site).wf = true)

def wfApi_Dep (x : Api_Dep) : Prop := (x.Key.size ≤ reachBytes) ∧ (wfApi_Stamp x.Stamp)

def wfApi_Version (x : Api_Version) : Prop := (x.Key.size ≤ reachBytes) ∧ (x.Value.size ≤ reachBytes) ∧ (True) ∧ (wfApi_Stamp x.Stamp) ∧ (x.Past.length ≤ reachBytes ∧ ∀ y, y ∈ x.Past → wfApi_Dep y)

def wfRef01_Got (x : Ref01_Got) : Prop := ((Lit.int .u64 x.N).wf = true) ∧ ((Lit.int .i64 x.End).wf = true)

def wfRef01_GotText (x : Ref01_GotText) : Prop := (x.S.size ≤ reachBytes) ∧ ((Lit.int .i64 x.End).wf = true)

def wfRef03_Got (x : Ref03_Got) : Prop := (wfApi_Stamp x.S) ∧ ((Lit.int .i64 x.End).wf = true)

def wfRef04_Got (x : Ref04_Got) : Prop := (x.P.length ≤ reachBytes ∧ ∀ y, y ∈ x.P → wfApi_Dep y) ∧ ((Lit.int .i64 x.End).wf = true)

def wfLaw06_Spec (x : Law06_Spec) : Prop := (x.Ends.length ≤ reachBytes ∧ ∀ y, y ∈ x.Ends → (Lit.int .i64 y).wf = true) ∧ (x.Owners.length ≤ reachBytes ∧ ∀ y, y ∈ x.Owners → (Lit.int .i64 y).wf = true) ∧ (x.Parents.length ≤ reachBytes ∧ ∀ y, y ∈ x.Parents → (Lit.int .i64 y).wf = true)

def wfApi_Range (x : Api_Range) : Prop := (x.From.size ≤ reachBytes) ∧ (x.To.size ≤ reachBytes)

def wfApi_Row (x : Api_Row) : Prop := (x.Ranges.length ≤ reachBytes ∧ ∀ y, y ∈ x.Ranges → wfApi_Range y) ∧ (x.Owners.length ≤ reachBytes ∧ ∀ y, y ∈ x.Owners → (Lit.int .i64 y).wf = true) ∧ (x.Parents.length ≤ reachBytes ∧ ∀ y, y ∈ x.Parents → (Lit.int .i64 y).wf = true)

structure Api_Event where
  Kind : Int
  Client : Int
  Key : ByteArray
  Stamp : Api_Stamp
  Seen : (List Api_Dep)
  deriving DecidableEq

abbrev encApi_Event (x : Api_Event) : List DV := [.v (.int .i64 x.Kind), .v (.int .i64 x.Client), .v (.string x.Key), .v (.int .i64 x.Stamp.N), .v (.int .i64 x.Stamp.Site), .sl 3 (List.map encApi_Dep x.Seen)]

structure Law20_Act where
  Write : Bool
  Client : Int
  Key : Int
  Which : Int
  deriving DecidableEq

abbrev encLaw20_Act (x : Law20_Act) : List DV := [.v (.bool x.Write), .v (.int .i64 x.Client), .v (.int .i64 x.Key), .v (.int .i64 x.Which)]

structure Law20_Change where
  At : Int
  What : Int
  To : Int
  Dep : Api_Dep
  deriving DecidableEq

abbrev encLaw20_Change (x : Law20_Change) : List DV := [.v (.int .i64 x.At), .v (.int .i64 x.What), .v (.int .i64 x.To), .v (.string x.Dep.Key), .v (.int .i64 x.Dep.Stamp.N), .v (.int .i64 x.Dep.Stamp.Site)]

abbrev encL_encS (x : (List ByteArray)) : List DV := [.sl 1 (List.map encS x)]

abbrev encL_encApi_Dep (x : (List Api_Dep)) : List DV := [.sl 3 (List.map encApi_Dep x)]

abbrev encL_encApi_Event (x : (List Api_Event)) : List DV := [.sl 6 (List.map encApi_Event x)]

def wfApi_Event (x : Api_Event) : Prop := ((Lit.int .i64 x.Kind).wf = true) ∧ ((Lit.int .i64 x.Client).wf = true) ∧ (x.Key.size ≤ reachBytes) ∧ (wfApi_Stamp x.Stamp) ∧ (x.Seen.length ≤ reachBytes ∧ ∀ y, y ∈ x.Seen → wfApi_Dep y)

def wfLaw20_Act (x : Law20_Act) : Prop := (True) ∧ ((Lit.int .i64 x.Client).wf = true) ∧ ((Lit.int .i64 x.Key).wf = true) ∧ ((Lit.int .i64 x.Which).wf = true)

def wfLaw20_Change (x : Law20_Change) : Prop := ((Lit.int .i64 x.At).wf = true) ∧ ((Lit.int .i64 x.What).wf = true) ∧ ((Lit.int .i64 x.To).wf = true) ∧ (wfApi_Dep x.Dep)
end Go.Ark
