/- Types, and how they lie in cells, printed by a program of mine. -/
import Derived.Test.YtjidbmelmcmmhabAbB
import Derived.Test.YtjidbmelmcmmhabAbB
import Derived.Test.YtjidbmelmcmmhabAbB
import Derived.Test.YtjidbmelmcmmhabAbB
import Derived.Test.YtjidbmelmcmmhabAbB
import Derived.Test.YtjidbmelmcmmhabAbB
import Derived.Test.YtjidbmelmcmmhabAbB
import Derived.Test.YtjidbmelmcmmhabAbB
import Derived.Test.YtjidbmelmcmmhabAbB
import Derived.Test.YtjidbmelmcmmhabAbB
import Derived.Test.YtjidbmelmcmmhabAbB
import Derived.Test.YtjidbmelmcmmhabAbB
import Derived.Test.YtjidbmelmcmmhabAbB
import Derived.Test.YtjidbmelmcmmhabAbB
import Derived.Test.YtjidbmelmcmmhabAbB
namespace Go.Ark
open Go Go.Ab

abbrev vI (n : Int) : DV := .v (.int .i64 n)
abbrev vS (s : ByteArray) : DV := .v (.string s)
abbrev vB (b : Bool) : DV := .v (.bool b)
abbrev oI (n : Int) : SV := .one (bI .i64 n)
abbrev oS (s : ByteArray) : SV := .one (bS s)
abbrev oB (b : Bool) : SV := .one (bB b)

structure Wire_reader where
  s : ByteArray
  at_ : Int
  bad : Bool
  deriving DecidableEq

abbrev encWire_reader (x : Wire_reader) : List DV := [.v (.string x.s), .v (.int .i64 x.at_), .v (.bool x.bad)]

structure Api_Stamp where
  N : Int
  Site : Int
  deriving DecidableEq

abbrev encApi_Stamp (x : Api_Stamp) : List DV := [.v (.int .i64 x.N), .v (.int .i64 x.Site)]

structure Api_Dep where
  Key : ByteArray
  Stamp : Api_Stamp
  deriving DecidableEq

abbrev encApi_Dep (x : Api_Dep) : List DV := [.v (.string x.Key), .v (.int .i64 x.Stamp.N), .v (.int .i64 x.Stamp.Site)]

structure Api_Version where
  Key : ByteArray
  Value : ByteArray
  Gone : Bool
  Stamp : Api_Stamp
  Past : (List Api_Dep)
  deriving DecidableEq

abbrev encApi_Version (x : Api_Version) : List DV := [.v (.string x.Key), .v (.string x.Value), .v (.bool x.Gone), .v (.int .i64 x.Stamp.N), .v (.int .i64 x.Stamp.Site), .sl 3 (List.map encApi_Dep x.Past)]

structure Ref01_Got where
  N : Int
  End : Int
  deriving DecidableEq

abbrev encRef01_Got (x : Ref01_Got) : List DV := [.v (.int .u64 x.N), .v (.int .i64 x.End)]

structure Ref01_GotText where
  S : ByteArray
  End : Int
  deriving DecidableEq

abbrev encRef01_GotText (x : Ref01_GotText) : List DV := [.v (.string x.S), .v (.int .i64 x.End)]

structure Ref03_Got where
  S : Api_Stamp
  End : Int
  deriving DecidableEq

structure Ref04_Got where
  P : (List Api_Dep)
  End : Int
  deriving DecidableEq

structure Law06_Spec where
  Ends : (List Int)
  Owners : (List Int)
  Parents : (List Int)
  deriving DecidableEq

abbrev encI_i64 (x : Int) : List DV := [.v (.int .i64 x)]

abbrev encLaw06_Spec (x : Law06_Spec) : List DV := [.sl 1 (List.map encI_i64 x.Ends), .sl 1 (List.map encI_i64 x.Owners), .sl 1 (List.map encI_i64 x.Parents)]

structure Api_Range where
  From : ByteArray
  To : ByteArray
  deriving DecidableEq

abbrev encApi_Range (x : Api_Range) : List DV := [.v (.string x.From), .v (.string x.To)]

structure Api_Row where
  Ranges : (List Api_Range)
  Owners : (List Int)
  Parents : (List Int)
  deriving DecidableEq

abbrev encApi_Row (x : Api_Row) : List DV := [.sl 2 (List.map encApi_Range x.Ranges), .sl 1 (List.map encI_i64 x.Owners), .sl 1 (List.map encI_i64 x.Parents)]

abbrev encI_u64 (x : Int) : List DV := [.v (.int .u64 x)]

abbrev encS (x : ByteArray) : List DV := [.v (.string x)]

abbrev encI_u8 (x : Int) : List DV := [.v (.int .u8 x)]

def wfLaw06_Spec (x : Law06_Spec) : Prop := (x.Ends.length ≤ reachBytes ∧ ∀ y, y ∈ x.Ends → (Lit.int .i64 y).wf = true) ∧ (x.Owners.length ≤ reachBytes ∧ ∀ y, y ∈ x.Owners → (Lit.int .i64 y).wf = true) ∧ (x.Parents.length ≤ reachBytes ∧ ∀ y, y ∈ x.Parents → (Lit.int .i64 y).wf = true)

structure Api_Event where
  Kind : Int
  Client : Int
  Key : ByteArray
  Stamp : Api_Stamp
  Seen : (List Api_Dep)
  deriving DecidableEq

structure Law20_Act where
  Write : Bool
  Client : Int
  Key : Int
  Which : Int
  deriving DecidableEq

structure Law20_Change where
  At : Int
  What : Int
  To : Int
  Dep : Api_Dep
  deriving DecidableEq

end Go.Ark
