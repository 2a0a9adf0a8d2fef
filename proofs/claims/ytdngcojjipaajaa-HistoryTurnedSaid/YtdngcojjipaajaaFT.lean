/- Types, and how they lie in cells, printed by a program of mine. -/
import Derived.Test.YtdngcojjipaajaaAbB
import Derived.Test.YtdngcojjipaajaaAbB
import Derived.Test.YtdngcojjipaajaaAbB
import Derived.Test.YtdngcojjipaajaaAbB
import Derived.Test.YtdngcojjipaajaaAbB
import Derived.Test.YtdngcojjipaajaaAbB
import Derived.Test.YtdngcojjipaajaaAbB
import Derived.Test.YtdngcojjipaajaaAbB
import Derived.Test.YtdngcojjipaajaaAbB
import Derived.Test.YtdngcojjipaajaaAbB
import Derived.Test.YtdngcojjipaajaaAbB
import Derived.Test.YtdngcojjipaajaaAbB
import Derived.Test.YtdngcojjipaajaaAbB
import Derived.Test.YtdngcojjipaajaaAbB
import Derived.Test.YtdngcojjipaajaaAbB
import Derived.Test.YtdngcojjipaajaaAbB
import Derived.Test.YtdngcojjipaajaaAbB
import Derived.Test.YtdngcojjipaajaaAbB
import Derived.Test.YtdngcojjipaajaaAbB
import Derived.Test.YtdngcojjipaajaaAbB
namespace Go.Ark
open Go Go.Ab

abbrev vI (n : Int) : DV := .v (.int .i64 n)
abbrev vS (s : ByteArray) : DV := .v (.string s)
abbrev vB (b : Bool) : DV := .v (.bool b)
abbrev oI (n : Int) : SV := .one (bI .i64 n)
abbrev oS (s : ByteArray) : SV := .one (bS s)
abbrev oB (b : Bool) : SV := .one (bB b)

structure Wire_reader where
  s : ByteArray
  at_ : Int
  bad : Bool
  deriving DecidableEq

structure Api_Stamp where
  N : Int
  Site : Int
  deriving DecidableEq

abbrev encApi_Stamp (x : Api_Stamp) : List DV := [.v (.int .i64 x.N), .v (.int .i64 x.Site)]

structure Api_Dep where
  Key : ByteArray
  Stamp : Api_Stamp
  deriving DecidableEq

abbrev encApi_Dep (x : Api_Dep) : List DV := [.v (.string x.Key), .v (.int .i64 x.Stamp.N), .v (.int .i64 x.Stamp.Site)]

structure Api_Version where
  Key : ByteArray
  Value : ByteArray
  Gone : Bool
  Stamp : Api_Stamp
  Past : (List Api_Dep)
  deriving DecidableEq

structure Ref01_Got where
  N : Int
  End : Int
  deriving DecidableEq

structure Ref01_GotText where
  S : ByteArray
  End : Int
  deriving DecidableEq

structure Ref03_Got where
  S : Api_Stamp
  End : Int
  deriving DecidableEq

structure Ref04_Got where
  P : (List Api_Dep)
  End : Int
  deriving DecidableEq

structure Law06_Spec where
  Ends : (List Int)
  Owners : (List Int)
  Parents : (List Int)
  deriving DecidableEq

abbrev encI_i64 (x : Int) : List DV := [.v (.int .i64 x)]

structure Api_Range where
  From : ByteArray
  To : ByteArray
  deriving DecidableEq

structure Api_Row where
  Ranges : (List Api_Range)
  Owners : (List Int)
  Parents : (List Int)
  deriving DecidableEq

abbrev encS (x : ByteArray) : List DV := [.v (.string x)]

def wfApi_Stamp (x : Api_Stamp) : Prop := ((Lit.int .i64 x.N).wf = true) ∧ ((Lit.int .i64 x.Site).wf = true)

def wfApi_Dep (x : Api_Dep) : Prop := (x.Key.size ≤ reachBytes) ∧ (wfApi_Stamp x.Stamp)

structure Api_Event where
  Kind : Int
  Client : Int
  Key : ByteArray
  Stamp : Api_Stamp
  Seen : (List Api_Dep)
  deriving DecidableEq

abbrev encApi_Event (x : Api_Event) : List DV := [.v (.int .i64 x.Kind), .v (.int .i64 x.Client), .v (.string x.Key), .v (.int .i64 x.Stamp.N), .v (.int .i64 x.Stamp.Site), .sl 3 (List.map encApi_Dep x.Seen)]

structure Law20_Act where
  Write : Bool
  Client : Int
  Key : Int
  Which : Int
  deriving DecidableEq

abbrev encLaw20_Act (x : Law20_Act) : List DV := [.v (.bool x.Write), .v (.int .i64 x.Client), .v (.int .i64 x.Key), .v (.int .i64 x.Which)]

structure Law20_Change where
  At : Int
  What : Int
  To : Int
  Dep : Api_Dep
  deriving DecidableEq

abbrev encLaw20_Change (x : Law20_Change) : List DV := [.v (.int .i64 x.At), .v (.int .i64 x.What), .v (.int .i64 x.To), .v (.string x.Dep.Key), .v (.int .i64 x.Dep.Stamp.N), .v (.int .i64 x.Dep.Stamp.Site)]

abbrev encL_encApi_Dep (x : (List Api_Dep)) : List DV := [.sl 3 (List.map encApi_Dep x)]

def wfLaw20_Act (x : Law20_Act) : Prop := (True) ∧ ((Lit.int .i64 x.Client).wf = true) ∧ ((Lit.int .i64 x.Key).wf = true) ∧ ((Lit.int .i64 x.Which).wf = true)

def wfLaw20_Change (x : Law20_Change) : Prop := ((Lit.int .i64 x.At).wf = true) ∧ ((Lit.int .i64 x.What).wf = true) ∧ ((Lit.int .i64 x.To).wf = true) ∧ (wfApi_Dep x.Dep)
end Go.Ark
