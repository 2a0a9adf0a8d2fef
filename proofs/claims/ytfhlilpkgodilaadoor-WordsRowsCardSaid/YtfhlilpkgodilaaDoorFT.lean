/- Types, and how they lie in cells, printed by a program of mine. -/
import Derived.Test.YtfhlilpkgodilaaDoorAbB
import Derived.Test.YtfhlilpkgodilaaDoorAbB
import Derived.Test.YtfhlilpkgodilaaDoorAbB
import Derived.Test.YtfhlilpkgodilaaDoorAbB
import Derived.Test.YtfhlilpkgodilaaDoorAbB
import Derived.Test.YtfhlilpkgodilaaDoorAbB
import Derived.Test.YtfhlilpkgodilaaDoorAbB
import Derived.Test.YtfhlilpkgodilaaDoorAbB
import Derived.Test.YtfhlilpkgodilaaDoorAbB
import Derived.Test.YtfhlilpkgodilaaDoorAbB
import Derived.Test.YtfhlilpkgodilaaDoorAbB
import Derived.Test.YtfhlilpkgodilaaDoorAbB
import Derived.Test.YtfhlilpkgodilaaDoorAbB
import Derived.Test.YtfhlilpkgodilaaDoorAbB
import Derived.Test.YtfhlilpkgodilaaDoorAbB
import Derived.Test.YtfhlilpkgodilaaDoorAbB
import Derived.Test.YtfhlilpkgodilaaDoorAbB
import Derived.Test.YtfhlilpkgodilaaDoorAbB
namespace Go.Ark
open Go Go.Ab

structure Wire_reader where
  s : ByteArray
  at_ : Int
  bad : Bool
  deriving DecidableEq

structure Api_Stamp where
  N : Int
  Site : Int
  deriving DecidableEq

structure Api_Dep where
  Key : ByteArray
  Stamp : Api_Stamp
  deriving DecidableEq

structure Api_Version where
  Key : ByteArray
  Value : ByteArray
  Gone : Bool
  Stamp : Api_Stamp
  Past : (List Api_Dep)
  deriving DecidableEq

structure Ref01_Got where
  N : Int
  End : Int
  deriving DecidableEq

structure Ref01_GotText where
  S : ByteArray
  End : Int
  deriving DecidableEq

structure Ref03_Got where
  S : Api_Stamp
  End : Int
  deriving DecidableEq

structure Ref04_Got where
  P : (List Api_Dep)
  End : Int
  deriving DecidableEq

structure Law06_Spec where
  Ends : (List Int)
  Owners : (List Int)
  Parents : (List Int)
  deriving DecidableEq

abbrev encI_i64 (x : Int) : List DV := [.v (.int .i64 x)]

structure Api_Range where
  From : ByteArray
  To : ByteArray
  deriving DecidableEq

abbrev encApi_Range (x : Api_Range) : List DV := [.v (.string x.From), .v (.string x.To)]

structure Api_Row where
  Ranges : (List Api_Range)
  Owners : (List Int)
  Parents : (List Int)
  deriving DecidableEq

abbrev encApi_Row (x : Api_Row) : List DV := [.sl 2 (List.map encApi_Range x.Ranges), .sl 1 (List.map encI_i64 x.Owners), .sl 1 (List.map encI_i64 x.Parents)]

abbrev encI_u64 (x : Int) : List DV := [.v (.int .u64 x)]

abbrev encS (x : ByteArray) : List DV := [.v (.string x)]

abbrev encI_u8 (x : Int) : List DV := [.v (.int .u8 x)]

structure Api_Event where
  Kind : Int
  Client : Int
  Key : ByteArray
  Stamp : Api_Stamp
  Seen : (List Api_Dep)
  deriving DecidableEq

structure Law20_Act where
  Write : Bool
  Client : Int
  Key : Int
  Which : Int
  deriving DecidableEq

structure Law20_Change where
  At : Int
  What : Int
  To : Int
  Dep : Api_Dep
  deriving DecidableEq

structure Words_reader where
  words : (List ByteArray)
  bad : Bool
  deriving DecidableEq

abbrev encWords_reader (x : Words_reader) : List DV := [.sl 1 (List.map encS x.words), .v (.bool x.bad)]

structure Api_Op where
  Kind : Int
  Client : Int
  Site : Int
  To : Int
  At : Int
  How : Int
  Key : ByteArray
  Value : ByteArray
  Keys : (List ByteArray)
  Row : Api_Row
  deriving DecidableEq

abbrev encApi_Op (x : Api_Op) : List DV := [.v (.int .i64 x.Kind), .v (.int .i64 x.Client), .v (.int .i64 x.Site), .v (.int .i64 x.To), .v (.int .i64 x.At), .v (.int .i64 x.How), .v (.string x.Key), .v (.string x.Value), .sl 1 (List.map encS x.Keys), .sl 2 (List.map encApi_Range x.Row.Ranges), .sl 1 (List.map encI_i64 x.Row.Owners), .sl 1 (List.map encI_i64 x.Row.Parents)]

structure Ref24_Got where
  S : ByteArray
  N : Int
  deriving DecidableEq

structure Ref24_Step where
  O : Api_Op
  Is : Bool
  deriving DecidableEq

end Go.Ark
