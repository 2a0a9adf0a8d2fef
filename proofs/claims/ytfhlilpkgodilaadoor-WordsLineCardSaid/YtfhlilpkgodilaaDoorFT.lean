/- Types, and how they lie in cells, printed by a program of mine. -/
import Derived.Test.YtfhlilpkgodilaaDoorAbB
import Derived.Test.YtfhlilpkgodilaaDoorAbB
import Derived.Test.YtfhlilpkgodilaaDoorAbB
import Derived.Test.YtfhlilpkgodilaaDoorAbB
import Derived.Test.YtfhlilpkgodilaaDoorAbB
import Derived.Test.YtfhlilpkgodilaaDoorAbB
import Derived.Test.YtfhlilpkgodilaaDoorAbB
import Derived.Test.YtfhlilpkgodilaaDoorAbB
import Derived.Test.YtfhlilpkgodilaaDoorAbB
import Derived.Test.YtfhlilpkgodilaaDoorAbB
import Derived.Test.YtfhlilpkgodilaaDoorAbB
import Derived.Test.YtfhlilpkgodilaaDoorAbB
import Derived.Test.YtfhlilpkgodilaaDoorAbB
import Derived.Test.YtfhlilpkgodilaaDoorAbB
import Derived.Test.YtfhlilpkgodilaaDoorAbB
import Derived.Test.YtfhlilpkgodilaaDoorAbB
import Derived.Test.YtfhlilpkgodilaaDoorAbB
import Derived.Test.YtfhlilpkgodilaaDoorAbB
namespace Go.Ark
open Go Go.Ab

structure Words_reader where
  words : (List ByteArray)
  bad : Bool
  deriving DecidableEq

abbrev encS (x : ByteArray) : List DV := [.v (.string x)]

abbrev encWords_reader (x : Words_reader) : List DV := [.sl 1 (List.map encS x.words), .v (.bool x.bad)]

structure Api_Range where
  From : ByteArray
  To : ByteArray
  deriving DecidableEq

abbrev encApi_Range (x : Api_Range) : List DV := [.v (.string x.From), .v (.string x.To)]

structure Api_Row where
  Ranges : (List Api_Range)
  Owners : (List Int)
  Parents : (List Int)
  deriving DecidableEq

abbrev encI_i64 (x : Int) : List DV := [.v (.int .i64 x)]

abbrev encApi_Row (x : Api_Row) : List DV := [.sl 2 (List.map encApi_Range x.Ranges), .sl 1 (List.map encI_i64 x.Owners), .sl 1 (List.map encI_i64 x.Parents)]

structure Api_Op where
  Kind : Int
  Client : Int
  Site : Int
  To : Int
  At : Int
  How : Int
  Key : ByteArray
  Value : ByteArray
  Keys : (List ByteArray)
  Row : Api_Row
  deriving DecidableEq

abbrev encApi_Op (x : Api_Op) : List DV := [.v (.int .i64 x.Kind), .v (.int .i64 x.Client), .v (.int .i64 x.Site), .v (.int .i64 x.To), .v (.int .i64 x.At), .v (.int .i64 x.How), .v (.string x.Key), .v (.string x.Value), .sl 1 (List.map encS x.Keys), .sl 2 (List.map encApi_Range x.Row.Ranges), .sl 1 (List.map encI_i64 x.Row.Owners), .sl 1 (List.map encI_i64 x.Row.Parents)]

abbrev encI_u8 (x : Int) : List DV := [.v (.int .u8 x)]

abbrev encI_u64 (x : Int) : List DV := [.v (.int .u64 x)]

structure Ref24_Got where
  S : ByteArray
  N : Int
  deriving DecidableEq

structure Ref24_Step where
  O : Api_Op
  Is : Bool
  deriving DecidableEq

end Go.Ark
