/- Plain laws: versions that are made by steps, each behind those that it saw. Conditions: none but those that stand in each law. -/
import Derived.Test.YtdngcojjipaajaaPpast2
namespace Go.Ark
open Go Go.Ab Go.RowKit

def and3 (n : Int) : Int := IntKind.wrap .i64 (BitVec.ofInt (IntKind.bits .i64) n &&& BitVec.ofInt (IntKind.bits .i64) 3).toNat
end Go.Ark
