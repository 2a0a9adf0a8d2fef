import Derived.Test.YtfhlilpkgodilaaGreatDoorPvary
/- Plain laws: numbers and texts read out of bytes. Conditions: none but those that stand in each law. -/
namespace Go.Ark
open Go Go.Ab Go.RowKit

theorem ofNat_toNat {c : Nat} (h : c < 256) : (UInt8.ofNat c).toNat = c := by
  rw [UInt8.toNat_ofNat']
  exact Nat.mod_eq_of_lt h
/-! the program reads so -/
end Go.Ark
