/- Walks, printed by a program of mine: each function of the program computes the typed function of its name. Conditions: none. -/
import Derived.Test.YtfhlilpkgodilaaGreatDoorFA
import Derived.Test.YtfhlilpkgodilaaGreatDoorProg
import Derived.KernelRfl
import Derived.Shelf.RegionOpenPlain
import Derived.Lib.Walk
import Derived.Lib.Strings
import Derived.Laws.IdiomCopy
import Derived.Ground.NamesProg
import Derived.Shelf.Strings.SplitShaped
import Derived.Shelf.Strings.SlTrimAscii
import Derived.Shelf.Small.Strs
import Derived.Shelf.Unicode.ValidAny
import Derived.Test.YtfhlilpkgodilaaGreatDoorAbB
namespace Go.Ark
open Go Go.Ab Go.RowKit Go.Lib Go.Proofs Go.Shelf



set_option maxRecDepth 20000
set_option maxHeartbeats 2000000

theorem follows : Tryz.prog.follows .mixedOrders = true := by kernel_rfl

def Tryz.lays137_ren : Go.Shelf.Ren := ⟨fun | 137 => 84 | 217 => 104 | 266 => 117 | n => n, fun | 9 => 9 | 5 => 5 | 3 => 3 | n => n, fun | n => n⟩
theorem Tryz.lays137 : Go.Proofs.Lays.n137 Tryz.prog Tryz.lays137_ren := {
  mixed := by kernel_rfl
  f137 := Tryz.func84.trans (congrArg some (by kernel_rfl))
  f217 := Tryz.func104.trans (congrArg some (by kernel_rfl))
  f266 := Tryz.func117.trans (congrArg some (by kernel_rfl))
  t3 := Tryz.underlying3
  a3 := Tryz.isAgg3
  z3 := Tryz.sizeOf3
  v3 := Tryz.zeroValue3
  t5 := Tryz.underlying5
  a5 := Tryz.isAgg5
  z5 := Tryz.sizeOf5
  v5 := Tryz.zeroValue5
  t9 := Tryz.underlying9
  a9 := Tryz.isAgg9
  z9 := Tryz.sizeOf9
  v9 := Tryz.zeroValue9 }

def Tryz.lays161_ren : Go.Shelf.Ren := ⟨fun | 161 => 50 | 231 => 79 | 227 => 80 | 233 => 81 | 235 => 82 | 228 => 101 | 197 => 98 | 151 => 102 | 260 => 112 | 152 => 116 | 137 => 84 | 119 => 124 | 224 => 114 | 225 => 113 | 217 => 104 | 266 => 117 | n => n, fun | 9 => 9 | 4 => 4 | 3 => 3 | 5 => 5 | 117 => 109 | 116 => 108 | 0 => 0 | 124 => 112 | 105 => 120 | 21 => 21 | 119 => 124 | 46 => 128 | 139 => 127 | 138 => 126 | n => n, fun | 3 => 0 | 4 => 1 | n => n⟩
theorem Tryz.lays161 : Go.Proofs.Lays.n161 Tryz.prog Tryz.lays161_ren := {
  mixed := by kernel_rfl
  f119 := Tryz.func124.trans (congrArg some (by kernel_rfl))
  f137 := Tryz.func84.trans (congrArg some (by kernel_rfl))
  f151 := Tryz.func102.trans (congrArg some (by kernel_rfl))
  f152 := Tryz.func116.trans (congrArg some (by kernel_rfl))
  f161 := Tryz.func50.trans (congrArg some (by kernel_rfl))
  f197 := Tryz.func98.trans (congrArg some (by kernel_rfl))
  f217 := Tryz.func104.trans (congrArg some (by kernel_rfl))
  f224 := Tryz.func114.trans (congrArg some (by kernel_rfl))
  f225 := Tryz.func113.trans (congrArg some (by kernel_rfl))
  f227 := Tryz.func80.trans (congrArg some (by kernel_rfl))
  f228 := Tryz.func101.trans (congrArg some (by kernel_rfl))
  f231 := Tryz.func79.trans (congrArg some (by kernel_rfl))
  f233 := Tryz.func81.trans (congrArg some (by kernel_rfl))
  f235 := Tryz.func82.trans (congrArg some (by kernel_rfl))
  f260 := Tryz.func112.trans (congrArg some (by kernel_rfl))
  f266 := Tryz.func117.trans (congrArg some (by kernel_rfl))
  t0 := Tryz.underlying0
  a0 := Tryz.isAgg0
  z0 := Tryz.sizeOf0
  v0 := Tryz.zeroValue0
  t3 := Tryz.underlying3
  a3 := Tryz.isAgg3
  z3 := Tryz.sizeOf3
  v3 := Tryz.zeroValue3
  t4 := Tryz.underlying4
  a4 := Tryz.isAgg4
  z4 := Tryz.sizeOf4
  v4 := Tryz.zeroValue4
  t5 := Tryz.underlying5
  a5 := Tryz.isAgg5
  z5 := Tryz.sizeOf5
  v5 := Tryz.zeroValue5
  t9 := Tryz.underlying9
  a9 := Tryz.isAgg9
  z9 := Tryz.sizeOf9
  v9 := Tryz.zeroValue9
  t21 := Tryz.underlying21
  a21 := Tryz.isAgg21
  z21 := Tryz.sizeOf21
  v21 := Tryz.zeroValue21
  t46 := Tryz.underlying128
  a46 := Tryz.isAgg128
  z46 := Tryz.sizeOf128
  v46 := Tryz.zeroValue128
  t105 := Tryz.underlying120
  a105 := Tryz.isAgg120
  z105 := Tryz.sizeOf120
  v105 := Tryz.zeroValue120
  t116 := Tryz.underlying108
  a116 := Tryz.isAgg108
  z116 := Tryz.sizeOf108
  t117 := Tryz.underlying109
  a117 := Tryz.isAgg109
  z117 := Tryz.sizeOf109
  v117 := Tryz.zeroValue109
  t119 := Tryz.underlying124
  a119 := Tryz.isAgg124
  z119 := Tryz.sizeOf124
  t124 := Tryz.underlying112
  a124 := Tryz.isAgg112
  z124 := Tryz.sizeOf112
  v124 := Tryz.zeroValue112
  t138 := Tryz.underlying126
  a138 := Tryz.isAgg126
  z138 := Tryz.sizeOf126
  v138 := Tryz.zeroValue126
  t139 := Tryz.underlying127
  a139 := Tryz.isAgg127
  z139 := Tryz.sizeOf127
  v139 := Tryz.zeroValue127
  g3 := by kernel_rfl
  g4 := by kernel_rfl }

def Tryz.lays146_ren : Go.Shelf.Ren := ⟨fun | 146 => 21 | 221 => 49 | 268 => 76 | 138 => 77 | 143 => 78 | 195 => 97 | 197 => 98 | 218 => 99 | 219 => 100 | 260 => 112 | 217 => 104 | 225 => 113 | 224 => 114 | 267 => 115 | 266 => 117 | 314 => 123 | n => n, fun | 9 => 9 | 31 => 24 | 3 => 3 | 4 => 4 | 0 => 0 | 105 => 120 | 21 => 21 | 5 => 5 | 46 => 128 | 119 => 124 | 139 => 127 | 138 => 126 | 146 => 137 | 51 => 136 | n => n, fun | 1 => 2 | 3 => 0 | 4 => 1 | n => n⟩
theorem Tryz.lays146 : Go.Proofs.LaysM.n146 Tryz.prog Tryz.lays146_ren := {
  mixed := by kernel_rfl
  f138 := Tryz.func77.trans (congrArg some (by kernel_rfl))
  f143 := Tryz.func78.trans (congrArg some (by kernel_rfl))
  f146 := Tryz.func21.trans (congrArg some (by kernel_rfl))
  f195 := Tryz.func97.trans (congrArg some (by kernel_rfl))
  f197 := Tryz.func98.trans (congrArg some (by kernel_rfl))
  f217 := Tryz.func104.trans (congrArg some (by kernel_rfl))
  f218 := Tryz.func99.trans (congrArg some (by kernel_rfl))
  f219 := Tryz.func100.trans (congrArg some (by kernel_rfl))
  f221 := Tryz.func49.trans (congrArg some (by kernel_rfl))
  f224 := Tryz.func114.trans (congrArg some (by kernel_rfl))
  f225 := Tryz.func113.trans (congrArg some (by kernel_rfl))
  f260 := Tryz.func112.trans (congrArg some (by kernel_rfl))
  f266 := Tryz.func117.trans (congrArg some (by kernel_rfl))
  f267 := Tryz.func115.trans (congrArg some (by kernel_rfl))
  f268 := Tryz.func76.trans (congrArg some (by kernel_rfl))
  f314 := Tryz.func123.trans (congrArg some (by kernel_rfl))
  t0 := Tryz.underlying0
  a0 := Tryz.isAgg0
  z0 := Tryz.sizeOf0
  v0 := Tryz.zeroValue0
  t3 := Tryz.underlying3
  a3 := Tryz.isAgg3
  z3 := Tryz.sizeOf3
  v3 := Tryz.zeroValue3
  t4 := Tryz.underlying4
  a4 := Tryz.isAgg4
  z4 := Tryz.sizeOf4
  v4 := Tryz.zeroValue4
  t5 := Tryz.underlying5
  a5 := Tryz.isAgg5
  z5 := Tryz.sizeOf5
  v5 := Tryz.zeroValue5
  t9 := Tryz.underlying9
  a9 := Tryz.isAgg9
  z9 := Tryz.sizeOf9
  v9 := Tryz.zeroValue9
  t21 := Tryz.underlying21
  a21 := Tryz.isAgg21
  z21 := Tryz.sizeOf21
  v21 := Tryz.zeroValue21
  t31 := Tryz.underlying24
  a31 := Tryz.isAgg24
  z31 := Tryz.sizeOf24
  v31 := Tryz.zeroValue24
  t46 := Tryz.underlying128
  a46 := Tryz.isAgg128
  z46 := Tryz.sizeOf128
  v46 := Tryz.zeroValue128
  t51 := Tryz.underlying136
  a51 := Tryz.isAgg136
  z51 := Tryz.sizeOf136
  v51 := Tryz.zeroValue136
  t105 := Tryz.underlying120
  a105 := Tryz.isAgg120
  z105 := Tryz.sizeOf120
  v105 := Tryz.zeroValue120
  t119 := Tryz.underlying124
  a119 := Tryz.isAgg124
  z119 := Tryz.sizeOf124
  t138 := Tryz.underlying126
  a138 := Tryz.isAgg126
  z138 := Tryz.sizeOf126
  v138 := Tryz.zeroValue126
  t139 := Tryz.underlying127
  a139 := Tryz.isAgg127
  z139 := Tryz.sizeOf127
  v139 := Tryz.zeroValue127
  t146 := Tryz.underlying137
  a146 := Tryz.isAgg137
  z146 := Tryz.sizeOf137
  v146 := Tryz.zeroValue137
  g1 := by kernel_rfl
  g3 := by kernel_rfl
  g4 := by kernel_rfl
  i0 := by kernel_rfl
  i3 := by kernel_rfl
  i4 := by kernel_rfl
  i5 := by kernel_rfl
  i9 := by kernel_rfl
  i21 := by kernel_rfl
  i31 := by kernel_rfl
  i46 := by kernel_rfl
  i51 := by kernel_rfl
  i105 := by kernel_rfl
  i138 := by kernel_rfl
  i139 := by kernel_rfl
  i146 := by kernel_rfl
  m1 := by kernel_rfl
  s1_3 := fun w h => Go.Proofs.cell_of_shapedOpen_int (zero := #[.int .i64 0]) (t := 3) h (of_decide_eq_true (by kernel_rfl)) (by kernel_rfl) rfl (by kernel_rfl) (by kernel_rfl) Tryz.underlying3
  m3 := by kernel_rfl
  m4 := by kernel_rfl }

def Tryz.lays196_ren : Go.Shelf.Ren := ⟨fun | 196 => 83 | 259 => 103 | n => n, fun | 9 => 9 | 4 => 4 | 3 => 3 | 5 => 5 | 12 => 12 | 119 => 124 | 0 => 0 | 46 => 128 | 139 => 127 | 138 => 126 | 53 => 89 | n => n, fun | 3 => 0 | 4 => 1 | n => n⟩
theorem Tryz.lays196 : Go.Proofs.Lays.n196 Tryz.prog Tryz.lays196_ren := {
  mixed := by kernel_rfl
  f196 := Tryz.func83.trans (congrArg some (by kernel_rfl))
  f259 := Tryz.func103.trans (congrArg some (by kernel_rfl))
  t0 := Tryz.underlying0
  a0 := Tryz.isAgg0
  z0 := Tryz.sizeOf0
  v0 := Tryz.zeroValue0
  t3 := Tryz.underlying3
  a3 := Tryz.isAgg3
  z3 := Tryz.sizeOf3
  v3 := Tryz.zeroValue3
  t4 := Tryz.underlying4
  a4 := Tryz.isAgg4
  z4 := Tryz.sizeOf4
  v4 := Tryz.zeroValue4
  t5 := Tryz.underlying5
  a5 := Tryz.isAgg5
  z5 := Tryz.sizeOf5
  v5 := Tryz.zeroValue5
  t9 := Tryz.underlying9
  a9 := Tryz.isAgg9
  z9 := Tryz.sizeOf9
  v9 := Tryz.zeroValue9
  t12 := Tryz.underlying12
  a12 := Tryz.isAgg12
  z12 := Tryz.sizeOf12
  v12 := Tryz.zeroValue12
  t46 := Tryz.underlying128
  a46 := Tryz.isAgg128
  z46 := Tryz.sizeOf128
  v46 := Tryz.zeroValue128
  t53 := Tryz.underlying89
  a53 := Tryz.isAgg89
  z53 := Tryz.sizeOf89
  v53 := Tryz.zeroValue89
  t119 := Tryz.underlying124
  a119 := Tryz.isAgg124
  z119 := Tryz.sizeOf124
  t138 := Tryz.underlying126
  a138 := Tryz.isAgg126
  z138 := Tryz.sizeOf126
  v138 := Tryz.zeroValue126
  t139 := Tryz.underlying127
  a139 := Tryz.isAgg127
  z139 := Tryz.sizeOf127
  v139 := Tryz.zeroValue127
  g3 := by kernel_rfl
  g4 := by kernel_rfl }

abbrev Γ0 : World → Prop := GL 2 0 1

theorem cf10 : CallF Tryz.prog 10 := fun args w => Tryz.call10 args w

theorem cf105 : CallF Tryz.prog 105 := fun args w => Tryz.call105 args w

theorem cf106 : CallF Tryz.prog 106 := fun args w => Tryz.call106 args w

theorem cf107 : CallF Tryz.prog 107 := fun args w => Tryz.call107 args w

theorem cf109 : CallF Tryz.prog 109 := fun args w => Tryz.call109 args w

theorem cf11 : CallF Tryz.prog 11 := fun args w => Tryz.call11 args w

theorem cf110 : CallF Tryz.prog 110 := fun args w => Tryz.call110 args w

theorem cf111 : CallF Tryz.prog 111 := fun args w => Tryz.call111 args w

theorem cf118 : CallF Tryz.prog 118 := fun args w => Tryz.call118 args w

theorem cf119 : CallF Tryz.prog 119 := fun args w => Tryz.call119 args w

theorem cf12 : CallF Tryz.prog 12 := fun args w => Tryz.call12 args w

theorem cf120 : CallF Tryz.prog 120 := fun args w => Tryz.call120 args w

theorem cf122 : CallF Tryz.prog 122 := fun args w => Tryz.call122 args w

theorem cf125 : CallF Tryz.prog 125 := fun args w => Tryz.call125 args w

theorem cf13 : CallF Tryz.prog 13 := fun args w => Tryz.call13 args w

theorem cf14 : CallF Tryz.prog 14 := fun args w => Tryz.call14 args w

theorem cf15 : CallF Tryz.prog 15 := fun args w => Tryz.call15 args w

theorem cf16 : CallF Tryz.prog 16 := fun args w => Tryz.call16 args w

theorem cf17 : CallF Tryz.prog 17 := fun args w => Tryz.call17 args w

theorem cf18 : CallF Tryz.prog 18 := fun args w => Tryz.call18 args w

theorem cf19 : CallF Tryz.prog 19 := fun args w => Tryz.call19 args w

theorem cf20 : CallF Tryz.prog 20 := fun args w => Tryz.call20 args w

theorem cf21 : CallF Tryz.prog 21 := fun args w => Tryz.call21 args w

theorem cf22 : CallF Tryz.prog 22 := fun args w => Tryz.call22 args w

theorem cf23 : CallF Tryz.prog 23 := fun args w => Tryz.call23 args w

theorem cf24 : CallF Tryz.prog 24 := fun args w => Tryz.call24 args w

theorem cf25 : CallF Tryz.prog 25 := fun args w => Tryz.call25 args w

theorem cf26 : CallF Tryz.prog 26 := fun args w => Tryz.call26 args w

theorem cf27 : CallF Tryz.prog 27 := fun args w => Tryz.call27 args w

theorem cf28 : CallF Tryz.prog 28 := fun args w => Tryz.call28 args w

theorem cf29 : CallF Tryz.prog 29 := fun args w => Tryz.call29 args w

theorem cf30 : CallF Tryz.prog 30 := fun args w => Tryz.call30 args w

theorem cf31 : CallF Tryz.prog 31 := fun args w => Tryz.call31 args w

theorem cf32 : CallF Tryz.prog 32 := fun args w => Tryz.call32 args w

theorem cf33 : CallF Tryz.prog 33 := fun args w => Tryz.call33 args w

theorem cf34 : CallF Tryz.prog 34 := fun args w => Tryz.call34 args w

theorem cf35 : CallF Tryz.prog 35 := fun args w => Tryz.call35 args w

theorem cf36 : CallF Tryz.prog 36 := fun args w => Tryz.call36 args w

theorem cf37 : CallF Tryz.prog 37 := fun args w => Tryz.call37 args w

theorem cf38 : CallF Tryz.prog 38 := fun args w => Tryz.call38 args w

theorem cf39 : CallF Tryz.prog 39 := fun args w => Tryz.call39 args w

theorem cf4 : CallF Tryz.prog 4 := fun args w => Tryz.call4 args w

theorem cf40 : CallF Tryz.prog 40 := fun args w => Tryz.call40 args w

theorem cf41 : CallF Tryz.prog 41 := fun args w => Tryz.call41 args w

theorem cf42 : CallF Tryz.prog 42 := fun args w => Tryz.call42 args w

theorem cf43 : CallF Tryz.prog 43 := fun args w => Tryz.call43 args w

theorem cf44 : CallF Tryz.prog 44 := fun args w => Tryz.call44 args w

theorem cf45 : CallF Tryz.prog 45 := fun args w => Tryz.call45 args w

theorem cf46 : CallF Tryz.prog 46 := fun args w => Tryz.call46 args w

theorem cf47 : CallF Tryz.prog 47 := fun args w => Tryz.call47 args w

theorem cf5 : CallF Tryz.prog 5 := fun args w => Tryz.call5 args w

theorem cf50 : CallF Tryz.prog 50 := fun args w => Tryz.call50 args w

theorem cf51 : CallF Tryz.prog 51 := fun args w => Tryz.call51 args w

theorem cf52 : CallF Tryz.prog 52 := fun args w => Tryz.call52 args w

theorem cf53 : CallF Tryz.prog 53 := fun args w => Tryz.call53 args w

theorem cf54 : CallF Tryz.prog 54 := fun args w => Tryz.call54 args w

theorem cf55 : CallF Tryz.prog 55 := fun args w => Tryz.call55 args w

theorem cf56 : CallF Tryz.prog 56 := fun args w => Tryz.call56 args w

theorem cf57 : CallF Tryz.prog 57 := fun args w => Tryz.call57 args w

theorem cf58 : CallF Tryz.prog 58 := fun args w => Tryz.call58 args w

theorem cf59 : CallF Tryz.prog 59 := fun args w => Tryz.call59 args w

theorem cf6 : CallF Tryz.prog 6 := fun args w => Tryz.call6 args w

theorem cf60 : CallF Tryz.prog 60 := fun args w => Tryz.call60 args w

theorem cf61 : CallF Tryz.prog 61 := fun args w => Tryz.call61 args w

theorem cf62 : CallF Tryz.prog 62 := fun args w => Tryz.call62 args w

theorem cf63 : CallF Tryz.prog 63 := fun args w => Tryz.call63 args w

theorem cf64 : CallF Tryz.prog 64 := fun args w => Tryz.call64 args w

theorem cf65 : CallF Tryz.prog 65 := fun args w => Tryz.call65 args w

theorem cf66 : CallF Tryz.prog 66 := fun args w => Tryz.call66 args w

theorem cf67 : CallF Tryz.prog 67 := fun args w => Tryz.call67 args w

theorem cf68 : CallF Tryz.prog 68 := fun args w => Tryz.call68 args w

theorem cf69 : CallF Tryz.prog 69 := fun args w => Tryz.call69 args w

theorem cf7 : CallF Tryz.prog 7 := fun args w => Tryz.call7 args w

theorem cf70 : CallF Tryz.prog 70 := fun args w => Tryz.call70 args w

theorem cf71 : CallF Tryz.prog 71 := fun args w => Tryz.call71 args w

theorem cf72 : CallF Tryz.prog 72 := fun args w => Tryz.call72 args w

theorem cf73 : CallF Tryz.prog 73 := fun args w => Tryz.call73 args w

theorem cf74 : CallF Tryz.prog 74 := fun args w => Tryz.call74 args w

theorem cf8 : CallF Tryz.prog 8 := fun args w => Tryz.call8 args w

theorem cf83 : CallF Tryz.prog 83 := fun args w => Tryz.call83 args w

theorem cf84 : CallF Tryz.prog 84 := fun args w => Tryz.call84 args w

theorem cf85 : CallF Tryz.prog 85 := fun args w => Tryz.call85 args w

theorem cf86 : CallF Tryz.prog 86 := fun args w => Tryz.call86 args w

theorem cf87 : CallF Tryz.prog 87 := fun args w => Tryz.call87 args w

theorem cf88 : CallF Tryz.prog 88 := fun args w => Tryz.call88 args w

theorem cf89 : CallF Tryz.prog 89 := fun args w => Tryz.call89 args w

theorem cf9 : CallF Tryz.prog 9 := fun args w => Tryz.call9 args w

theorem cf90 : CallF Tryz.prog 90 := fun args w => Tryz.call90 args w

theorem cf91 : CallF Tryz.prog 91 := fun args w => Tryz.call91 args w

theorem cf92 : CallF Tryz.prog 92 := fun args w => Tryz.call92 args w

theorem cf93 : CallF Tryz.prog 93 := fun args w => Tryz.call93 args w

theorem cf94 : CallF Tryz.prog 94 := fun args w => Tryz.call94 args w

theorem cf95 : CallF Tryz.prog 95 := fun args w => Tryz.call95 args w

theorem cf96 : CallF Tryz.prog 96 := fun args w => Tryz.call96 args w

theorem ti101 : Info Tryz.prog 101 (.agg #[.int .i64 0, .int .i64 0, .int .i64 0, .int .i64 0, .int .i64 0, .int .i64 0]) 6 48 := Info.of (by kernel_rfl)

theorem ti24 : Info Tryz.prog 24 (.slice none 0 0) 1 24 := Info.of (by kernel_rfl)

theorem ti25 : Info Tryz.prog 25 (.slice none 0 0) 1 24 := Info.of (by kernel_rfl)

theorem ti26 : Info Tryz.prog 26 (.slice none 0 0) 1 24 := Info.of (by kernel_rfl)

theorem ti28 : Info Tryz.prog 28 (.agg #[.slice none 0 0, .slice none 0 0, .slice none 0 0]) 3 72 := Info.of (by kernel_rfl)

theorem ti3 : Info Tryz.prog 3 (.int .i64 0) 1 8 := Info.of (by kernel_rfl)

theorem ti30 : Info Tryz.prog 30 (.agg #[.int .i64 0, .int .i64 0, .int .i64 0, .int .i64 0, .int .i64 0, .int .i64 0, .string ByteArray.empty, .string ByteArray.empty, .slice none 0 0, .slice none 0 0, .slice none 0 0, .slice none 0 0]) 12 176 := Info.of (by kernel_rfl)

theorem ti39 : Info Tryz.prog 39 (.agg #[.string ByteArray.empty, .string ByteArray.empty]) 2 32 := Info.of (by kernel_rfl)

theorem ti4 : Info Tryz.prog 4 (.bool false) 1 1 := Info.of (by kernel_rfl)

theorem ti45 : Info Tryz.prog 45 (.agg #[.pointer none, .slice none 0 0]) 2 32 := Info.of (by kernel_rfl)

theorem ti5 : Info Tryz.prog 5 (.int .u8 0) 1 1 := Info.of (by kernel_rfl)

theorem ti68 : Info Tryz.prog 68 (.agg #[.int .i64 0, .int .i64 0, .int .i64 0, .int .i64 0, .int .i64 0]) 5 40 := Info.of (by kernel_rfl)

theorem ti71 : Info Tryz.prog 71 (.agg #[.int .i64 0, .int .i64 0, .int .i64 0, .int .i64 0, .int .i64 0, .int .i64 0, .string ByteArray.empty, .string ByteArray.empty, .slice none 0 0, .slice none 0 0, .slice none 0 0, .slice none 0 0, .bool false]) 13 184 := Info.of (by kernel_rfl)

theorem ti73 : Info Tryz.prog 73 (.agg #[.string ByteArray.empty, .string ByteArray.empty, .string ByteArray.empty, .string ByteArray.empty, .string ByteArray.empty, .string ByteArray.empty, .string ByteArray.empty, .string ByteArray.empty, .string ByteArray.empty, .string ByteArray.empty, .string ByteArray.empty, .string ByteArray.empty, .string ByteArray.empty]) 13 208 := Info.of (by kernel_rfl)

theorem ti82 : Info Tryz.prog 82 (.agg #[.slice none 0 0, .bool false]) 2 32 := Info.of (by kernel_rfl)

theorem ti89 : Info Tryz.prog 89 (.int .u64 0) 1 8 := Info.of (by kernel_rfl)

theorem ti9 : Info Tryz.prog 9 (.string ByteArray.empty) 1 16 := Info.of (by kernel_rfl)

theorem ti95 : Info Tryz.prog 95 (.agg #[.string ByteArray.empty, .int .i64 0]) 2 24 := Info.of (by kernel_rfl)

theorem ti97 : Info Tryz.prog 97 (.agg #[.int .i64 0, .int .i64 0, .int .i64 0, .int .i64 0, .int .i64 0, .int .i64 0, .int .i64 0, .int .i64 0, .int .i64 0, .int .i64 0, .int .i64 0, .int .i64 0, .int .i64 0]) 13 104 := Info.of (by kernel_rfl)

theorem ti98 : Info Tryz.prog 98 (.agg #[.int .i64 0, .int .i64 0, .int .i64 0, .int .i64 0]) 4 32 := Info.of (by kernel_rfl)

theorem pl28 (fs : Array Field) (h : Tryz.prog.underlying 28 = some (.struct fs)) : Places Tryz.prog fs #[(0, 1), (1, 1), (2, 1)] := fun w => by rw [Tryz.underlying28] at h; cases h; simp [Tryz.sizeOf25, Tryz.sizeOf26]

theorem pl30 (fs : Array Field) (h : Tryz.prog.underlying 30 = some (.struct fs)) : Places Tryz.prog fs #[(0, 1), (1, 1), (2, 1), (3, 1), (4, 1), (5, 1), (6, 1), (7, 1), (8, 1), (9, 3)] := fun w => by rw [Tryz.underlying30] at h; cases h; simp [Tryz.sizeOf24, Tryz.sizeOf28, Tryz.sizeOf3, Tryz.sizeOf9]

theorem pl39 (fs : Array Field) (h : Tryz.prog.underlying 39 = some (.struct fs)) : Places Tryz.prog fs #[(0, 1), (1, 1)] := fun w => by rw [Tryz.underlying39] at h; cases h; simp [Tryz.sizeOf9]

theorem pl71 (fs : Array Field) (h : Tryz.prog.underlying 71 = some (.struct fs)) : Places Tryz.prog fs #[(0, 12), (12, 1)] := fun w => by rw [Tryz.underlying71] at h; cases h; simp [Tryz.sizeOf30, Tryz.sizeOf4]

theorem pl82 (fs : Array Field) (h : Tryz.prog.underlying 82 = some (.struct fs)) : Places Tryz.prog fs #[(0, 1), (1, 1)] := fun w => by rw [Tryz.underlying82] at h; cases h; simp [Tryz.sizeOf24, Tryz.sizeOf4]

theorem pl95 (fs : Array Field) (h : Tryz.prog.underlying 95 = some (.struct fs)) : Places Tryz.prog fs #[(0, 1), (1, 1)] := fun w => by rw [Tryz.underlying95] at h; cases h; simp [Tryz.sizeOf3, Tryz.sizeOf9]

instance : Und Tryz.prog 3 (dOf Tryz.underlying3) := ⟨Tryz.underlying3⟩
instance : Und Tryz.prog 4 (dOf Tryz.underlying4) := ⟨Tryz.underlying4⟩
instance : Und Tryz.prog 5 (dOf Tryz.underlying5) := ⟨Tryz.underlying5⟩
instance : Und Tryz.prog 9 (dOf Tryz.underlying9) := ⟨Tryz.underlying9⟩
instance : Und Tryz.prog 22 (dOf Tryz.underlying22) := ⟨Tryz.underlying22⟩
instance : Und Tryz.prog 24 (dOf Tryz.underlying24) := ⟨Tryz.underlying24⟩
instance : Und Tryz.prog 25 (dOf Tryz.underlying25) := ⟨Tryz.underlying25⟩
instance : Und Tryz.prog 26 (dOf Tryz.underlying26) := ⟨Tryz.underlying26⟩
instance : Und Tryz.prog 28 (dOf Tryz.underlying28) := ⟨Tryz.underlying28⟩
instance : Und Tryz.prog 30 (dOf Tryz.underlying30) := ⟨Tryz.underlying30⟩
instance : Und Tryz.prog 39 (dOf Tryz.underlying39) := ⟨Tryz.underlying39⟩
instance : Und Tryz.prog 43 (dOf Tryz.underlying43) := ⟨Tryz.underlying43⟩
instance : Und Tryz.prog 68 (dOf Tryz.underlying68) := ⟨Tryz.underlying68⟩
instance : Und Tryz.prog 71 (dOf Tryz.underlying71) := ⟨Tryz.underlying71⟩
instance : Und Tryz.prog 73 (dOf Tryz.underlying73) := ⟨Tryz.underlying73⟩
instance : Und Tryz.prog 82 (dOf Tryz.underlying82) := ⟨Tryz.underlying82⟩
instance : Und Tryz.prog 89 (dOf Tryz.underlying89) := ⟨Tryz.underlying89⟩
instance : Und Tryz.prog 90 (dOf Tryz.underlying90) := ⟨Tryz.underlying90⟩
instance : Und Tryz.prog 95 (dOf Tryz.underlying95) := ⟨Tryz.underlying95⟩
instance : Und Tryz.prog 97 (dOf Tryz.underlying97) := ⟨Tryz.underlying97⟩
instance : Und Tryz.prog 98 (dOf Tryz.underlying98) := ⟨Tryz.underlying98⟩
instance : Und Tryz.prog 101 (dOf Tryz.underlying101) := ⟨Tryz.underlying101⟩

theorem ct_strings_Split (s_0 : ByteArray) (sep_1 : ByteArray) (r : (List ByteArray)) (hF : strings_Split s_0 sep_1 = some r) : CtG Tryz.prog Γ0 21 [.g (.d (vS s_0)), .g (.d (vS sep_1))] (.one (.d (.sl 1 (List.map encS r)))) := by
  unfold strings_Split at hF
  split at hF
  · rename_i hc
    cases hF
    have hlen := Lib.splitB_all sep_1 hc.2 0 _ s_0 rfl
    have hle := Lib.countB_le sep_1 hc.2 s_0.size s_0 (Nat.le_refl _)
    refine CtG.texts (T := 9) (GL.ok _ _ _) [.string s_0, .string sep_1] rfl (by rw [hlen]; unfold maxLen; omega) fun w hg => ?_
    obtain ⟨m, hm⟩ := hg.1
    rw [hlen]
    exact Any.strings_Split { Tryz.lays146 with } Tryz.lays146.i9 s_0 sep_1 m w hc.1 hm hc.2
  · cases hF


theorem ct_strings_TrimLeft (s_0 : ByteArray) (cutset_1 : ByteArray) (r : ByteArray) (hF : strings_TrimLeft s_0 cutset_1 = some r) : Ct Tryz.prog 50 [.g (.d (vS s_0)), .g (.d (vS cutset_1))] (.one (.d (vS r))) := by
 unfold strings_TrimLeft at hF
 split at hF
 · rename_i hc
   cases hF
   exact Ct.pure [.string s_0, .string cutset_1] rfl rfl fun w => Any.strings_TrimLeft_laid Tryz.lays161 (by kernel_rfl) s_0 cutset_1 w hc.1 (fun j b hj => of_decide_eq_true (List.all_eq_true.1 hc.2 b (List.mem_of_getElem? hj)))
 cases hF


theorem ct_words_silent (line_0 : ByteArray) (r : Bool) (hF : words_silent line_0 = some r) : Ct Tryz.prog 22 [.g (.d (vS line_0))] (.one (.d (vB r))) := by
 unfold words_silent at hF
 refine Ct.intro Tryz.func22 rfl Tryz.ntmps22 rfl rfl fun M w => ?_
 refine sr <| ac rfl rfl <| esr <| mv rfl rfl <| bn hF fun r1 hr1 hF => p10 (op_callQ cf50 (ct_strings_TrimLeft _ _ _ hr1) rfl rfl (.cons qe (.cons (.g (ec rfl)) .nil)) rfl) rfl <| ?_
 refine av rfl rfl <| esr <| mv rfl rfl <| p10 (op_eqS ev (ec rfl) rfl) rfl <| mv rfl rfl <| ?_
 refine ifS hF (fun hc2 hF => ?_) (fun hc2 hF => ?_)
 · refine G.known (t := 7) hc2 rfl <| oN rfl rfl rfl <| oN rfl rfl rfl <| oN rfl rfl rfl <| p10 (op_pickT ev (ec rfl) rfl) rfl <| av rfl rfl <| ?_
   refine eO <| ?_
   cases hF
   exact G.ret1 Tryz.results22 (RVar.tmp 2 _) z1 trivial
 refine G.known (t := 7) hc2 rfl <| g10 (op_move ev rfl) rfl rfl rfl <| bn hF fun b3 hb3 hF => g10 (op_indexS uU (sidx_ok hb3).1 (sidx_ok hb3).2 ev (ec rfl) rfl) rfl rfl rfl <| g10 (op_eqI ev (ec rfl) rfl) rfl rfl rfl <| p20 (op_pickF ev ev rfl) rfl rfl <| ?_
 refine av rfl rfl <| eO <| ?_
 cases hF
 exact G.ret1 Tryz.results22 (RVar.tmp 2 _) z1 trivial


theorem ct_unicode_utf8_ValidString (s_0 : ByteArray) (r : Bool) (hF : unicode_utf8_ValidString s_0 = some r) : CtG Tryz.prog Γ0 83 [.g (.d (vS s_0))] (.one (.d (vB r))) := by
 unfold unicode_utf8_ValidString at hF
 split at hF
 · rename_i hc
   cases hF
   exact CtG.pure (GL.ok _ _ _) [.string s_0] rfl rfl fun w hg => Any.utf8_ValidString Tryz.lays196 s_0 w hc hg.2
 cases hF


theorem ct_words_bare (s_0 : ByteArray) (r : (ByteArray × Int)) (hF : words_bare s_0 = some r) : CtG Tryz.prog Γ0 51 [.g (.d (vS s_0))] (.tup [.d (vS r.1), .d (vI r.2)]) := by
 unfold words_bare at hF
 refine CtG.intro (GL.ok _ _ _) Tryz.func51 rfl Tryz.ntmps51 rfl rfl fun M w hG => ?_
 refine sr <| ac rfl rfl <| ac rfl rfl <| eO <| sc <| sr <| ?_
 refine mv rfl rfl <| p10 (op_lenS uU ev rfl) rfl <| av rfl rfl <| eO <| sq <| lb <| ?_
 refine sq <| sr <| mv rfl rfl <| q11 (op_range (k := 1010) uU ev rfl) rfl rfl <| eO <| ?_
 refine G.joinC (T := Int) (fun y1 => ⟨[(0, oS s_0), (4, oI y1)], []⟩) (fun y1 => words_bare_k1 s_0 y1 = some r) (fun y1 hF => ?_) (fun J6 => ?_)
 · unfold words_bare_k1 at hF
   refine sq <| sr <| mv rfl rfl <| mv rfl rfl <| bn hF fun s2 hs2 hF => p20 (op_sliceM .none (.some ev) hs2 uU ev rfl) rfl rfl <| ?_
   refine bn hF fun r3 hr3 hF => p10 (op_callQG hG cf83 (ct_unicode_utf8_ValidString _ _ hr3) rfl rfl (.cons qe .nil) rfl) rfl <| p10 (op_not ev rfl) rfl <| eO <| ?_
   refine ifS hF (fun hc4 hF => ?_) (fun hc4 hF => ?_)
   · refine cT hc4 rfl <| sr <| ac rfl rfl <| ac rfl rfl <| eO <| ?_
     cases hF
     exact G.ret2 Tryz.results51 (RVar.tmp 2 _) (RVar.tmp 3 _) z2 trivial
   refine cF hc4 rfl <| sk <| sr <| mv rfl rfl <| mv rfl rfl <| bn hF fun s5 hs5 hF => ?_
   refine p20 (op_sliceM .none (.some ev) hs5 uU ev rfl) rfl rfl <| mv rfl rfl <| av rfl rfl <| av rfl rfl <| eO <| ?_
   cases hF
   exact G.ret2 Tryz.results51 (RVar.tmp 2 _) (RVar.tmp 3 _) z2 trivial
 refine bl <| ?_
 refine lF (fun (v7 : Nat) => ⟨[(0, oS s_0), (4, oI (s_0.size : Int)), (10, .one (.ptr 1010 0))], [(1010, some (.it s_0 v7))]⟩) hF z3 z1 rfl (fun K10 again9 v7 J8 hF => ?_)
 unfold words_bare_l2 at hF
 refine sr <| ?_
 refine ifS hF (fun hc11 hF => ?_) (fun hc11 hF => ?_)
 · refine q11 (op_nextT hc11 ev rfl) rfl rfl <| p10 (op_extract rfl rfl) rfl <| eO <| sq <| ?_
   refine G.condT rfl ?_
   refine sk <| bl <| sr <| p10 (op_extract rfl rfl) rfl <| p10 (op_extract rfl rfl) rfl <| av rfl rfl <| ?_
   refine av rfl rfl <| eO <| bl <| sq <| ?_
   refine G.joinC (T := Bool × Nat) (fun y12 => ⟨[(0, oS s_0), (4, oI (s_0.size : Int)), (5, oI (v7 : Int)), (6, .one (bI .i32 ((Utf8.decode s_0 v7).1 : Int))), (10, .one (.ptr 1010 0)), (15, oB y12.1)], [(1010, some (.it s_0 y12.2))]⟩) (fun y12 => words_bare_k3 s_0 again9 v7 y12 = some r) (fun y12 hF => ?_) (fun J17 => ?_)
   · unfold words_bare_k3 at hF
     refine ifS hF (fun hc13 hF => ?_) (fun hc13 hF => ?_)
     · refine cT hc13 rfl <| sr <| mv rfl rfl <| av rfl rfl <| eO <| ex <| ?_
       refine GX.bNo rfl ?_
       refine GX.bNo rfl ?_
       refine GX.q ?_
       refine xY <| ?_
       exact G.arr (J6 (v7 : Int) hF) z2 trivial rfl
     refine cF hc13 rfl <| sr <| mv rfl rfl <| p10 (op_lss ev (ec rfl) rfl) rfl <| mv rfl rfl <| ?_
     refine ifS hF (fun hc14 hF => ?_) (fun hc14 hF => ?_)
     · refine G.known (t := 26) hc14 rfl <| oN rfl rfl rfl <| oN rfl rfl rfl <| p10 (op_pickT ev (ec rfl) rfl) rfl <| mv rfl rfl <| oN rfl rfl rfl <| ?_
       refine oN rfl rfl rfl <| p10 (op_pickT ev (ec rfl) rfl) rfl <| av rfl rfl <| eO <| ?_
       refine G.condT rfl ?_
       refine sr <| ac rfl rfl <| ac rfl rfl <| eO <| ?_
       cases hF
       exact G.ret2 Tryz.results51 (RVar.tmp 2 _) (RVar.tmp 3 _) z2 trivial
     refine G.known (t := 26) hc14 rfl <| g10 (op_move ev rfl) rfl rfl rfl <| g10 (op_eqI ev (ec rfl) rfl) rfl rfl rfl <| p20 (op_pickF ev ev rfl) rfl rfl <| mv rfl rfl <| ?_
     refine ifS hF (fun hc15 hF => ?_) (fun hc15 hF => ?_)
     · refine G.known (t := 30) hc15 rfl <| oN rfl rfl rfl <| oN rfl rfl rfl <| p10 (op_pickT ev (ec rfl) rfl) rfl <| av rfl rfl <| eO <| ?_
       refine G.condT rfl ?_
       refine sr <| ac rfl rfl <| ac rfl rfl <| eO <| ?_
       cases hF
       exact G.ret2 Tryz.results51 (RVar.tmp 2 _) (RVar.tmp 3 _) z2 trivial
     refine G.known (t := 30) hc15 rfl <| g10 (op_move ev rfl) rfl rfl rfl <| g10 (op_eqI ev (ec rfl) rfl) rfl rfl rfl <| p20 (op_pickF ev ev rfl) rfl rfl <| av rfl rfl <| eO <| ?_
     refine ifS hF (fun hc16 hF => ?_) (fun hc16 hF => ?_)
     · refine cT hc16 rfl <| sr <| ac rfl rfl <| ac rfl rfl <| eO <| ?_
       cases hF
       exact G.ret2 Tryz.results51 (RVar.tmp 2 _) (RVar.tmp 3 _) z2 trivial
     refine cF hc16 rfl <| sk <| eB <| eB <| ?_
     exact G.arr (J8 y12.2 hF) z3 z1 rfl
   refine rg <| mv rfl rfl <| p10 (op_eqI ev (ec rfl) rfl) rfl <| mv rfl rfl <| ?_
   refine ifS hF (fun hc18 hF => ?_) (fun hc18 hF => ?_)
   · refine G.known (t := 18) hc18 rfl <| oN rfl rfl rfl <| oN rfl rfl rfl <| p10 (op_pickT ev (ec rfl) rfl) rfl <| av rfl rfl <| eO <| ?_
     exact G.arr (J17 (true, v7 + (Utf8.decode s_0 v7).2) hF) z6 z1 rfl
   refine G.known (t := 18) hc18 rfl <| g10 (op_move ev rfl) rfl rfl rfl <| g10 (op_eqI ev (ec rfl) rfl) rfl rfl rfl <| p20 (op_pickF ev ev rfl) rfl rfl <| av rfl rfl <| eO <| ?_
   exact G.arr (J17 (decide (((Utf8.decode s_0 v7).1 : Int) = 9), v7 + (Utf8.decode s_0 v7).2) hF) z6 z1 rfl
 refine p11 (op_nextF hc11 ev rfl) rfl rfl <| p10 (op_extract rfl rfl) rfl <| eO <| sq <| ?_
 refine G.condF rfl ?_
 refine ex <| ?_
 refine GX.c ?_
 refine GX.q ?_
 refine xY <| ?_
 exact G.arr (J6 (s_0.size : Int) hF) z2 trivial rfl


theorem ct_strings_IndexByte (s_0 : ByteArray) (c_1 : Int) (r : Int) (hF : strings_IndexByte s_0 c_1 = some r) : Ct Tryz.prog 84 [.g (.d (vS s_0)), .g (.d (.v (.int .u8 c_1)))] (.one (.d (vI r))) := by
  cases hF
  exact Ct.pure [.string s_0, .int .u8 c_1] rfl rfl fun w => (Any.strings_IndexByte Tryz.lays137 s_0 c_1 w).mono fun e w1 ⟨h1, h2⟩ => ⟨h1, h2 ▸ Below.refl _ _⟩


theorem ct_words_plain (c_0 : Int) (r : Bool) (hF : words_plain c_0 = some r) : Ct Tryz.prog 65 [.g (.d (.v (.int .u8 c_0)))] (.one (.d (vB r))) := by
 unfold words_plain at hF
 refine Ct.intro Tryz.func65 rfl Tryz.ntmps65 rfl rfl fun M w => ?_
 refine sr <| ac rfl rfl <| esr <| mv rfl rfl <| p10 (op_geq ev (ec rfl) rfl) rfl <| mv rfl rfl <| ?_
 refine G.joinL (T := Bool) 3 (fun y1 => ⟨[(0, .one (bI .u8 c_0)), (8, oB y1)], []⟩) (fun y1 => words_plain_k1 c_0 y1 = some r) (fun y1 hF => ?_) (fun J4 => ?_)
 · unfold words_plain_k1 at hF
   refine mv rfl rfl <| ?_
   refine ifS hF (fun hc2 hF => ?_) (fun hc2 hF => ?_)
   · refine G.known (t := 9) hc2 rfl <| g10 (op_move ev rfl) rfl rfl rfl <| g10 (op_neI ev (ec rfl) rfl) rfl rfl rfl <| p20 (op_pickT ev ev rfl) rfl rfl <| mv rfl rfl <| ?_
     refine ifS hF (fun hc3 hF => ?_) (fun hc3 hF => ?_)
     · refine G.known (t := 13) hc3 rfl <| g10 (op_move ev rfl) rfl rfl rfl <| g10 (op_neI ev (ec rfl) rfl) rfl rfl rfl <| p20 (op_pickT ev ev rfl) rfl rfl <| av rfl rfl <| eO <| ?_
       cases hF
       exact G.ret1 Tryz.results65 (RVar.tmp 2 _) z1 trivial
     refine G.known (t := 13) hc3 rfl <| oN rfl rfl rfl <| oN rfl rfl rfl <| p10 (op_pickF ev (ec rfl) rfl) rfl <| av rfl rfl <| eO <| ?_
     cases hF
     exact G.ret1 Tryz.results65 (RVar.tmp 2 _) z1 trivial
   refine G.known (t := 9) hc2 rfl <| oN rfl rfl rfl <| oN rfl rfl rfl <| p10 (op_pickF ev (ec rfl) rfl) rfl <| mv rfl rfl <| oN rfl rfl rfl <| ?_
   refine oN rfl rfl rfl <| p10 (op_pickF ev (ec rfl) rfl) rfl <| av rfl rfl <| eO <| ?_
   cases hF
   exact G.ret1 Tryz.results65 (RVar.tmp 2 _) z1 trivial
 refine ifS hF (fun hc5 hF => ?_) (fun hc5 hF => ?_)
 · refine G.known (t := 5) hc5 rfl <| g10 (op_move ev rfl) rfl rfl rfl <| g10 (op_leq ev (ec rfl) rfl) rfl rfl rfl <| p20 (op_pickT ev ev rfl) rfl rfl <| ?_
   exact G.arr (J4 (decide (c_0 ≤ 126)) hF) z2 trivial rfl
 refine G.known (t := 5) hc5 rfl <| oN rfl rfl rfl <| oN rfl rfl rfl <| p10 (op_pickF ev (ec rfl) rfl) rfl <| ?_
 exact G.arr (J4 false hF) z2 trivial rfl


theorem ct_words_quoted (s_0 : ByteArray) (r : (ByteArray × Int)) (hF : words_quoted s_0 = some r) : Ct Tryz.prog 52 [.g (.d (vS s_0))] (.tup [.d (vS r.1), .d (vI r.2)]) := by
 unfold words_quoted at hF
 refine Ct.intro Tryz.func52 rfl Tryz.ntmps52 rfl rfl fun M w => ?_
 refine sr <| ac rfl rfl <| ac rfl rfl <| esr <| q01 (op_buildRowN (kk := 2009) (ex := false) (es := List.map encI_u8 [34]) uU ti5 rfl rfl rfl (.cons (ec rfl) .nil) rfl rfl (by simp [encI_u8]) rfl) rfl <| av rfl rfl <| ?_
 refine eO <| sq <| sr <| ac rfl rfl <| eO <| ?_
 refine G.joinC (T := Unit) (fun y1 => ⟨[], []⟩) (fun y1 => words_quoted_k1 y1 = some r) (fun y1 hF => ?_) (fun J2 => ?_)
 · unfold words_quoted_k1 at hF
   refine sr <| ac rfl rfl <| ac rfl rfl <| eO <| ?_
   cases hF
   exact G.ret2 Tryz.results52 (RVar.tmp 2 _) (RVar.tmp 3 _) z2 trivial
 refine bl <| ?_
 refine lF (fun (v3 : Int × (List Int)) => ⟨[(0, oS s_0), (4, .one (.own 2009 (List.map encI_u8 v3.2))), (5, oI v3.1)], [(2009, some (.row 5 1 (List.map encI_u8 v3.2) false))]⟩) hF z3 z1 rfl (fun K6 again5 v3 J4 hF => ?_)
 unfold words_quoted_l2 at hF
 refine sq <| sr <| mv rfl rfl <| mv rfl rfl <| p10 (op_lenS uU ev rfl) rfl <| p20 (op_lss ev ev rfl) rfl rfl <| ?_
 refine eO <| ?_
 refine ifS hF (fun hc7 hF => ?_) (fun hc7 hF => ?_)
 · refine cT hc7 rfl <| sk <| bl <| sr <| mv rfl rfl <| mv rfl rfl <| ?_
   refine bn hF fun b8 hb8 hF => p20 (op_indexS uU (sidx_ok hb8).1 (sidx_ok hb8).2 ev ev rfl) rfl rfl <| av rfl rfl <| eO <| bl <| sr <| ?_
   refine mv rfl rfl <| p10 (op_eqI ev (ec rfl) rfl) rfl <| av rfl rfl <| eO <| ?_
   refine ifS hF (fun hc9 hF => ?_) (fun hc9 hF => ?_)
   · refine cT hc9 rfl <| sq <| sq <| ?_
     refine G.joinC (T := Bool) (fun y10 => ⟨[(4, .one (.own 2009 (List.map encI_u8 v3.2))), (5, oI v3.1), (32, oB y10)], [(2009, some (.row 5 1 (List.map encI_u8 v3.2) false))]⟩) (fun y10 => words_quoted_k3 v3 y10 = some r) (fun y10 hF => ?_) (fun J12 => ?_)
     · unfold words_quoted_k3 at hF
       refine ifS hF (fun hc11 hF => ?_) (fun hc11 hF => ?_)
       · refine cT hc11 rfl <| sr <| ac rfl rfl <| ac rfl rfl <| eO <| ?_
         cases hF
         exact G.ret2 Tryz.results52 (RVar.tmp 2 _) (RVar.tmp 3 _) z2 trivial
       refine cF hc11 rfl <| sk <| sr <| mv rfl rfl <| ?_
       refine G.view (t := 33) rfl rfl ?_
       refine p10 (op_toText (ns := v3.2) uU uU uU rfl ev rfl) rfl <| mv rfl rfl <| p10 (op_add ev (ec rfl) rfl) rfl <| av rfl rfl <| av rfl rfl <| eO <| ?_
       cases hF
       exact G.ret2 Tryz.results52 (RVar.tmp 2 _) (RVar.tmp 3 _) z2 trivial
     refine rg <| mv rfl rfl <| p10 (op_add ev (ec rfl) rfl) rfl <| mv rfl rfl <| p10 (op_lenS uU ev rfl) rfl <| p20 (op_lss ev ev rfl) rfl rfl <| ?_
     refine mv rfl rfl <| ?_
     refine ifS hF (fun hc13 hF => ?_) (fun hc13 hF => ?_)
     · refine G.known (t := 25) hc13 rfl <| g10 (op_move ev rfl) rfl rfl rfl <| g10 (op_move ev rfl) rfl rfl rfl <| g10 (op_add ev (ec rfl) rfl) rfl rfl rfl <| bn hF fun b14 hb14 hF => g20 (op_indexS uU (sidx_ok hb14).1 (sidx_ok hb14).2 ev ev rfl) rfl rfl rfl rfl <| ?_
       refine bn hF fun r15 hr15 hF => g10 (op_callQ cf84 (ct_strings_IndexByte _ _ _ hr15) rfl rfl (.cons (.g (ec rfl)) (.cons qe .nil)) rfl) rfl rfl rfl <| g10 (op_lss ev (ec rfl) rfl) rfl rfl rfl <| p20 (op_pickT ev ev rfl) rfl rfl <| eO <| ?_
       exact G.arr (J12 (decide (r15 < 0)) hF) z3 z1 rfl
     refine G.known (t := 25) hc13 rfl <| oN rfl rfl rfl <| oN rfl rfl rfl <| oN rfl rfl rfl <| oN rfl rfl rfl <| oN rfl rfl rfl <| ?_
     refine oN rfl rfl rfl <| p10 (op_pickF ev (ec rfl) rfl) rfl <| eO <| ?_
     exact G.arr (J12 false hF) z3 z1 rfl
   refine cF hc9 rfl <| sq <| ?_
   refine G.joinC (T := Bool) (fun y16 => ⟨[(0, oS s_0), (4, .one (.own 2009 (List.map encI_u8 v3.2))), (5, oI v3.1), (6, .one (bI .u8 (b8.toNat : Int))), (37, oB y16)], [(2009, some (.row 5 1 (List.map encI_u8 v3.2) false))]⟩) (fun y16 => words_quoted_k4 s_0 again5 v3 b8 y16 = some r) (fun y16 hF => ?_) (fun J30 => ?_)
   · unfold words_quoted_k4 at hF
     refine ifS hF (fun hc17 hF => ?_) (fun hc17 hF => ?_)
     · refine cT hc17 rfl <| sq <| bn hF fun b18 hb18 hF => bn hF fun r19 hr19 hF => bn hF fun b20 hb20 hF => bn hF fun r21 hr21 hF => ?_
       refine G.drawnI (deps := [[], [], [1], [0, 1, 2], [0, 1, 2, 3], [], [], [6], [5, 6, 7], [0, 1, 2, 3, 4, 5, 6, 7, 8], [0, 1, 2, 3, 4, 5, 6, 7, 8, 9], [0, 1, 2, 3, 4, 5, 6, 7, 8, 9, 10]]) (sl' := [(0, oS s_0), (4, .one (.own 2009 (List.map encI_u8 v3.2))), (5, oI v3.1), (7, oI r19), (8, oI r21)]) (hp' := [(2009, some (.row 5 1 (List.map encI_u8 v3.2) false))]) (.c (oP rfl rfl (op_move ev rfl)) (.c (oP rfl rfl (op_move ev rfl)) (.c (oP rfl rfl (op_add ev (ec rfl) rfl)) (.c (oP rfl rfl (op_indexS uU (sidx_ok hb18).1 (sidx_ok hb18).2 ev ev rfl)) (.c (oP rfl rfl (op_callQ cf84 (ct_strings_IndexByte _ _ _ hr19) rfl rfl (.cons (.g (ec rfl)) (.cons qe .nil)) rfl)) (.c (oP rfl rfl (op_move ev rfl)) (.c (oP rfl rfl (op_move ev rfl)) (.c (oP rfl rfl (op_add ev (ec rfl) rfl)) (.c (oP rfl rfl (op_indexS uU (sidx_ok hb20).1 (sidx_ok hb20).2 ev ev rfl)) (.c (oP rfl rfl (op_callQ cf84 (ct_strings_IndexByte _ _ _ hr21) rfl rfl (.cons (.g (ec rfl)) (.cons qe .nil)) rfl)) (.c (oP rfl rfl (op_assign ev rfl)) (.c (oP rfl rfl (op_assign ev rfl)) .nil)))))))))))) follows rfl rfl rfl ⟨⟨rfl, trivial⟩, trivial, ⟨rfl, trivial⟩, trivial, ⟨rfl, trivial⟩, trivial, ⟨rfl, rfl, trivial⟩, trivial, ⟨rfl, trivial⟩, trivial, ⟨rfl, trivial⟩, trivial, ⟨rfl, trivial⟩, trivial, ⟨rfl, trivial⟩, trivial, ⟨rfl, rfl, trivial⟩, trivial, ⟨rfl, trivial⟩, trivial, ⟨rfl, trivial⟩, trivial, ⟨rfl, trivial⟩, trivial, trivial⟩ ⟨rfl, rfl, rfl, rfl, rfl, trivial⟩ ⟨rfl, trivial⟩ rfl ?_
       refine sq <| sq <| ?_
       refine G.joinC (T := Bool) (fun y22 => ⟨[(0, oS s_0), (4, .one (.own 2009 (List.map encI_u8 v3.2))), (5, oI v3.1), (7, oI r19), (8, oI r21), (62, oB y22)], [(2009, some (.row 5 1 (List.map encI_u8 v3.2) false))]⟩) (fun y22 => words_quoted_k5 again5 v3 r19 r21 y22 = some r) (fun y22 hF => ?_) (fun J25 => ?_)
       · unfold words_quoted_k5 at hF
         refine ifS hF (fun hc23 hF => ?_) (fun hc23 hF => ?_)
         · refine cT hc23 rfl <| sr <| ac rfl rfl <| ac rfl rfl <| eO <| ?_
           cases hF
           exact G.ret2 Tryz.results52 (RVar.tmp 2 _) (RVar.tmp 3 _) z2 trivial
         refine cF hc23 rfl <| sk <| sr <| mv rfl rfl <| mv rfl rfl <| p10 (op_mul ev (ec rfl) rfl) rfl <| ?_
         refine mv rfl rfl <| p20 (op_add ev ev rfl) rfl rfl <| p10 (op_convI uU uU ev rfl) rfl <| p10 (op_buildSlice (es := List.map encI_u8 [IntKind.wrap .u8 (IntKind.wrap .i64 ((IntKind.wrap .i64 (r19 * 16)) + r21))]) uU ti5 rfl rfl (.cons ev .nil) rfl rfl (by simp [encI_u8]) rfl) rfl <| bn hF fun l24 hl24 hF => q21 (op_appendO uU ti5 rfl (app_map hl24 encI_u8) (app_b1 hl24 encI_u8) (app_b2 hl24 encI_u8) ev ev rfl) rfl rfl rfl <| ?_
         refine av rfl rfl <| eO <| rg <| mv rfl rfl <| p10 (op_add ev (ec rfl) rfl) rfl <| av rfl rfl <| ?_
         refine eO <| eB <| eB <| ?_
         exact G.arr (J4 (IntKind.wrap .i64 (v3.1 + 3), l24) hF) z3 z1 rfl
       refine rg <| mv rfl rfl <| p10 (op_lss ev (ec rfl) rfl) rfl <| mv rfl rfl <| ?_
       refine ifS hF (fun hc26 hF => ?_) (fun hc26 hF => ?_)
       · refine G.known (t := 59) hc26 rfl <| oN rfl rfl rfl <| oN rfl rfl rfl <| p10 (op_pickT ev (ec rfl) rfl) rfl <| eO <| ?_
         exact G.arr (J25 true hF) z6 z1 rfl
       refine G.known (t := 59) hc26 rfl <| g10 (op_move ev rfl) rfl rfl rfl <| g10 (op_lss ev (ec rfl) rfl) rfl rfl rfl <| p20 (op_pickF ev ev rfl) rfl rfl <| eO <| ?_
       exact G.arr (J25 (decide (r21 < 0)) hF) z6 z1 rfl
     refine cF hc17 rfl <| sr <| mv rfl rfl <| bn hF fun r27 hr27 hF => p10 (op_callQ cf65 (ct_words_plain _ _ hr27) rfl rfl (.cons qe .nil) rfl) rfl <| av rfl rfl <| ?_
     refine eO <| ?_
     refine ifS hF (fun hc28 hF => ?_) (fun hc28 hF => ?_)
     · refine cT hc28 rfl <| sr <| mv rfl rfl <| mv rfl rfl <| p10 (op_buildSlice (es := List.map encI_u8 [(b8.toNat : Int)]) uU ti5 rfl rfl (.cons ev .nil) rfl rfl (by simp [encI_u8]) rfl) rfl <| bn hF fun l29 hl29 hF => ?_
       refine q21 (op_appendO uU ti5 rfl (app_map hl29 encI_u8) (app_b1 hl29 encI_u8) (app_b2 hl29 encI_u8) ev ev rfl) rfl rfl rfl <| av rfl rfl <| eO <| rg <| mv rfl rfl <| p10 (op_add ev (ec rfl) rfl) rfl <| ?_
       refine av rfl rfl <| eO <| eB <| eB <| ?_
       exact G.arr (J4 (IntKind.wrap .i64 (v3.1 + 1), l29) hF) z3 z1 rfl
     refine cF hc28 rfl <| sr <| ac rfl rfl <| ac rfl rfl <| eO <| ?_
     cases hF
     exact G.ret2 Tryz.results52 (RVar.tmp 2 _) (RVar.tmp 3 _) z2 trivial
   refine rg <| mv rfl rfl <| p10 (op_eqI ev (ec rfl) rfl) rfl <| mv rfl rfl <| ?_
   refine ifS hF (fun hc31 hF => ?_) (fun hc31 hF => ?_)
   · refine G.known (t := 40) hc31 rfl <| g10 (op_move ev rfl) rfl rfl rfl <| g10 (op_lenS uU ev rfl) rfl rfl rfl <| g10 (op_move ev rfl) rfl rfl rfl <| g20 (op_sub ev ev rfl) rfl rfl rfl rfl <| g10 (op_geq ev (ec rfl) rfl) rfl rfl rfl <| ?_
     refine p20 (op_pickT ev ev rfl) rfl rfl <| av rfl rfl <| eO <| ?_
     exact G.arr (J30 (decide (3 ≤ (IntKind.wrap .i64 ((s_0.size : Int) - v3.1)))) hF) z5 z1 rfl
   refine G.known (t := 40) hc31 rfl <| oN rfl rfl rfl <| oN rfl rfl rfl <| oN rfl rfl rfl <| oN rfl rfl rfl <| oN rfl rfl rfl <| ?_
   refine p10 (op_pickF ev (ec rfl) rfl) rfl <| av rfl rfl <| eO <| ?_
   exact G.arr (J30 false hF) z5 z1 rfl
 refine cF hc7 rfl <| ex <| ?_
 refine GX.c ?_
 refine GX.q ?_
 refine xY <| ?_
 exact G.arr (J2 () hF) trivial trivial rfl


theorem ct_words_Words (line_0 : ByteArray) (r : ((List ByteArray) × Bool)) (hF : words_Words line_0 = some r) : CtG Tryz.prog Γ0 23 [.g (.d (vS line_0))] (.tup [.d (.sl 1 (List.map encS r.1)), .d (vB r.2)]) := by
 unfold words_Words at hF
 refine CtG.intro (GL.ok _ _ _) Tryz.func23 rfl Tryz.ntmps23 rfl rfl fun M w hG => ?_
 refine sr <| p00 (op_assign (Ev.n 1) rfl) <| ac rfl rfl <| esr <| q01 (op_assignRow (E := 9) (size := 1) (k := 2004) (ex := false) rfl rfl) rfl <| eO <| ?_
 refine bl <| ?_
 refine lF (fun (v1 : ByteArray × (List ByteArray)) => ⟨[(0, oS v1.1), (4, .one (.own 2004 (List.map encS v1.2)))], [(2004, some (.row 9 1 (List.map encS v1.2) false))]⟩) hF z2 z1 rfl (fun K4 again3 v1 J2 hF => ?_)
 unfold words_Words_l1 at hF
 refine bl <| sr <| mv rfl rfl <| bn hF fun r5 hr5 hF => p10 (op_callQ cf50 (ct_strings_TrimLeft _ _ _ hr5) rfl rfl (.cons qe (.cons (.g (ec rfl)) .nil)) rfl) rfl <| av rfl rfl <| ?_
 refine eO <| sq <| sr <| mv rfl rfl <| p10 (op_eqS ev (ec rfl) rfl) rfl <| eO <| ?_
 refine ifS hF (fun hc6 hF => ?_) (fun hc6 hF => ?_)
 · refine cT hc6 rfl <| sr <| mv rfl rfl <| av rfl rfl <| ac rfl rfl <| eO <| ?_
   refine G.view (t := 2) rfl rfl ?_
   cases hF
   exact G.ret2 Tryz.results23 (RVar.tmp 2 _) (RVar.tmp 3 _) z2 trivial
 refine cF hc6 rfl <| sk <| sr <| p00 (op_assign (Ev.f 51) rfl) <| eO <| sq <| ?_
 refine sr <| mv rfl rfl <| bn hF fun b7 hb7 hF => p10 (op_indexS uU (sidx_ok hb7).1 (sidx_ok hb7).2 ev (ec rfl) rfl) rfl <| p10 (op_eqI ev (ec rfl) rfl) rfl <| eO <| ?_
 refine ifS hF (fun hc8 hF => ?_) (fun hc8 hF => ?_)
 · refine cT hc8 rfl <| rg <| p00 (op_assign (Ev.f 52) rfl) <| esr <| mv rfl rfl <| mv rfl rfl <| ?_
   refine bn hF fun r9 hr9 hF => p20 (op_callClo (sv := .tup [bS r9.1, bI .i64 r9.2]) (args := _) (gs := _) cf52 (ct_words_quoted _ _ hr9) rfl rfl EvC.nil (.cons qe .nil) rfl) rfl rfl <| p10 (op_moveS (t := 19) (sv := .tup [bS r9.1, bI .i64 r9.2]) rfl) rfl <| p10 (op_extract rfl rfl) rfl <| p10 (op_extract rfl rfl) rfl <| av rfl rfl <| ?_
   refine av rfl rfl <| eO <| sq <| sr <| mv rfl rfl <| p10 (op_eqI ev (ec rfl) rfl) rfl <| ?_
   refine eO <| ?_
   refine ifS hF (fun hc10 hF => ?_) (fun hc10 hF => ?_)
   · refine cT hc10 rfl <| sr <| p00 (op_assign (Ev.n 1) rfl) <| ac rfl rfl <| eO <| ?_
     cases hF
     exact G.ret2 Tryz.results23 (RVar.tmp 2 _) (RVar.tmp 3 _) z2 trivial
   refine cF hc10 rfl <| sk <| sr <| mv rfl rfl <| mv rfl rfl <| p10 (op_buildSlice (es := List.map encS [r9.1]) uU ti9 rfl rfl (.cons ev .nil) rfl rfl (by simp [encS]) rfl) rfl <| ?_
   refine bn hF fun l11 hl11 hF => q21 (op_appendO uU ti9 rfl (app_map hl11 encS) (app_b1 hl11 encS) (app_b2 hl11 encS) ev ev rfl) rfl rfl rfl <| av rfl rfl <| eO <| rg <| mv rfl rfl <| ?_
   refine mv rfl rfl <| bn hF fun s12 hs12 hF => p20 (op_sliceM (.some ev) .none hs12 uU ev rfl) rfl rfl <| av rfl rfl <| eO <| eB <| ?_
   exact G.arr (J2 (s12, l11) hF) z2 z1 rfl
 refine cF hc8 rfl <| sk <| sr <| mv rfl rfl <| mv rfl rfl <| bn hF fun r13 hr13 hF => ?_
 refine p20 (op_callCloG (sv := .tup [bS r13.1, bI .i64 r13.2]) (args := _) hG cf51 (ct_words_bare _ _ hr13) rfl rfl (.cons qe .nil) rfl) rfl rfl <| p10 (op_moveS (t := 19) (sv := .tup [bS r13.1, bI .i64 r13.2]) rfl) rfl <| p10 (op_extract rfl rfl) rfl <| p10 (op_extract rfl rfl) rfl <| av rfl rfl <| av rfl rfl <| ?_
 refine eO <| sq <| sr <| mv rfl rfl <| p10 (op_eqI ev (ec rfl) rfl) rfl <| eO <| ?_
 refine ifS hF (fun hc14 hF => ?_) (fun hc14 hF => ?_)
 · refine cT hc14 rfl <| sr <| p00 (op_assign (Ev.n 1) rfl) <| ac rfl rfl <| eO <| ?_
   cases hF
   exact G.ret2 Tryz.results23 (RVar.tmp 2 _) (RVar.tmp 3 _) z2 trivial
 refine cF hc14 rfl <| sk <| sr <| mv rfl rfl <| mv rfl rfl <| p10 (op_buildSlice (es := List.map encS [r13.1]) uU ti9 rfl rfl (.cons ev .nil) rfl rfl (by simp [encS]) rfl) rfl <| ?_
 refine bn hF fun l15 hl15 hF => q21 (op_appendO uU ti9 rfl (app_map hl15 encS) (app_b1 hl15 encS) (app_b2 hl15 encS) ev ev rfl) rfl rfl rfl <| av rfl rfl <| eO <| rg <| mv rfl rfl <| ?_
 refine mv rfl rfl <| bn hF fun s16 hs16 hF => p20 (op_sliceM (.some ev) .none hs16 uU ev rfl) rfl rfl <| av rfl rfl <| eO <| eB <| ?_
 exact G.arr (J2 (s16, l15) hF) z2 z1 rfl


theorem ct_words_name (kind_0 : Int) (r : ByteArray) (hF : words_name kind_0 = some r) : Ct Tryz.prog 32 [.g (.d (vI kind_0))] (.one (.d (vS r))) := by
 unfold words_name at hF
 refine Ct.intro Tryz.func32 rfl Tryz.ntmps32 rfl rfl fun M w => ?_
 refine sr <| ac rfl rfl <| eO <| sq <| sr <| mv rfl rfl <| ?_
 refine eO <| bl <| sr <| p10 (op_eqI ev (ec rfl) rfl) rfl <| av rfl rfl <| eO <| ?_
 refine ifS hF (fun hc1 hF => ?_) (fun hc1 hF => ?_)
 · refine cT hc1 rfl <| sr <| ac rfl rfl <| eO <| ?_
   cases hF
   exact G.ret1 Tryz.results32 (RVar.tmp 2 _) z1 trivial
 refine cF hc1 rfl <| sr <| p10 (op_eqI ev (ec rfl) rfl) rfl <| av rfl rfl <| eO <| ?_
 refine ifS hF (fun hc2 hF => ?_) (fun hc2 hF => ?_)
 · refine cT hc2 rfl <| sr <| ac rfl rfl <| eO <| ?_
   cases hF
   exact G.ret1 Tryz.results32 (RVar.tmp 2 _) z1 trivial
 refine cF hc2 rfl <| sr <| p10 (op_eqI ev (ec rfl) rfl) rfl <| av rfl rfl <| eO <| ?_
 refine ifS hF (fun hc3 hF => ?_) (fun hc3 hF => ?_)
 · refine cT hc3 rfl <| sr <| ac rfl rfl <| eO <| ?_
   cases hF
   exact G.ret1 Tryz.results32 (RVar.tmp 2 _) z1 trivial
 refine cF hc3 rfl <| sr <| p10 (op_eqI ev (ec rfl) rfl) rfl <| av rfl rfl <| eO <| ?_
 refine ifS hF (fun hc4 hF => ?_) (fun hc4 hF => ?_)
 · refine cT hc4 rfl <| sr <| ac rfl rfl <| eO <| ?_
   cases hF
   exact G.ret1 Tryz.results32 (RVar.tmp 2 _) z1 trivial
 refine cF hc4 rfl <| sr <| p10 (op_eqI ev (ec rfl) rfl) rfl <| av rfl rfl <| eO <| ?_
 refine ifS hF (fun hc5 hF => ?_) (fun hc5 hF => ?_)
 · refine cT hc5 rfl <| sr <| ac rfl rfl <| eO <| ?_
   cases hF
   exact G.ret1 Tryz.results32 (RVar.tmp 2 _) z1 trivial
 refine cF hc5 rfl <| sr <| p10 (op_eqI ev (ec rfl) rfl) rfl <| av rfl rfl <| eO <| ?_
 refine ifS hF (fun hc6 hF => ?_) (fun hc6 hF => ?_)
 · refine cT hc6 rfl <| sr <| ac rfl rfl <| eO <| ?_
   cases hF
   exact G.ret1 Tryz.results32 (RVar.tmp 2 _) z1 trivial
 refine cF hc6 rfl <| sr <| p10 (op_eqI ev (ec rfl) rfl) rfl <| av rfl rfl <| eO <| ?_
 refine ifS hF (fun hc7 hF => ?_) (fun hc7 hF => ?_)
 · refine cT hc7 rfl <| sr <| ac rfl rfl <| eO <| ?_
   cases hF
   exact G.ret1 Tryz.results32 (RVar.tmp 2 _) z1 trivial
 refine cF hc7 rfl <| sr <| p10 (op_eqI ev (ec rfl) rfl) rfl <| av rfl rfl <| eO <| ?_
 refine ifS hF (fun hc8 hF => ?_) (fun hc8 hF => ?_)
 · refine cT hc8 rfl <| sr <| ac rfl rfl <| eO <| ?_
   cases hF
   exact G.ret1 Tryz.results32 (RVar.tmp 2 _) z1 trivial
 refine cF hc8 rfl <| sr <| p10 (op_eqI ev (ec rfl) rfl) rfl <| av rfl rfl <| eO <| ?_
 refine ifS hF (fun hc9 hF => ?_) (fun hc9 hF => ?_)
 · refine cT hc9 rfl <| sr <| ac rfl rfl <| eO <| ?_
   cases hF
   exact G.ret1 Tryz.results32 (RVar.tmp 2 _) z1 trivial
 refine cF hc9 rfl <| sr <| p10 (op_eqI ev (ec rfl) rfl) rfl <| av rfl rfl <| eO <| ?_
 refine ifS hF (fun hc10 hF => ?_) (fun hc10 hF => ?_)
 · refine cT hc10 rfl <| sr <| ac rfl rfl <| eO <| ?_
   cases hF
   exact G.ret1 Tryz.results32 (RVar.tmp 2 _) z1 trivial
 refine cF hc10 rfl <| sr <| p10 (op_eqI ev (ec rfl) rfl) rfl <| av rfl rfl <| eO <| ?_
 refine ifS hF (fun hc11 hF => ?_) (fun hc11 hF => ?_)
 · refine cT hc11 rfl <| sr <| ac rfl rfl <| eO <| ?_
   cases hF
   exact G.ret1 Tryz.results32 (RVar.tmp 2 _) z1 trivial
 refine cF hc11 rfl <| sr <| p10 (op_eqI ev (ec rfl) rfl) rfl <| av rfl rfl <| eO <| ?_
 refine ifS hF (fun hc12 hF => ?_) (fun hc12 hF => ?_)
 · refine cT hc12 rfl <| sr <| ac rfl rfl <| eO <| ?_
   cases hF
   exact G.ret1 Tryz.results32 (RVar.tmp 2 _) z1 trivial
 refine cF hc12 rfl <| sk <| eB <| sr <| ac rfl rfl <| eO <| ?_
 cases hF
 exact G.ret1 Tryz.results32 (RVar.tmp 2 _) z1 trivial


theorem ct_words_kind (word_0 : ByteArray) (r : Int) (hF : words_kind word_0 = some r) : Ct Tryz.prog 53 [.g (.d (vS word_0))] (.one (.d (vI r))) := by
 unfold words_kind at hF
 refine Ct.intro Tryz.func53 rfl Tryz.ntmps53 rfl rfl fun M w => ?_
 refine sr <| ac rfl rfl <| eO <| sq <| sr <| ac rfl rfl <| ?_
 refine eO <| ?_
 refine G.joinC (T := Unit) (fun y1 => ⟨[], []⟩) (fun y1 => words_kind_k1 y1 = some r) (fun y1 hF => ?_) (fun J2 => ?_)
 · unfold words_kind_k1 at hF
   refine sr <| ac rfl rfl <| eO <| ?_
   cases hF
   exact G.ret1 Tryz.results53 (RVar.tmp 2 _) z1 trivial
 refine bl <| ?_
 refine lF (fun (v3 : Int) => ⟨[(0, oS word_0), (3, oI v3)], []⟩) hF z2 trivial rfl (fun K6 again5 v3 J4 hF => ?_)
 unfold words_kind_l2 at hF
 refine sq <| sr <| mv rfl rfl <| p10 (op_leq ev (ec rfl) rfl) rfl <| eO <| ?_
 refine ifS hF (fun hc7 hF => ?_) (fun hc7 hF => ?_)
 · refine cT hc7 rfl <| sk <| sq <| bl <| sr <| mv rfl rfl <| ?_
   refine bn hF fun r8 hr8 hF => p10 (op_callQ cf32 (ct_words_name _ _ hr8) rfl rfl (.cons qe .nil) rfl) rfl <| mv rfl rfl <| p20 (op_eqS ev ev rfl) rfl rfl <| eO <| ?_
   refine ifS hF (fun hc9 hF => ?_) (fun hc9 hF => ?_)
   · refine cT hc9 rfl <| sr <| mv rfl rfl <| av rfl rfl <| eO <| ?_
     cases hF
     exact G.ret1 Tryz.results53 (RVar.tmp 2 _) z1 trivial
   refine cF hc9 rfl <| sk <| eB <| rg <| mv rfl rfl <| p10 (op_add ev (ec rfl) rfl) rfl <| ?_
   refine av rfl rfl <| eO <| ?_
   exact G.arr (J4 (IntKind.wrap .i64 (v3 + 1)) hF) z2 trivial rfl
 refine cF hc7 rfl <| ex <| ?_
 refine GX.c ?_
 refine GX.q ?_
 refine xY <| ?_
 exact G.arr (J2 () hF) trivial trivial rfl


theorem ct_words_reader_next (r_0 : Words_reader) (r : (Words_reader × ByteArray)) (hF : words_reader_next r_0 = some r) : CtM Tryz.prog 86 [.pt (.dat 82 (encWords_reader r_0))] (.dat 82 (encWords_reader r.1)) (.one (.d (vS r.2))) := by
 unfold words_reader_next at hF
 refine CtM.intro (h := .dat 82 (encWords_reader r_0)) 0 Tryz.func86 rfl Tryz.ntmps86 rfl rfl rfl rfl (fun M w b go => ?_)
 refine sr <| ac rfl rfl <| eO <| sq <| sr <| mv rfl rfl <| ?_
 refine p10 (op_nilCheckP ev rfl) rfl <| p10 (op_fieldP (off' := 0) uU rfl ti24 (by decide) rfl ev rfl) rfl <| p11 (op_load1P uU rfl rfl ev rfl) rfl rfl <| p10 (op_lenM uU ev rfl) rfl <| p10 (op_eqI ev (ec rfl) rfl) rfl <| eO <| ?_
 refine ifS hF (fun hc1 hF => ?_) (fun hc1 hF => ?_)
 · refine cT hc1 rfl <| sr <| mv rfl rfl <| p10 (op_nilCheckP ev rfl) rfl <| p10 (op_fieldP (off' := 1) uU rfl ti4 (by decide) rfl ev rfl) rfl <| w11 (op_store1M sgd ti4 rfl ev (ec rfl)) rfl rfl <| ?_
   refine esr <| ac rfl rfl <| eO <| ?_
   have hF := Option.some.inj hF; subst hF
   exact G.retM (retOK1 Tryz.results86 (RVar.tmp 2 _)) z1 trivial z1
 refine cF hc1 rfl <| sk <| sr <| mv rfl rfl <| p10 (op_nilCheckP ev rfl) rfl <| p10 (op_fieldP (off' := 0) uU rfl ti24 (by decide) rfl ev rfl) rfl <| ?_
 refine p11 (op_load1P uU rfl rfl ev rfl) rfl rfl <| bn hF fun x2 hx2 hF => p10 (op_indexM hx2 uU ti9 ev (ec rfl) rfl) rfl <| p10 (op_load1E uU rfl rfl ev rfl) rfl <| av rfl rfl <| esr <| ?_
 refine mv rfl rfl <| mv rfl rfl <| p10 (op_nilCheckP ev rfl) rfl <| p10 (op_fieldP (off' := 0) uU rfl ti24 (by decide) rfl ev rfl) rfl <| p11 (op_load1P uU rfl rfl ev rfl) rfl rfl <| bn hF fun l3 hl3 hF => ?_
 refine p10 (op_sliceD (lo := some 1) (hi := none) uU ti9 (sub_okE hl3 encS).1 (sub_okE hl3 encS).2.1 (Int.le_refl _) (sub_okE hl3 encS).2.2 ev (.some (ec rfl)) .none rfl) rfl <| p10 (op_nilCheckP ev rfl) rfl <| p10 (op_fieldP (off' := 0) uU rfl ti24 (by decide) rfl ev rfl) rfl <| w21 (op_store1M sgd ti24 rfl ev ev) rfl rfl rfl <| esr <| mv rfl rfl <| ?_
 refine av rfl rfl <| eO <| ?_
 have hF := Option.some.inj hF; subst hF
 exact G.retM (retOK1 Tryz.results86 (RVar.tmp 2 _)) z1 trivial z1


theorem ct_words_decimal (s_0 : ByteArray) (r : (Int × Bool)) (hF : words_decimal s_0 = some r) : Ct Tryz.prog 85 [.g (.d (vS s_0))] (.tup [.d (vI r.1), .d (vB r.2)]) := by
 unfold words_decimal at hF
 refine Ct.intro Tryz.func85 rfl Tryz.ntmps85 rfl rfl fun M w => ?_
 refine sr <| ac rfl rfl <| ac rfl rfl <| eO <| sq <| sq <| ?_
 refine G.joinC (T := Bool) (fun y1 => ⟨[(0, oS s_0), (22, oB y1)], []⟩) (fun y1 => words_decimal_k1 s_0 y1 = some r) (fun y1 hF => ?_) (fun J17 => ?_)
 · unfold words_decimal_k1 at hF
   refine ifS hF (fun hc2 hF => ?_) (fun hc2 hF => ?_)
   · refine cT hc2 rfl <| sr <| ac rfl rfl <| ac rfl rfl <| eO <| ?_
     cases hF
     exact G.ret2 Tryz.results85 (RVar.tmp 2 _) (RVar.tmp 3 _) z2 trivial
   refine cF hc2 rfl <| sk <| sr <| ac rfl rfl <| eO <| sq <| ?_
   refine sr <| mv rfl rfl <| p10 (op_lenS uU ev rfl) rfl <| p00 (op_move (ec rfl) rfl) <| eO <| ?_
   refine G.joinC (T := Int) (fun y3 => ⟨[(4, oI y3)], []⟩) (fun y3 => words_decimal_k2 y3 = some r) (fun y3 hF => ?_) (fun J4 => ?_)
   · unfold words_decimal_k2 at hF
     refine sr <| mv rfl rfl <| mv rfl rfl <| p10 (op_leq ev (ec rfl) rfl) rfl <| av rfl rfl <| av rfl rfl <| ?_
     refine eO <| ?_
     cases hF
     exact G.ret2 Tryz.results85 (RVar.tmp 2 _) (RVar.tmp 3 _) z2 trivial
   refine bl <| ?_
   refine lF (fun (v5 : Int × Int) => ⟨[(0, oS s_0), (4, oI v5.1), (24, oI (s_0.size : Int)), (25, oI v5.2)], []⟩) hF z4 trivial rfl (fun K8 again7 v5 J6 hF => ?_)
   unfold words_decimal_l3 at hF
   refine sr <| p20 (op_lss ev ev rfl) rfl rfl <| eO <| sq <| ?_
   refine ifS hF (fun hc9 hF => ?_) (fun hc9 hF => ?_)
   · refine cT hc9 rfl <| sk <| sq <| bl <| sr <| mv rfl rfl <| ?_
     refine av rfl rfl <| eO <| sq <| sq <| ?_
     refine G.joinC (T := Bool) (fun y10 => ⟨[(0, oS s_0), (4, oI v5.1), (5, oI v5.2), (24, oI (s_0.size : Int)), (25, oI v5.2), (37, oB y10)], []⟩) (fun y10 => words_decimal_k4 s_0 again7 v5 y10 = some r) (fun y10 hF => ?_) (fun J13 => ?_)
     · unfold words_decimal_k4 at hF
       refine ifS hF (fun hc11 hF => ?_) (fun hc11 hF => ?_)
       · refine cT hc11 rfl <| sr <| ac rfl rfl <| ac rfl rfl <| eO <| ?_
         cases hF
         exact G.ret2 Tryz.results85 (RVar.tmp 2 _) (RVar.tmp 3 _) z2 trivial
       refine cF hc11 rfl <| sk <| rg <| mv rfl rfl <| p10 (op_mul ev (ec rfl) rfl) rfl <| mv rfl rfl <| ?_
       refine mv rfl rfl <| bn hF fun b12 hb12 hF => p20 (op_indexS uU (sidx_ok hb12).1 (sidx_ok hb12).2 ev ev rfl) rfl rfl <| p10 (op_sub ev (ec rfl) rfl) rfl <| p10 (op_convI uU uU ev rfl) rfl <| p20 (op_add ev ev rfl) rfl rfl <| ?_
       refine av rfl rfl <| eO <| eB <| rg <| p10 (op_add ev (ec rfl) rfl) rfl <| mv rfl rfl <| ?_
       refine eO <| ?_
       exact G.arr (J6 (IntKind.wrap .i64 ((IntKind.wrap .i64 (v5.1 * 10)) + (IntKind.wrap .i64 (IntKind.wrap .u8 ((b12.toNat : Int) - 48)))), IntKind.wrap .i64 (v5.2 + 1)) hF) z4 trivial rfl
     refine rg <| mv rfl rfl <| mv rfl rfl <| bn hF fun b14 hb14 hF => p20 (op_indexS uU (sidx_ok hb14).1 (sidx_ok hb14).2 ev ev rfl) rfl rfl <| p10 (op_lss ev (ec rfl) rfl) rfl <| ?_
     refine mv rfl rfl <| ?_
     refine ifS hF (fun hc15 hF => ?_) (fun hc15 hF => ?_)
     · refine G.known (t := 32) hc15 rfl <| oN rfl rfl rfl <| oN rfl rfl rfl <| oN rfl rfl rfl <| oN rfl rfl rfl <| p10 (op_pickT ev (ec rfl) rfl) rfl <| ?_
       refine eO <| ?_
       exact G.arr (J13 true hF) z6 trivial rfl
     refine G.known (t := 32) hc15 rfl <| g10 (op_move ev rfl) rfl rfl rfl <| g10 (op_move ev rfl) rfl rfl rfl <| bn hF fun b16 hb16 hF => g20 (op_indexS uU (sidx_ok hb16).1 (sidx_ok hb16).2 ev ev rfl) rfl rfl rfl rfl <| g10 (op_gtr ev (ec rfl) rfl) rfl rfl rfl <| ?_
     refine p20 (op_pickF ev ev rfl) rfl rfl <| eO <| ?_
     exact G.arr (J13 (decide (57 < (b16.toNat : Int))) hF) z6 trivial rfl
   refine cF hc9 rfl <| ex <| ?_
   refine GX.c ?_
   refine GX.q ?_
   refine xY <| ?_
   exact G.arr (J4 v5.1 hF) z1 trivial rfl
 refine rg <| mv rfl rfl <| p10 (op_eqS ev (ec rfl) rfl) rfl <| mv rfl rfl <| ?_
 refine G.joinL (T := Bool) 4 (fun y18 => ⟨[(0, oS s_0), (12, oB y18)], []⟩) (fun y18 => words_decimal_k5 s_0 y18 = some r) (fun y18 hF => ?_) (fun J22 => ?_)
 · unfold words_decimal_k5 at hF
   refine mv rfl rfl <| ?_
   refine ifS hF (fun hc19 hF => ?_) (fun hc19 hF => ?_)
   · refine G.known (t := 13) hc19 rfl <| oN rfl rfl rfl <| oN rfl rfl rfl <| oN rfl rfl rfl <| oN rfl rfl rfl <| ?_
     refine G.opU rfl rfl rfl rfl ?_
     refine G.opU rfl rfl rfl rfl ?_
     refine G.opU rfl rfl rfl rfl ?_
     refine oN rfl rfl rfl <| p10 (op_pickT ev (ec rfl) rfl) rfl <| eO <| ?_
     exact G.arr (J17 true hF) z2 trivial rfl
   refine G.known (t := 13) hc19 rfl <| g10 (op_move ev rfl) rfl rfl rfl <| g10 (op_lenS uU ev rfl) rfl rfl rfl <| g10 (op_eqI ev (ec rfl) rfl) rfl rfl rfl <| g10 (op_move ev rfl) rfl rfl rfl <| ?_
   refine ifS hF (fun hc20 hF => ?_) (fun hc20 hF => ?_)
   · refine G.known (t := 17) hc20 rfl <| g10 (op_move ev rfl) rfl rfl rfl <| bn hF fun b21 hb21 hF => g10 (op_indexS uU (sidx_ok hb21).1 (sidx_ok hb21).2 ev (ec rfl) rfl) rfl rfl rfl <| g10 (op_eqI ev (ec rfl) rfl) rfl rfl rfl <| g20 (op_pickT ev ev rfl) rfl rfl rfl rfl <| ?_
     refine p20 (op_pickF ev ev rfl) rfl rfl <| eO <| ?_
     exact G.arr (J17 (decide ((b21.toNat : Int) = 48)) hF) z2 trivial rfl
   refine G.known (t := 17) hc20 rfl <| oN rfl rfl rfl <| oN rfl rfl rfl <| oN rfl rfl rfl <| g10 (op_pickF ev (ec rfl) rfl) rfl rfl rfl <| p20 (op_pickF ev ev rfl) rfl rfl <| ?_
   refine eO <| ?_
   exact G.arr (J17 false hF) z2 trivial rfl
 refine ifS hF (fun hc23 hF => ?_) (fun hc23 hF => ?_)
 · refine G.known (t := 8) hc23 rfl <| oN rfl rfl rfl <| oN rfl rfl rfl <| oN rfl rfl rfl <| p10 (op_pickT ev (ec rfl) rfl) rfl <| ?_
   exact G.arr (J22 true hF) z2 trivial rfl
 refine G.known (t := 8) hc23 rfl <| g10 (op_move ev rfl) rfl rfl rfl <| g10 (op_lenS uU ev rfl) rfl rfl rfl <| g10 (op_gtr ev (ec rfl) rfl) rfl rfl rfl <| p20 (op_pickF ev ev rfl) rfl rfl <| ?_
 exact G.arr (J22 (decide (2 < (s_0.size : Int))) hF) z2 trivial rfl


theorem ct_words_reader_number (r_0 : Words_reader) (r : (Words_reader × Int)) (hF : words_reader_number r_0 = some r) : CtM Tryz.prog 54 [.pt (.dat 82 (encWords_reader r_0))] (.dat 82 (encWords_reader r.1)) (.one (.d (vI r.2))) := by
 unfold words_reader_number at hF
 refine CtM.intro (h := .dat 82 (encWords_reader r_0)) 0 Tryz.func54 rfl Tryz.ntmps54 rfl rfl rfl rfl (fun M w b go => ?_)
 refine sr <| ac rfl rfl <| esr <| mv rfl rfl <| bn hF fun r1 hr1 hF => ?_
 refine G.opM (op_callM (k := 0) (h := .dat 82 (encWords_reader r_0)) (h' := .dat 82 (encWords_reader r1.1)) 0 (sv := oS r1.2) cf86 (ct_words_reader_next _ _ hr1) rfl rfl (.pt ev .nil) rfl) rfl z1 z1 ?_
 refine bn hF fun r2 hr2 hF => p10 (op_callQ cf85 (ct_words_decimal _ _ hr2) rfl rfl (.cons qe .nil) rfl) rfl <| p10 (op_moveS (t := 8) (sv := .tup [bI .i64 r2.1, bB r2.2]) rfl) rfl <| p10 (op_extract rfl rfl) rfl <| p10 (op_extract rfl rfl) rfl <| av rfl rfl <| ?_
 refine av rfl rfl <| esr <| mv rfl rfl <| mv rfl rfl <| p10 (op_nilCheckP ev rfl) rfl <| p10 (op_fieldP (off' := 1) uU rfl ti4 (by decide) rfl ev rfl) rfl <| ?_
 refine p11 (op_load1P uU rfl rfl ev rfl) rfl rfl <| mv rfl rfl <| ?_
 refine ifS hF (fun hc3 hF => ?_) (fun hc3 hF => ?_)
 · refine G.known (t := 16) hc3 rfl <| oN rfl rfl rfl <| oN rfl rfl rfl <| p10 (op_pickT ev (ec rfl) rfl) rfl <| p10 (op_nilCheckP ev rfl) rfl <| p10 (op_fieldP (off' := 1) uU rfl ti4 (by decide) rfl ev rfl) rfl <| ?_
   refine w21 (op_store1M sgd ti4 rfl ev ev) rfl rfl rfl <| esr <| mv rfl rfl <| av rfl rfl <| eO <| ?_
   have hF := Option.some.inj hF; subst hF
   exact G.retM (retOK1 Tryz.results54 (RVar.tmp 2 _)) z1 trivial z1
 refine G.known (t := 16) hc3 rfl <| g10 (op_move ev rfl) rfl rfl rfl <| g10 (op_not ev rfl) rfl rfl rfl <| p20 (op_pickF ev ev rfl) rfl rfl <| p10 (op_nilCheckP ev rfl) rfl <| p10 (op_fieldP (off' := 1) uU rfl ti4 (by decide) rfl ev rfl) rfl <| ?_
 refine w21 (op_store1M sgd ti4 rfl ev ev) rfl rfl rfl <| esr <| mv rfl rfl <| av rfl rfl <| eO <| ?_
 have hF := Option.some.inj hF; subst hF
 exact G.retM (retOK1 Tryz.results54 (RVar.tmp 2 _)) z1 trivial z1


theorem ct_internal_stringslite_HasPrefix (s_0 : ByteArray) (prefix_1 : ByteArray) (r : Bool) (hF : internal_stringslite_HasPrefix s_0 prefix_1 = some r) : Ct Tryz.prog 118 [.g (.d (vS s_0)), .g (.d (vS prefix_1))] (.one (.d (vB r))) := by
 unfold internal_stringslite_HasPrefix at hF
 refine Ct.intro Tryz.func118 rfl Tryz.ntmps118 rfl rfl fun M w => ?_
 refine sr <| ac rfl rfl <| esr <| mv rfl rfl <| p10 (op_lenS uU ev rfl) rfl <| mv rfl rfl <| ?_
 refine p10 (op_lenS uU ev rfl) rfl <| p20 (op_geq ev ev rfl) rfl rfl <| mv rfl rfl <| ?_
 refine ifS hF (fun hc1 hF => ?_) (fun hc1 hF => ?_)
 · refine G.known (t := 10) hc1 rfl <| g10 (op_move ev rfl) rfl rfl rfl <| g10 (op_move ev rfl) rfl rfl rfl <| g10 (op_lenS uU ev rfl) rfl rfl rfl <| bn hF fun s2 hs2 hF => g20 (op_sliceM .none (.some ev) hs2 uU ev rfl) rfl rfl rfl rfl <| ?_
   refine g10 (op_move ev rfl) rfl rfl rfl <| g20 (op_eqS ev ev rfl) rfl rfl rfl rfl <| p20 (op_pickT ev ev rfl) rfl rfl <| av rfl rfl <| eO <| ?_
   cases hF
   exact G.ret1 Tryz.results118 (RVar.tmp 4 _) z1 trivial
 refine G.known (t := 10) hc1 rfl <| oN rfl rfl rfl <| oN rfl rfl rfl <| oN rfl rfl rfl <| oN rfl rfl rfl <| oN rfl rfl rfl <| ?_
 refine oN rfl rfl rfl <| p10 (op_pickF ev (ec rfl) rfl) rfl <| av rfl rfl <| eO <| ?_
 cases hF
 exact G.ret1 Tryz.results118 (RVar.tmp 4 _) z1 trivial


theorem ct_internal_stringslite_TrimPrefix (s_0 : ByteArray) (prefix_1 : ByteArray) (r : ByteArray) (hF : internal_stringslite_TrimPrefix s_0 prefix_1 = some r) : Ct Tryz.prog 105 [.g (.d (vS s_0)), .g (.d (vS prefix_1))] (.one (.d (vS r))) := by
 unfold internal_stringslite_TrimPrefix at hF
 refine Ct.intro Tryz.func105 rfl Tryz.ntmps105 rfl rfl fun M w => ?_
 refine sr <| ac rfl rfl <| eO <| sq <| sr <| mv rfl rfl <| ?_
 refine mv rfl rfl <| bn hF fun r1 hr1 hF => p20 (op_callQ cf118 (ct_internal_stringslite_HasPrefix _ _ _ hr1) rfl rfl (.cons qe (.cons qe .nil)) rfl) rfl rfl <| eO <| ?_
 refine ifS hF (fun hc2 hF => ?_) (fun hc2 hF => ?_)
 · refine cT hc2 rfl <| sr <| mv rfl rfl <| mv rfl rfl <| p10 (op_lenS uU ev rfl) rfl <| bn hF fun s3 hs3 hF => ?_
   refine p20 (op_sliceM (.some ev) .none hs3 uU ev rfl) rfl rfl <| av rfl rfl <| eO <| ?_
   cases hF
   exact G.ret1 Tryz.results105 (RVar.tmp 4 _) z1 trivial
 refine cF hc2 rfl <| sk <| sr <| mv rfl rfl <| av rfl rfl <| eO <| ?_
 cases hF
 exact G.ret1 Tryz.results105 (RVar.tmp 4 _) z1 trivial


theorem ct_strings_TrimPrefix (s_0 : ByteArray) (prefix_1 : ByteArray) (r : ByteArray) (hF : strings_TrimPrefix s_0 prefix_1 = some r) : Ct Tryz.prog 87 [.g (.d (vS s_0)), .g (.d (vS prefix_1))] (.one (.d (vS r))) := by
 unfold strings_TrimPrefix at hF
 refine Ct.intro Tryz.func87 rfl Tryz.ntmps87 rfl rfl fun M w => ?_
 refine sr <| ac rfl rfl <| esr <| mv rfl rfl <| mv rfl rfl <| bn hF fun r1 hr1 hF => ?_
 refine p20 (op_callQ cf105 (ct_internal_stringslite_TrimPrefix _ _ _ hr1) rfl rfl (.cons qe (.cons qe .nil)) rfl) rfl rfl <| av rfl rfl <| eO <| ?_
 cases hF
 exact G.ret1 Tryz.results87 (RVar.tmp 4 _) z1 trivial


theorem ct_words_reader_text (r_0 : Words_reader) (r : (Words_reader × ByteArray)) (hF : words_reader_text r_0 = some r) : CtM Tryz.prog 55 [.pt (.dat 82 (encWords_reader r_0))] (.dat 82 (encWords_reader r.1)) (.one (.d (vS r.2))) := by
 unfold words_reader_text at hF
 refine CtM.intro (h := .dat 82 (encWords_reader r_0)) 0 Tryz.func55 rfl Tryz.ntmps55 rfl rfl rfl rfl (fun M w b go => ?_)
 refine sr <| ac rfl rfl <| esr <| mv rfl rfl <| bn hF fun r1 hr1 hF => ?_
 refine G.opM (op_callM (k := 0) (h := .dat 82 (encWords_reader r_0)) (h' := .dat 82 (encWords_reader r1.1)) 0 (sv := oS r1.2) cf86 (ct_words_reader_next _ _ hr1) rfl rfl (.pt ev .nil) rfl) rfl z1 z1 ?_
 refine bn hF fun r2 hr2 hF => p10 (op_callQ cf87 (ct_strings_TrimPrefix _ _ _ hr2) rfl rfl (.cons qe (.cons (.g (ec rfl)) .nil)) rfl) rfl <| av rfl rfl <| esr <| mv rfl rfl <| mv rfl rfl <| ?_
 refine p10 (op_nilCheckP ev rfl) rfl <| p10 (op_fieldP (off' := 1) uU rfl ti4 (by decide) rfl ev rfl) rfl <| p11 (op_load1P uU rfl rfl ev rfl) rfl rfl <| mv rfl rfl <| ?_
 refine ifS hF (fun hc3 hF => ?_) (fun hc3 hF => ?_)
 · refine G.known (t := 12) hc3 rfl <| oN rfl rfl rfl <| oN rfl rfl rfl <| oN rfl rfl rfl <| p10 (op_pickT ev (ec rfl) rfl) rfl <| p10 (op_nilCheckP ev rfl) rfl <| ?_
   refine p10 (op_fieldP (off' := 1) uU rfl ti4 (by decide) rfl ev rfl) rfl <| w21 (op_store1M sgd ti4 rfl ev ev) rfl rfl rfl <| esr <| mv rfl rfl <| av rfl rfl <| eO <| ?_
   have hF := Option.some.inj hF; subst hF
   exact G.retM (retOK1 Tryz.results55 (RVar.tmp 2 _)) z1 trivial z1
 refine G.known (t := 12) hc3 rfl <| g10 (op_move ev rfl) rfl rfl rfl <| g10 (op_lenS uU ev rfl) rfl rfl rfl <| g10 (op_gtr ev (ec rfl) rfl) rfl rfl rfl <| p20 (op_pickF ev ev rfl) rfl rfl <| p10 (op_nilCheckP ev rfl) rfl <| ?_
 refine p10 (op_fieldP (off' := 1) uU rfl ti4 (by decide) rfl ev rfl) rfl <| w21 (op_store1M sgd ti4 rfl ev ev) rfl rfl rfl <| esr <| mv rfl rfl <| av rfl rfl <| eO <| ?_
 have hF := Option.some.inj hF; subst hF
 exact G.retM (retOK1 Tryz.results55 (RVar.tmp 2 _)) z1 trivial z1


theorem ct_words_reader_more (r_0 : Words_reader) (r : (Words_reader × Bool)) (hF : words_reader_more r_0 = some r) : CtM Tryz.prog 56 [.pt (.dat 82 (encWords_reader r_0))] (.dat 82 (encWords_reader r.1)) (.one (.d (vB r.2))) := by
 unfold words_reader_more at hF
 refine CtM.intro (h := .dat 82 (encWords_reader r_0)) 0 Tryz.func56 rfl Tryz.ntmps56 rfl rfl rfl rfl (fun M w b go => ?_)
 refine sr <| ac rfl rfl <| esr <| mv rfl rfl <| p10 (op_nilCheckP ev rfl) rfl <| p10 (op_fieldP (off' := 0) uU rfl ti24 (by decide) rfl ev rfl) rfl <| ?_
 refine p11 (op_load1P uU rfl rfl ev rfl) rfl rfl <| p10 (op_lenM uU ev rfl) rfl <| p10 (op_gtr ev (ec rfl) rfl) rfl <| mv rfl rfl <| ?_
 refine ifS hF (fun hc1 hF => ?_) (fun hc1 hF => ?_)
 · refine G.known (t := 9) hc1 rfl <| g10 (op_move ev rfl) rfl rfl rfl <| g10 (op_nilCheckP ev rfl) rfl rfl rfl <| g10 (op_fieldP (off' := 1) uU rfl ti4 (by decide) rfl ev rfl) rfl rfl rfl <| g11 (op_load1P uU rfl rfl ev rfl) rfl rfl rfl rfl <| g10 (op_not ev rfl) rfl rfl rfl <| ?_
   refine p20 (op_pickT ev ev rfl) rfl rfl <| av rfl rfl <| eO <| ?_
   have hF := Option.some.inj hF; subst hF
   exact G.retM (retOK1 Tryz.results56 (RVar.tmp 2 _)) z1 trivial z1
 refine G.known (t := 9) hc1 rfl <| oN rfl rfl rfl <| oN rfl rfl rfl <| oN rfl rfl rfl <| oN rfl rfl rfl <| oN rfl rfl rfl <| ?_
 refine p10 (op_pickF ev (ec rfl) rfl) rfl <| av rfl rfl <| eO <| ?_
 have hF := Option.some.inj hF; subst hF
 exact G.retM (retOK1 Tryz.results56 (RVar.tmp 2 _)) z1 trivial z1


theorem ct_keys_Runes (s_0 : ByteArray) (r : Int) (hF : keys_Runes s_0 = some r) : Ct Tryz.prog 125 [.g (.d (vS s_0))] (.one (.d (vI r))) := by
 unfold keys_Runes at hF
 refine Ct.intro Tryz.func125 rfl Tryz.ntmps125 rfl rfl fun M w => ?_
 refine sr <| ac rfl rfl <| esr <| ac rfl rfl <| eO <| sq <| ?_
 refine sr <| mv rfl rfl <| q11 (op_range (k := 1007) uU ev rfl) rfl rfl <| eO <| ?_
 refine G.joinC (T := Int) (fun y1 => ⟨[(3, oI y1)], []⟩) (fun y1 => keys_Runes_k1 y1 = some r) (fun y1 hF => ?_) (fun J2 => ?_)
 · unfold keys_Runes_k1 at hF
   refine sr <| mv rfl rfl <| av rfl rfl <| eO <| ?_
   cases hF
   exact G.ret1 Tryz.results125 (RVar.tmp 2 _) z1 trivial
 refine bl <| ?_
 refine lF (fun (v3 : Int × Nat) => ⟨[(0, oS s_0), (3, oI v3.1), (7, .one (.ptr 1007 0))], [(1007, some (.it s_0 v3.2))]⟩) hF z3 z1 rfl (fun K6 again5 v3 J4 hF => ?_)
 unfold keys_Runes_l2 at hF
 refine sr <| ?_
 refine ifS hF (fun hc7 hF => ?_) (fun hc7 hF => ?_)
 · refine q11 (op_nextT hc7 ev rfl) rfl rfl <| p10 (op_extract rfl rfl) rfl <| eO <| sq <| ?_
   refine G.condT rfl ?_
   refine sk <| bl <| sr <| p10 (op_extract rfl rfl) rfl <| p10 (op_extract rfl rfl) rfl <| av rfl rfl <| ?_
   refine av rfl rfl <| eO <| sq <| sq <| ?_
   refine G.joinC (T := Bool × Nat) (fun y8 => ⟨[(0, oS s_0), (3, oI v3.1), (4, oI (v3.2 : Int)), (5, .one (bI .i32 ((Utf8.decode s_0 v3.2).1 : Int))), (7, .one (.ptr 1007 0)), (20, oB y8.1)], [(1007, some (.it s_0 y8.2))]⟩) (fun y8 => keys_Runes_k3 s_0 again5 v3 y8 = some r) (fun y8 hF => ?_) (fun J14 => ?_)
   · unfold keys_Runes_k3 at hF
     refine ifS hF (fun hc9 hF => ?_) (fun hc9 hF => ?_)
     · refine cT hc9 rfl <| sr <| ac rfl rfl <| eO <| ?_
       cases hF
       exact G.ret1 Tryz.results125 (RVar.tmp 2 _) z1 trivial
     refine cF hc9 rfl <| sk <| sq <| sr <| mv rfl rfl <| p10 (op_eqI ev (ec rfl) rfl) rfl <| ?_
     refine mv rfl rfl <| ?_
     refine ifS hF (fun hc10 hF => ?_) (fun hc10 hF => ?_)
     · refine G.known (t := 23) hc10 rfl <| g10 (op_move ev rfl) rfl rfl rfl <| g10 (op_lenS uU ev rfl) rfl rfl rfl <| g10 (op_move ev rfl) rfl rfl rfl <| g20 (op_sub ev ev rfl) rfl rfl rfl rfl <| g10 (op_lss ev (ec rfl) rfl) rfl rfl rfl <| ?_
       refine g10 (op_move ev rfl) rfl rfl rfl <| ?_
       refine ifS hF (fun hc11 hF => ?_) (fun hc11 hF => ?_)
       · refine G.known (t := 29) hc11 rfl <| oN rfl rfl rfl <| oN rfl rfl rfl <| oN rfl rfl rfl <| oN rfl rfl rfl <| oN rfl rfl rfl <| ?_
         refine oN rfl rfl rfl <| g10 (op_pickT ev (ec rfl) rfl) rfl rfl rfl <| p20 (op_pickT ev ev rfl) rfl rfl <| eO <| ?_
         refine G.condT rfl ?_
         refine sr <| ac rfl rfl <| eO <| ?_
         cases hF
         exact G.ret1 Tryz.results125 (RVar.tmp 2 _) z1 trivial
       refine G.known (t := 29) hc11 rfl <| g10 (op_move ev rfl) rfl rfl rfl <| g10 (op_move ev rfl) rfl rfl rfl <| g10 (op_move ev rfl) rfl rfl rfl <| g10 (op_add ev (ec rfl) rfl) rfl rfl rfl <| bn hF fun s12 hs12 hF => ?_
       refine g30 (op_sliceK ev ev hs12 uU ev rfl) rfl rfl rfl rfl rfl <| g10 (op_neS ev (ec rfl) rfl) rfl rfl rfl <| g20 (op_pickF ev ev rfl) rfl rfl rfl rfl <| p20 (op_pickT ev ev rfl) rfl rfl <| eO <| ?_
       refine ifS hF (fun hc13 hF => ?_) (fun hc13 hF => ?_)
       · refine cT hc13 rfl <| sr <| ac rfl rfl <| eO <| ?_
         cases hF
         exact G.ret1 Tryz.results125 (RVar.tmp 2 _) z1 trivial
       refine cF hc13 rfl <| sk <| rg <| mv rfl rfl <| p10 (op_add ev (ec rfl) rfl) rfl <| av rfl rfl <| ?_
       refine eO <| eB <| ?_
       exact G.arr (J4 (IntKind.wrap .i64 (v3.1 + 1), y8.2) hF) z3 z1 rfl
     refine G.known (t := 23) hc10 rfl <| oN rfl rfl rfl <| oN rfl rfl rfl <| oN rfl rfl rfl <| oN rfl rfl rfl <| oN rfl rfl rfl <| ?_
     refine oN rfl rfl rfl <| ?_
     refine G.opU rfl rfl rfl rfl ?_
     refine G.opU rfl rfl rfl rfl ?_
     refine G.opU rfl rfl rfl rfl ?_
     refine G.opU rfl rfl rfl rfl ?_
     refine G.opU rfl rfl rfl rfl ?_
     refine G.opU rfl rfl rfl rfl ?_
     refine oN rfl rfl rfl <| p10 (op_pickF ev (ec rfl) rfl) rfl <| eO <| ?_
     refine G.condF rfl ?_
     refine sk <| rg <| mv rfl rfl <| p10 (op_add ev (ec rfl) rfl) rfl <| av rfl rfl <| eO <| ?_
     refine eB <| ?_
     exact G.arr (J4 (IntKind.wrap .i64 (v3.1 + 1), y8.2) hF) z3 z1 rfl
   refine ifS hF (fun hc15 hF => ?_) (fun hc15 hF => ?_)
   · refine bn hF fun b16 hb16 hF => bn hF fun b17 hb17 hF => ?_
     refine G.drawnI (deps := [[], [0], [0, 1], [0, 1, 2], [0, 1, 2], [0, 1, 2, 3, 4], [0, 1, 2], [0, 1, 2, 3, 4, 5, 6], [0, 1, 2, 3, 4, 5, 6, 7]]) (sl' := [(0, oS s_0), (3, oI v3.1), (4, oI (v3.2 : Int)), (5, .one (bI .i32 ((Utf8.decode s_0 v3.2).1 : Int))), (7, .one (.ptr 1007 0)), (20, oB (!decide ((b16.toNat : Int) = (b17.toNat : Int))))]) (hp' := [(1007, some (.it s_0 (v3.2 + (Utf8.decode s_0 v3.2).2)))]) (.c (oP rfl rfl (op_move ev rfl)) (.c (oP rfl rfl (OpL.cast (op_eqI ev (ec rfl) rfl) (congrArg (fun b => bB b) hc15))) (.c (oP rfl rfl (op_move ev rfl)) (.c (oY rfl rfl rfl (op_move ev rfl)) (.c (oY rfl rfl rfl (op_move ev rfl)) (.c (oY rfl rfl rfl (op_indexS uU (sidx_ok hb16).1 (sidx_ok hb16).2 ev ev rfl)) (.c (oY rfl rfl rfl (op_indexS uU (sidx_ok hb17).1 (sidx_ok hb17).2 (ec rfl) (ec rfl) rfl)) (.c (oY rfl rfl rfl (op_neI ev ev rfl)) (.c (oP rfl rfl (op_pickT ev ev rfl)) .nil))))))))) follows rfl rfl rfl ⟨⟨rfl, trivial⟩, trivial, ⟨rfl, trivial⟩, trivial, ⟨rfl, trivial⟩, trivial, ⟨rfl, rfl, trivial⟩, trivial, ⟨rfl, rfl, trivial⟩, trivial, ⟨rfl, rfl, rfl, trivial⟩, trivial, ⟨rfl, trivial⟩, trivial, ⟨rfl, rfl, rfl, trivial⟩, trivial, ⟨rfl, rfl, trivial⟩, trivial, trivial⟩ ⟨rfl, rfl, rfl, rfl, rfl, rfl, trivial⟩ ⟨rfl, trivial⟩ rfl ?_
     exact G.arr (J14 (!decide ((b16.toNat : Int) = (b17.toNat : Int)), v3.2 + (Utf8.decode s_0 v3.2).2) hF) z6 z1 rfl
   refine G.drawnI (deps := [[], [0], [0, 1], [0, 1, 2], [0, 1, 2], [0, 1, 2, 3, 4], [0, 1, 2], [0, 1, 2, 3, 4, 5, 6], [0, 1, 2, 3, 4, 5, 6, 7]]) (sl' := [(0, oS s_0), (3, oI v3.1), (4, oI (v3.2 : Int)), (5, .one (bI .i32 ((Utf8.decode s_0 v3.2).1 : Int))), (7, .one (.ptr 1007 0)), (20, oB false)]) (hp' := [(1007, some (.it s_0 (v3.2 + (Utf8.decode s_0 v3.2).2)))]) (.c (oP rfl rfl (op_move ev rfl)) (.c (oP rfl rfl (OpL.cast (op_eqI ev (ec rfl) rfl) (congrArg (fun b => bB b) hc15))) (.c (oP rfl rfl (op_move ev rfl)) (.c (OpW.no rfl rfl rfl rfl rfl) (.c (OpW.no rfl rfl rfl rfl rfl) (.c (OpW.no rfl rfl rfl rfl rfl) (.c (OpW.no rfl rfl rfl rfl rfl) (.c (OpW.no rfl rfl rfl rfl rfl) (.c (oP rfl rfl (op_pickF ev (ec rfl) rfl)) .nil))))))))) follows rfl rfl rfl ⟨⟨rfl, trivial⟩, trivial, ⟨rfl, trivial⟩, trivial, ⟨rfl, trivial⟩, trivial, ⟨rfl, trivial⟩, trivial, ⟨rfl, trivial⟩, trivial, ⟨rfl, trivial⟩, trivial, ⟨rfl, trivial⟩, trivial, ⟨rfl, trivial⟩, trivial, ⟨rfl, trivial⟩, trivial, trivial⟩ ⟨rfl, rfl, rfl, rfl, rfl, rfl, trivial⟩ ⟨rfl, trivial⟩ rfl ?_
   exact G.arr (J14 (false, v3.2 + (Utf8.decode s_0 v3.2).2) hF) z6 z1 rfl
 refine p11 (op_nextF hc7 ev rfl) rfl rfl <| p10 (op_extract rfl rfl) rfl <| eO <| sq <| ?_
 refine G.condF rfl ?_
 refine ex <| ?_
 refine GX.c ?_
 refine GX.q ?_
 refine xY <| ?_
 exact G.arr (J2 v3.1 hF) z1 trivial rfl


theorem ct_keys_Check (s_0 : ByteArray) (r : Bool) (hF : keys_Check s_0 = some r) : Ct Tryz.prog 120 [.g (.d (vS s_0))] (.one (.d (vB r))) := by
 unfold keys_Check at hF
 refine Ct.intro Tryz.func120 rfl Tryz.ntmps120 rfl rfl fun M w => ?_
 refine sr <| ac rfl rfl <| eO <| sc <| sr <| mv rfl rfl <| ?_
 refine bn hF fun r1 hr1 hF => p10 (op_callQ cf125 (ct_keys_Runes _ _ hr1) rfl rfl (.cons qe .nil) rfl) rfl <| av rfl rfl <| eO <| sq <| ?_
 refine G.joinC (T := Bool) (fun y2 => ⟨[(0, oS s_0), (4, oB y2)], []⟩) (fun y2 => keys_Check_k1 s_0 y2 = some r) (fun y2 hF => ?_) (fun J11 => ?_)
 · unfold keys_Check_k1 at hF
   refine sq <| lb <| sq <| sr <| mv rfl rfl <| q11 (op_range (k := 1016) uU ev rfl) rfl rfl <| ?_
   refine eO <| ?_
   refine G.joinC (T := Bool) (fun y3 => ⟨[(4, oB y3)], []⟩) (fun y3 => keys_Check_k2 y3 = some r) (fun y3 hF => ?_) (fun J4 => ?_)
   · unfold keys_Check_k2 at hF
     refine sr <| mv rfl rfl <| av rfl rfl <| eO <| ?_
     cases hF
     exact G.ret1 Tryz.results120 (RVar.tmp 2 _) z1 trivial
   refine bl <| ?_
   refine lF (fun (v5 : Bool × Nat) => ⟨[(4, oB v5.1), (16, .one (.ptr 1016 0))], [(1016, some (.it s_0 v5.2))]⟩) hF z2 z1 rfl (fun K8 again7 v5 J6 hF => ?_)
   unfold keys_Check_l3 at hF
   refine sr <| ?_
   refine ifS hF (fun hc9 hF => ?_) (fun hc9 hF => ?_)
   · refine q11 (op_nextT hc9 ev rfl) rfl rfl <| p10 (op_extract rfl rfl) rfl <| eO <| sq <| ?_
     refine G.condT rfl ?_
     refine sk <| bl <| sr <| p10 (op_extract rfl rfl) rfl <| av rfl rfl <| eO <| ?_
     refine sq <| sr <| mv rfl rfl <| p10 (op_not ev rfl) rfl <| eO <| ?_
     refine ifS hF (fun hc10 hF => ?_) (fun hc10 hF => ?_)
     · refine cT hc10 rfl <| ex <| ?_
       refine GX.c ?_
       refine GX.bNo rfl ?_
       refine GX.q ?_
       refine xY <| ?_
       exact G.arr (J4 v5.1 hF) z1 trivial rfl
     refine cF hc10 rfl <| sk <| rg <| mv rfl rfl <| p10 (op_geq ev (ec rfl) rfl) rfl <| av rfl rfl <| ?_
     refine eO <| eB <| ?_
     exact G.arr (J6 (decide (33 ≤ ((Utf8.decode s_0 v5.2).1 : Int)), v5.2 + (Utf8.decode s_0 v5.2).2) hF) z2 z1 rfl
   refine p11 (op_nextF hc9 ev rfl) rfl rfl <| p10 (op_extract rfl rfl) rfl <| eO <| sq <| ?_
   refine G.condF rfl ?_
   refine ex <| ?_
   refine GX.c ?_
   refine GX.q ?_
   refine xY <| ?_
   exact G.arr (J4 v5.1 hF) z1 trivial rfl
 refine rg <| mv rfl rfl <| p10 (op_geq ev (ec rfl) rfl) rfl <| mv rfl rfl <| ?_
 refine ifS hF (fun hc12 hF => ?_) (fun hc12 hF => ?_)
 · refine G.known (t := 11) hc12 rfl <| g10 (op_move ev rfl) rfl rfl rfl <| g10 (op_leq ev (ec rfl) rfl) rfl rfl rfl <| p20 (op_pickT ev ev rfl) rfl rfl <| av rfl rfl <| eO <| ?_
   exact G.arr (J11 (decide (r1 ≤ 8)) hF) z2 trivial rfl
 refine G.known (t := 11) hc12 rfl <| oN rfl rfl rfl <| oN rfl rfl rfl <| p10 (op_pickF ev (ec rfl) rfl) rfl <| av rfl rfl <| eO <| ?_
 exact G.arr (J11 false hF) z2 trivial rfl


theorem ct_keys_Good_1 (s_0 : ByteArray) (r : Bool) (hF : keys_Good_1 s_0 = some r) : Ct Tryz.prog 119 [.g (.d (vS s_0))] (.one (.d (vB r))) := by
 unfold keys_Good_1 at hF
 refine Ct.intro Tryz.func119 rfl Tryz.ntmps119 rfl rfl fun M w => ?_
 refine sr <| ac rfl rfl <| esr <| mv rfl rfl <| p10 (op_eqS ev (ec rfl) rfl) rfl <| mv rfl rfl <| ?_
 refine ifS hF (fun hc1 hF => ?_) (fun hc1 hF => ?_)
 · refine G.known (t := 5) hc1 rfl <| oN rfl rfl rfl <| oN rfl rfl rfl <| p10 (op_pickT ev (ec rfl) rfl) rfl <| av rfl rfl <| eO <| ?_
   cases hF
   exact G.ret1 Tryz.results119 (RVar.tmp 2 _) z1 trivial
 refine G.known (t := 5) hc1 rfl <| g10 (op_move ev rfl) rfl rfl rfl <| bn hF fun r2 hr2 hF => g10 (op_callQ cf120 (ct_keys_Check _ _ hr2) rfl rfl (.cons qe .nil) rfl) rfl rfl rfl <| p20 (op_pickF ev ev rfl) rfl rfl <| av rfl rfl <| ?_
 refine eO <| ?_
 cases hF
 exact G.ret1 Tryz.results119 (RVar.tmp 2 _) z1 trivial


theorem ct_keys_Good (r_0 : Api_Range) (r : Bool) (hF : keys_Good r_0 = some r) : Ct Tryz.prog 106 [.g (.agg (encApi_Range r_0))] (.one (.d (vB r))) := by
 unfold keys_Good at hF
 refine Ct.intro Tryz.func106 rfl Tryz.ntmps106 rfl rfl fun M w => ?_
 refine sr <| q11 (op_boxA (k := 1001) ev rfl) rfl rfl <| ac rfl rfl <| esr <| p00 (op_assign (Ev.f 119) rfl) <| esr <| ?_
 refine mv rfl rfl <| p10 (op_fieldP (off' := 0) uU rfl ti9 (by decide) rfl ev rfl) rfl <| p11 (op_load1P uU rfl rfl ev rfl) rfl rfl <| bn hF fun r1 hr1 hF => p20 (op_callClo (sv := oB r1) (args := _) (gs := _) cf119 (ct_keys_Good_1 _ _ hr1) rfl rfl EvC.nil (.cons qe .nil) rfl) rfl rfl <| mv rfl rfl <| ?_
 refine G.joinL (T := Bool) 5 (fun y2 => ⟨[(1, .one (.ptr 1001 0)), (13, oB y2)], [(1001, some (.blk 39 [bS r_0.From, bS r_0.To]))]⟩) (fun y2 => keys_Good_k1 r_0 y2 = some r) (fun y2 hF => ?_) (fun J5 => ?_)
 · unfold keys_Good_k1 at hF
   refine mv rfl rfl <| ?_
   refine ifS hF (fun hc3 hF => ?_) (fun hc3 hF => ?_)
   · refine G.known (t := 14) hc3 rfl <| g10 (op_fieldP (off' := 1) uU rfl ti9 (by decide) rfl ev rfl) rfl rfl rfl <| g11 (op_load1P uU rfl rfl ev rfl) rfl rfl rfl rfl <| g10 (op_eqS ev (ec rfl) rfl) rfl rfl rfl <| g10 (op_move ev rfl) rfl rfl rfl <| ?_
     refine ifS hF (fun hc4 hF => ?_) (fun hc4 hF => ?_)
     · refine G.known (t := 18) hc4 rfl <| oN rfl rfl rfl <| oN rfl rfl rfl <| oN rfl rfl rfl <| oN rfl rfl rfl <| oN rfl rfl rfl <| ?_
       refine g10 (op_pickT ev (ec rfl) rfl) rfl rfl rfl <| p20 (op_pickT ev ev rfl) rfl rfl <| av rfl rfl <| eO <| ?_
       cases hF
       exact G.ret1 Tryz.results106 (RVar.tmp 2 _) z1 trivial
     refine G.known (t := 18) hc4 rfl <| g10 (op_fieldP (off' := 0) uU rfl ti9 (by decide) rfl ev rfl) rfl rfl rfl <| g11 (op_load1P uU rfl rfl ev rfl) rfl rfl rfl rfl <| g10 (op_fieldP (off' := 1) uU rfl ti9 (by decide) rfl ev rfl) rfl rfl rfl <| g11 (op_load1P uU rfl rfl ev rfl) rfl rfl rfl rfl <| g20 (op_ltS ev ev rfl) rfl rfl rfl rfl <| ?_
     refine g20 (op_pickF ev ev rfl) rfl rfl rfl rfl <| p20 (op_pickT ev ev rfl) rfl rfl <| av rfl rfl <| eO <| ?_
     cases hF
     exact G.ret1 Tryz.results106 (RVar.tmp 2 _) z1 trivial
   refine G.known (t := 14) hc3 rfl <| oN rfl rfl rfl <| oN rfl rfl rfl <| oN rfl rfl rfl <| oN rfl rfl rfl <| ?_
   refine G.opU rfl rfl rfl rfl ?_
   refine G.opU rfl rfl rfl rfl ?_
   refine G.opU rfl rfl rfl rfl ?_
   refine G.opU rfl rfl rfl rfl ?_
   refine G.opU rfl rfl rfl rfl ?_
   refine oN rfl rfl rfl <| p10 (op_pickF ev (ec rfl) rfl) rfl <| av rfl rfl <| eO <| ?_
   cases hF
   exact G.ret1 Tryz.results106 (RVar.tmp 2 _) z1 trivial
 refine ifS hF (fun hc6 hF => ?_) (fun hc6 hF => ?_)
 · refine G.known (t := 8) hc6 rfl <| g10 (op_move ev rfl) rfl rfl rfl <| g10 (op_fieldP (off' := 1) uU rfl ti9 (by decide) rfl ev rfl) rfl rfl rfl <| g11 (op_load1P uU rfl rfl ev rfl) rfl rfl rfl rfl <| bn hF fun r7 hr7 hF => g20 (op_callClo (sv := oB r7) (args := _) (gs := _) cf119 (ct_keys_Good_1 _ _ hr7) rfl rfl EvC.nil (.cons qe .nil) rfl) rfl rfl rfl rfl <| ?_
   refine p20 (op_pickT ev ev rfl) rfl rfl <| ?_
   exact G.arr (J5 r7 hF) z2 z1 rfl
 refine G.known (t := 8) hc6 rfl <| oN rfl rfl rfl <| oN rfl rfl rfl <| oN rfl rfl rfl <| oN rfl rfl rfl <| p10 (op_pickF ev (ec rfl) rfl) rfl <| ?_
 exact G.arr (J5 false hF) z2 z1 rfl


theorem ct_keys_Whole (l_0 : (List Api_Range)) (r : Bool) (hF : keys_Whole l_0 = some r) : Ct Tryz.prog 88 [.g (.d (.sl 2 (List.map encApi_Range l_0)))] (.one (.d (vB r))) := by
 unfold keys_Whole at hF
 refine Ct.intro Tryz.func88 rfl Tryz.ntmps88 rfl rfl fun M w => ?_
 refine sr <| ac rfl rfl <| esr <| ac rfl rfl <| eO <| sq <| ?_
 refine sr <| mv rfl rfl <| p10 (op_lenM uU ev rfl) rfl <| p00 (op_move (ec rfl) rfl) <| eO <| ?_
 refine G.joinC (T := ByteArray) (fun y1 => ⟨[(0, .one (.g (.d (.sl 2 (List.map encApi_Range l_0))))), (3, oS y1)], []⟩) (fun y1 => keys_Whole_k1 l_0 y1 = some r) (fun y1 hF => ?_) (fun J3 => ?_)
 · unfold keys_Whole_k1 at hF
   refine sr <| mv rfl rfl <| p10 (op_lenM uU ev rfl) rfl <| p10 (op_gtr ev (ec rfl) rfl) rfl <| mv rfl rfl <| ?_
   refine ifS hF (fun hc2 hF => ?_) (fun hc2 hF => ?_)
   · refine G.known (t := 36) hc2 rfl <| g10 (op_move ev rfl) rfl rfl rfl <| g10 (op_eqS ev (ec rfl) rfl) rfl rfl rfl <| p20 (op_pickT ev ev rfl) rfl rfl <| av rfl rfl <| eO <| ?_
     cases hF
     exact G.ret1 Tryz.results88 (RVar.tmp 2 _) z1 trivial
   refine G.known (t := 36) hc2 rfl <| oN rfl rfl rfl <| oN rfl rfl rfl <| p10 (op_pickF ev (ec rfl) rfl) rfl <| av rfl rfl <| eO <| ?_
   cases hF
   exact G.ret1 Tryz.results88 (RVar.tmp 2 _) z1 trivial
 refine bl <| ?_
 refine lF (fun (v4 : ByteArray × Int) => ⟨[(0, .one (.g (.d (.sl 2 (List.map encApi_Range l_0))))), (3, oS v4.1), (6, .one (.g (.d (.sl 2 (List.map encApi_Range l_0))))), (7, oI (l_0.length : Int)), (8, oI v4.2)], []⟩) hF z5 trivial rfl (fun K7 again6 v4 J5 hF => ?_)
 unfold keys_Whole_l2 at hF
 refine sr <| p20 (op_lss ev ev rfl) rfl rfl <| eO <| sq <| ?_
 refine ifS hF (fun hc8 hF => ?_) (fun hc8 hF => ?_)
 · refine cT hc8 rfl <| sk <| sq <| bl <| sr <| mv rfl rfl <| ?_
   refine bn hF fun x9 hx9 hF => p20 (op_indexM hx9 uU ti39 ev ev rfl) rfl rfl <| p10 (op_loadAE (ds := [vS x9.From, vS x9.To]) uU rfl ti39 rfl ev rfl) rfl <| q01 (op_alloc (k := 1005) (cs := [bS ByteArray.empty, bS ByteArray.empty]) ti39 ⟨.v _ rfl, .v _ rfl, trivial⟩ rfl) rfl <| av rfl rfl <| w21 (op_storeAM ti39 rfl ev ev) rfl rfl rfl <| ?_
   refine eO <| sq <| sq <| ?_
   refine G.joinC (T := Bool) (fun y10 => ⟨[(0, .one (.g (.d (.sl 2 (List.map encApi_Range l_0))))), (5, .one (.ptr 1005 0)), (6, .one (.g (.d (.sl 2 (List.map encApi_Range l_0))))), (7, oI (l_0.length : Int)), (8, oI v4.2), (29, oB y10)], [(1005, some (.blk 39 [bS x9.From, bS x9.To]))]⟩) (fun y10 => keys_Whole_k3 again6 v4 x9 y10 = some r) (fun y10 hF => ?_) (fun J12 => ?_)
   · unfold keys_Whole_k3 at hF
     refine ifS hF (fun hc11 hF => ?_) (fun hc11 hF => ?_)
     · refine cT hc11 rfl <| sr <| ac rfl rfl <| eO <| ?_
       cases hF
       exact G.ret1 Tryz.results88 (RVar.tmp 2 _) z1 trivial
     refine cF hc11 rfl <| sk <| rg <| p10 (op_fieldP (off' := 1) uU rfl ti9 (by decide) rfl ev rfl) rfl <| p11 (op_load1P uU rfl rfl ev rfl) rfl rfl <| av rfl rfl <| ?_
     refine eO <| eB <| rg <| p10 (op_add ev (ec rfl) rfl) rfl <| mv rfl rfl <| eO <| ?_
     exact G.arr (J5 (x9.To, IntKind.wrap .i64 (v4.2 + 1)) hF) z5 trivial rfl
   refine rg <| p11 (op_loadAP (ds := [vS x9.From, vS x9.To]) uU rfl ti39 rfl ev rfl) rfl rfl <| bn hF fun r13 hr13 hF => p10 (op_callQ cf106 (ct_keys_Good _ _ hr13) rfl rfl (.cons qe .nil) rfl) rfl <| p10 (op_not ev rfl) rfl <| mv rfl rfl <| ?_
   refine G.joinL (T := Bool) 5 (fun y14 => ⟨[(0, .one (.g (.d (.sl 2 (List.map encApi_Range l_0))))), (3, oS v4.1), (4, oI v4.2), (5, .one (.ptr 1005 0)), (6, .one (.g (.d (.sl 2 (List.map encApi_Range l_0))))), (7, oI (l_0.length : Int)), (8, oI v4.2), (21, oB y14)], [(1005, some (.blk 39 [bS x9.From, bS x9.To]))]⟩) (fun y14 => keys_Whole_k4 again6 v4 x9 y14 = some r) (fun y14 hF => ?_) (fun J17 => ?_)
   · unfold keys_Whole_k4 at hF
     refine mv rfl rfl <| ?_
     refine ifS hF (fun hc15 hF => ?_) (fun hc15 hF => ?_)
     · refine G.known (t := 22) hc15 rfl <| oN rfl rfl rfl <| oN rfl rfl rfl <| oN rfl rfl rfl <| ?_
       refine G.opU rfl rfl rfl rfl ?_
       refine G.opU rfl rfl rfl rfl ?_
       refine oN rfl rfl rfl <| p10 (op_pickT ev (ec rfl) rfl) rfl <| eO <| ?_
       exact G.arr (J12 true hF) z6 z1 rfl
     refine G.known (t := 22) hc15 rfl <| g10 (op_move ev rfl) rfl rfl rfl <| g10 (op_gtr ev (ec rfl) rfl) rfl rfl rfl <| g10 (op_move ev rfl) rfl rfl rfl <| ?_
     refine ifS hF (fun hc16 hF => ?_) (fun hc16 hF => ?_)
     · refine G.known (t := 25) hc16 rfl <| g10 (op_move ev rfl) rfl rfl rfl <| g10 (op_eqS ev (ec rfl) rfl) rfl rfl rfl <| g20 (op_pickT ev ev rfl) rfl rfl rfl rfl <| p20 (op_pickF ev ev rfl) rfl rfl <| eO <| ?_
       exact G.arr (J12 (seq v4.1 ByteArray.empty) hF) z6 z1 rfl
     refine G.known (t := 25) hc16 rfl <| oN rfl rfl rfl <| oN rfl rfl rfl <| g10 (op_pickF ev (ec rfl) rfl) rfl rfl rfl <| p20 (op_pickF ev ev rfl) rfl rfl <| eO <| ?_
     exact G.arr (J12 false hF) z6 z1 rfl
   refine ifS hF (fun hc18 hF => ?_) (fun hc18 hF => ?_)
   · refine G.known (t := 16) hc18 rfl <| oN rfl rfl rfl <| oN rfl rfl rfl <| oN rfl rfl rfl <| oN rfl rfl rfl <| p10 (op_pickT ev (ec rfl) rfl) rfl <| ?_
     exact G.arr (J17 true hF) z8 z1 rfl
   refine G.known (t := 16) hc18 rfl <| g10 (op_fieldP (off' := 0) uU rfl ti9 (by decide) rfl ev rfl) rfl rfl rfl <| g11 (op_load1P uU rfl rfl ev rfl) rfl rfl rfl rfl <| g10 (op_move ev rfl) rfl rfl rfl <| g20 (op_neS ev ev rfl) rfl rfl rfl rfl <| p20 (op_pickF ev ev rfl) rfl rfl <| ?_
   exact G.arr (J17 (!seq x9.From v4.1) hF) z8 z1 rfl
 refine cF hc8 rfl <| ex <| ?_
 refine GX.c ?_
 refine GX.q ?_
 refine xY <| ?_
 exact G.arr (J3 v4.1 hF) z2 trivial rfl


theorem ct_wire_written_1 (p_0 : Int) (r : Bool) (hF : wire_written_1 p_0 = some r) : Ct Tryz.prog 89 [.g (.d (vI p_0))] (.one (.d (vB r))) := by
 unfold wire_written_1 at hF
 refine Ct.intro Tryz.func89 rfl Tryz.ntmps89 rfl rfl fun M w => ?_
 refine sr <| ac rfl rfl <| esr <| mv rfl rfl <| p10 (op_lss ev (ec rfl) rfl) rfl <| mv rfl rfl <| ?_
 refine ifS hF (fun hc1 hF => ?_) (fun hc1 hF => ?_)
 · refine G.known (t := 5) hc1 rfl <| oN rfl rfl rfl <| oN rfl rfl rfl <| p10 (op_pickT ev (ec rfl) rfl) rfl <| av rfl rfl <| eO <| ?_
   cases hF
   exact G.ret1 Tryz.results89 (RVar.tmp 2 _) z1 trivial
 refine G.known (t := 5) hc1 rfl <| g10 (op_move ev rfl) rfl rfl rfl <| g10 (op_geq ev (ec rfl) rfl) rfl rfl rfl <| p20 (op_pickF ev ev rfl) rfl rfl <| av rfl rfl <| eO <| ?_
 cases hF
 exact G.ret1 Tryz.results89 (RVar.tmp 2 _) z1 trivial


theorem ct_wire_written_2 (o_0 : Int) (c0 : Int) (r : Bool) (hF : wire_written_2 o_0 c0 = some r) : Ct Tryz.prog 90 [.g (.d (vI o_0)), .ep [vI c0]] (.one (.d (vB r))) := by
 unfold wire_written_2 at hF
 refine Ct.intro Tryz.func90 rfl Tryz.ntmps90 rfl rfl fun M w => ?_
 refine sr <| ac rfl rfl <| esr <| mv rfl rfl <| p10 (op_lss ev (ec rfl) rfl) rfl <| mv rfl rfl <| ?_
 refine ifS hF (fun hc1 hF => ?_) (fun hc1 hF => ?_)
 · refine G.known (t := 6) hc1 rfl <| oN rfl rfl rfl <| oN rfl rfl rfl <| oN rfl rfl rfl <| oN rfl rfl rfl <| p10 (op_pickT ev (ec rfl) rfl) rfl <| ?_
   refine av rfl rfl <| eO <| ?_
   cases hF
   exact G.ret1 Tryz.results90 (RVar.tmp 3 _) z1 trivial
 refine G.known (t := 6) hc1 rfl <| g10 (op_move ev rfl) rfl rfl rfl <| g10 (op_load1E uU rfl rfl ev rfl) rfl rfl rfl <| ck hF fun hz2 hF => g20 (op_shr (of_decide_eq_true hz2) ev ev rfl) rfl rfl rfl rfl <| g10 (op_neI ev (ec rfl) rfl) rfl rfl rfl <| ?_
 refine p20 (op_pickF ev ev rfl) rfl rfl <| av rfl rfl <| eO <| ?_
 cases hF
 exact G.ret1 Tryz.results90 (RVar.tmp 3 _) z1 trivial


theorem ct_slices_IndexFunc_int (s_0 : (List Int)) (f_1 : (Int → Option Bool)) (r : Int) (hF : slices_IndexFunc_int s_0 f_1 = some r) : Ct Tryz.prog 58 [.g (.d (.sl 1 (List.map encI_i64 s_0))), .sem (sem1 (fun x => .d (vI x)) (fun y => .bool y) f_1)] (.one (.d (vI r))) := by
 unfold slices_IndexFunc_int at hF
 refine Ct.intro Tryz.func58 rfl Tryz.ntmps58 rfl rfl fun M w => ?_
 refine sr <| ac rfl rfl <| eO <| sq <| sr <| mv rfl rfl <| ?_
 refine p10 (op_lenM uU ev rfl) rfl <| p00 (op_move (ec rfl) rfl) <| eO <| ?_
 refine G.joinC (T := Unit) (fun y1 => ⟨[], []⟩) (fun y1 => slices_IndexFunc_int_k1 y1 = some r) (fun y1 hF => ?_) (fun J2 => ?_)
 · unfold slices_IndexFunc_int_k1 at hF
   refine sr <| ac rfl rfl <| eO <| ?_
   cases hF
   exact G.ret1 Tryz.results58 (RVar.tmp 4 _) z1 trivial
 refine bl <| ?_
 refine lF (fun (v3 : Int) => ⟨[(0, .one (.g (.d (.sl 1 (List.map encI_i64 s_0))))), (1, .one (.sem (sem1 (fun x => .d (vI x)) (fun y => .bool y) f_1))), (7, oI (s_0.length : Int)), (8, oI v3)], []⟩) hF z4 trivial rfl (fun K6 again5 v3 J4 hF => ?_)
 unfold slices_IndexFunc_int_l2 at hF
 refine sr <| p20 (op_lss ev ev rfl) rfl rfl <| eO <| sq <| ?_
 refine ifS hF (fun hc7 hF => ?_) (fun hc7 hF => ?_)
 · refine cT hc7 rfl <| sk <| sq <| bl <| sr <| mv rfl rfl <| ?_
   refine av rfl rfl <| esr <| mv rfl rfl <| mv rfl rfl <| mv rfl rfl <| bn hF fun x8 hx8 hF => ?_
   refine p20 (op_indexM hx8 uU ti3 ev ev rfl) rfl rfl <| p10 (op_load1E uU rfl rfl ev rfl) rfl <| bn hF fun r9 hr9 hF => p20 (op_callSem (t := 11) (v := .bool r9) (Φ := sem1 (fun x => .d (vI x)) (fun y => .bool y) f_1) ⟨x8, r9, rfl, hr9, rfl⟩ rfl (.cons ev .nil) rfl) rfl rfl <| eO <| ?_
   refine ifS hF (fun hc10 hF => ?_) (fun hc10 hF => ?_)
   · refine cT hc10 rfl <| sr <| mv rfl rfl <| av rfl rfl <| eO <| ?_
     cases hF
     exact G.ret1 Tryz.results58 (RVar.tmp 4 _) z1 trivial
   refine cF hc10 rfl <| sk <| eB <| rg <| p10 (op_add ev (ec rfl) rfl) rfl <| mv rfl rfl <| ?_
   refine eO <| ?_
   exact G.arr (J4 (IntKind.wrap .i64 (v3 + 1)) hF) z4 trivial rfl
 refine cF hc7 rfl <| ex <| ?_
 refine GX.c ?_
 refine GX.q ?_
 refine xY <| ?_
 exact G.arr (J2 () hF) trivial trivial rfl


theorem ct_slices_ContainsFunc_int (s_0 : (List Int)) (f_1 : (Int → Option Bool)) (r : Bool) (hF : slices_ContainsFunc_int s_0 f_1 = some r) : Ct Tryz.prog 27 [.g (.d (.sl 1 (List.map encI_i64 s_0))), .sem (sem1 (fun x => .d (vI x)) (fun y => .bool y) f_1)] (.one (.d (vB r))) := by
 unfold slices_ContainsFunc_int at hF
 refine Ct.intro Tryz.func27 rfl Tryz.ntmps27 rfl rfl fun M w => ?_
 refine sr <| ac rfl rfl <| esr <| mv rfl rfl <| mv rfl rfl <| bn hF fun r1 hr1 hF => ?_
 refine p20 (op_callQ cf58 (ct_slices_IndexFunc_int _ _ _ hr1) rfl rfl (.cons qe (.cons (.sem ev) .nil)) rfl) rfl rfl <| p10 (op_geq ev (ec rfl) rfl) rfl <| av rfl rfl <| eO <| ?_
 cases hF
 exact G.ret1 Tryz.results27 (RVar.tmp 4 _) z1 trivial


theorem ct_wire_written (c_0 : Api_Row) (r : Bool) (hF : wire_written c_0 = some r) : Ct Tryz.prog 60 [.g (.agg (encApi_Row c_0))] (.one (.d (vB r))) := by
 unfold wire_written at hF
 refine Ct.intro Tryz.func60 rfl Tryz.ntmps60 rfl rfl fun M w => ?_
 refine sr <| q11 (op_boxA (k := 1001) ev rfl) rfl rfl <| ac rfl rfl <| esr <| p10 (op_fieldP (off' := 2) uU rfl ti26 (by decide) rfl ev rfl) rfl <| p11 (op_load1P uU rfl rfl ev rfl) rfl rfl <| ?_
 refine p10 (op_lenM uU ev rfl) rfl <| q01 (op_alloc (k := 1003) (cs := [bI .i64 0]) ti3 ⟨.v _ rfl, trivial⟩ rfl) rfl <| w21 (op_store1M sgd ti3 rfl ev ev) rfl rfl rfl <| eO <| sq <| sq <| ?_
 refine G.joinC (T := Bool) (fun y1 => ⟨[(1, .one (.ptr 1001 0)), (3, .one (.ptr 1003 0)), (35, oB y1)], [(1001, some (.blk 28 [.g (.d (.sl 2 (List.map encApi_Range c_0.Ranges))), .g (.d (.sl 1 (List.map encI_i64 c_0.Owners))), .g (.d (.sl 1 (List.map encI_i64 c_0.Parents)))])), (1003, some (.blk 3 [bI .i64 (c_0.Parents.length : Int)]))]⟩) (fun y1 => wire_written_k1 c_0 y1 = some r) (fun y1 hF => ?_) (fun J6 => ?_)
 · unfold wire_written_k1 at hF
   refine ifS hF (fun hc2 hF => ?_) (fun hc2 hF => ?_)
   · refine cT hc2 rfl <| sr <| ac rfl rfl <| eO <| ?_
     cases hF
     exact G.ret1 Tryz.results60 (RVar.tmp 2 _) z1 trivial
   refine cF hc2 rfl <| sk <| sr <| p00 (op_assign (Ev.f 89) rfl) <| esr <| p10 (op_makeFunc1 ev rfl) rfl <| ?_
   refine av rfl rfl <| esr <| p10 (op_fieldP (off' := 2) uU rfl ti26 (by decide) rfl ev rfl) rfl <| p11 (op_load1P uU rfl rfl ev rfl) rfl rfl <| mv rfl rfl <| bn hF fun r3 hr3 hF => ?_
   refine p20 (op_callQ cf27 (ct_slices_ContainsFunc_int _ _ _ hr3) rfl rfl (.cons qe (.cons (.clo (Φ := sem1 (fun x => .d (vI x)) (fun y => .bool y) (fun x0 => wire_written_1 x0)) ev EvC.nil cf89 (fun args v ⟨x0, b, h1, h2, h3⟩ => by subst h1 h3; exact ct_wire_written_1 x0 b h2)) .nil)) rfl) rfl rfl <| p10 (op_not ev rfl) rfl <| mv rfl rfl <| ?_
   refine ifS hF (fun hc4 hF => ?_) (fun hc4 hF => ?_)
   · refine G.known (t := 42) hc4 rfl <| g10 (op_fieldP (off' := 1) uU rfl ti26 (by decide) rfl ev rfl) rfl rfl rfl <| g11 (op_load1P uU rfl rfl ev rfl) rfl rfl rfl rfl <| g10 (op_move ev rfl) rfl rfl rfl <| bn hF fun r5 hr5 hF => g21 (op_callQ cf27 (ct_slices_ContainsFunc_int _ _ _ hr5) rfl rfl (.cons qe (.cons (.clo (Φ := sem1 (fun x => .d (vI x)) (fun y => .bool y) (fun x0 => wire_written_2 x0 (c_0.Parents.length : Int))) ev (EvC.cons rfl EvC.nil) cf90 (fun args v ⟨x0, b, h1, h2, h3⟩ => by subst h1 h3; exact ct_wire_written_2 x0 (c_0.Parents.length : Int) b h2)) .nil)) rfl) rfl rfl rfl rfl rfl <| ?_
     refine g10 (op_not ev rfl) rfl rfl rfl <| p20 (op_pickT ev ev rfl) rfl rfl <| av rfl rfl <| eO <| ?_
     cases hF
     exact G.ret1 Tryz.results60 (RVar.tmp 2 _) z1 trivial
   refine G.known (t := 42) hc4 rfl <| oN rfl rfl rfl <| oN rfl rfl rfl <| oN rfl rfl rfl <| oN rfl rfl rfl <| oN rfl rfl rfl <| ?_
   refine p10 (op_pickF ev (ec rfl) rfl) rfl <| av rfl rfl <| eO <| ?_
   cases hF
   exact G.ret1 Tryz.results60 (RVar.tmp 2 _) z1 trivial
 refine rg <| p11 (op_load1P uU rfl rfl ev rfl) rfl rfl <| p10 (op_lss ev (ec rfl) rfl) rfl <| mv rfl rfl <| ?_
 refine G.joinL (T := Bool) 3 (fun y7 => ⟨[(1, .one (.ptr 1001 0)), (3, .one (.ptr 1003 0)), (14, oB y7)], [(1001, some (.blk 28 [.g (.d (.sl 2 (List.map encApi_Range c_0.Ranges))), .g (.d (.sl 1 (List.map encI_i64 c_0.Owners))), .g (.d (.sl 1 (List.map encI_i64 c_0.Parents)))])), (1003, some (.blk 3 [bI .i64 (c_0.Parents.length : Int)]))]⟩) (fun y7 => wire_written_k2 c_0 y7 = some r) (fun y7 hF => ?_) (fun J16 => ?_)
 · unfold wire_written_k2 at hF
   refine mv rfl rfl <| ?_
   refine G.joinL (T := Bool) 5 (fun y8 => ⟨[(1, .one (.ptr 1001 0)), (3, .one (.ptr 1003 0)), (20, oB y8)], [(1001, some (.blk 28 [.g (.d (.sl 2 (List.map encApi_Range c_0.Ranges))), .g (.d (.sl 1 (List.map encI_i64 c_0.Owners))), .g (.d (.sl 1 (List.map encI_i64 c_0.Parents)))])), (1003, some (.blk 3 [bI .i64 (c_0.Parents.length : Int)]))]⟩) (fun y8 => wire_written_k3 c_0 y8 = some r) (fun y8 hF => ?_) (fun J14 => ?_)
   · unfold wire_written_k3 at hF
     refine mv rfl rfl <| ?_
     refine G.joinL (T := Bool) 8 (fun y9 => ⟨[(1, .one (.ptr 1001 0)), (3, .one (.ptr 1003 0)), (29, oB y9)], [(1001, some (.blk 28 [.g (.d (.sl 2 (List.map encApi_Range c_0.Ranges))), .g (.d (.sl 1 (List.map encI_i64 c_0.Owners))), .g (.d (.sl 1 (List.map encI_i64 c_0.Parents)))])), (1003, some (.blk 3 [bI .i64 (c_0.Parents.length : Int)]))]⟩) (fun y9 => wire_written_k4 c_0 y9 = some r) (fun y9 hF => ?_) (fun J12 => ?_)
     · unfold wire_written_k4 at hF
       refine mv rfl rfl <| ?_
       refine ifS hF (fun hc10 hF => ?_) (fun hc10 hF => ?_)
       · refine G.known (t := 30) hc10 rfl <| oN rfl rfl rfl <| oN rfl rfl rfl <| oN rfl rfl rfl <| oN rfl rfl rfl <| p10 (op_pickT ev (ec rfl) rfl) rfl <| ?_
         refine eO <| ?_
         exact G.arr (J6 true hF) z3 z2 rfl
       refine G.known (t := 30) hc10 rfl <| g10 (op_fieldP (off' := 0) uU rfl ti25 (by decide) rfl ev rfl) rfl rfl rfl <| g11 (op_load1P uU rfl rfl ev rfl) rfl rfl rfl rfl <| bn hF fun r11 hr11 hF => g10 (op_callQ cf88 (ct_keys_Whole _ _ hr11) rfl rfl (.cons qe .nil) rfl) rfl rfl rfl <| g10 (op_not ev rfl) rfl rfl rfl <| ?_
       refine p20 (op_pickF ev ev rfl) rfl rfl <| eO <| ?_
       exact G.arr (J6 (!r11) hF) z3 z2 rfl
     refine ifS hF (fun hc13 hF => ?_) (fun hc13 hF => ?_)
     · refine G.known (t := 21) hc13 rfl <| oN rfl rfl rfl <| oN rfl rfl rfl <| oN rfl rfl rfl <| oN rfl rfl rfl <| oN rfl rfl rfl <| ?_
       refine oN rfl rfl rfl <| oN rfl rfl rfl <| p10 (op_pickT ev (ec rfl) rfl) rfl <| ?_
       exact G.arr (J12 true hF) z3 z2 rfl
     refine G.known (t := 21) hc13 rfl <| g10 (op_fieldP (off' := 1) uU rfl ti26 (by decide) rfl ev rfl) rfl rfl rfl <| g11 (op_load1P uU rfl rfl ev rfl) rfl rfl rfl rfl <| g10 (op_lenM uU ev rfl) rfl rfl rfl <| g10 (op_fieldP (off' := 0) uU rfl ti25 (by decide) rfl ev rfl) rfl rfl rfl <| g11 (op_load1P uU rfl rfl ev rfl) rfl rfl rfl rfl <| ?_
     refine g10 (op_lenM uU ev rfl) rfl rfl rfl <| g20 (op_neI ev ev rfl) rfl rfl rfl rfl <| p20 (op_pickF ev ev rfl) rfl rfl <| ?_
     exact G.arr (J12 (!decide ((c_0.Owners.length : Int) = (c_0.Ranges.length : Int))) hF) z3 z2 rfl
   refine ifS hF (fun hc15 hF => ?_) (fun hc15 hF => ?_)
   · refine G.known (t := 15) hc15 rfl <| oN rfl rfl rfl <| oN rfl rfl rfl <| oN rfl rfl rfl <| oN rfl rfl rfl <| p10 (op_pickT ev (ec rfl) rfl) rfl <| ?_
     exact G.arr (J14 true hF) z3 z2 rfl
   refine G.known (t := 15) hc15 rfl <| g10 (op_fieldP (off' := 0) uU rfl ti25 (by decide) rfl ev rfl) rfl rfl rfl <| g11 (op_load1P uU rfl rfl ev rfl) rfl rfl rfl rfl <| g10 (op_lenM uU ev rfl) rfl rfl rfl <| g10 (op_gtr ev (ec rfl) rfl) rfl rfl rfl <| p20 (op_pickF ev ev rfl) rfl rfl <| ?_
   exact G.arr (J14 (decide (8 < (c_0.Ranges.length : Int))) hF) z3 z2 rfl
 refine ifS hF (fun hc17 hF => ?_) (fun hc17 hF => ?_)
 · refine G.known (t := 11) hc17 rfl <| oN rfl rfl rfl <| oN rfl rfl rfl <| p10 (op_pickT ev (ec rfl) rfl) rfl <| ?_
   exact G.arr (J16 true hF) z3 z2 rfl
 refine G.known (t := 11) hc17 rfl <| g11 (op_load1P uU rfl rfl ev rfl) rfl rfl rfl rfl <| g10 (op_gtr ev (ec rfl) rfl) rfl rfl rfl <| p20 (op_pickF ev ev rfl) rfl rfl <| ?_
 exact G.arr (J16 (decide (6 < (c_0.Parents.length : Int))) hF) z3 z2 rfl


theorem bCC48 (b : Nat) (p v : Value) (w : World) (hp : p = .pointer none ∨ p = .pointer (some ⟨b, 0, none⟩)) (hbk : w.heap[b]? = some (.cells #[p, v] 45 (0, 0))) :
    Calls Tryz.prog 48 #[.pointer (some ⟨b, 0, none⟩)] w fun e w' => e = .returned (.tuple #[]) ∧ (w' = w ∨ w' = w.setCell ⟨b, 0, none⟩ (.pointer (some ⟨b, 0, none⟩))) ∧ w'.heap[b]? = some (.cells #[.pointer (some ⟨b, 0, none⟩), v] 45 (0, 0)) := by
  have hI : (Tryz.prog.info? 45).map (·.size) = some 2 := by kernel_rfl
  have hL : liesAt Tryz.prog Tryz.prog.depth 45 (2 / Tryz.prog.cellsOf 45) 0 45 1 = true := by kernel_rfl
  obtain ⟨j, hj, hjs⟩ := Option.map_eq_some_iff.1 hI
  have t45 := Tryz.underlying45; have a45 := Tryz.isAgg45; have z45 := Tryz.sizeOf45; have v45 := Tryz.zeroValue45; have u45 := run_underlying t45
  have t42 := Tryz.underlying42; have a42 := Tryz.isAgg42; have z42 := Tryz.sizeOf42; have v42 := Tryz.zeroValue42; have u42 := run_underlying t42
  have t43 := Tryz.underlying43; have a43 := Tryz.isAgg43; have z43 := Tryz.sizeOf43; have v43 := Tryz.zeroValue43; have u43 := run_underlying t43
  have t5 := Tryz.underlying5; have a5 := Tryz.isAgg5; have z5 := Tryz.sizeOf5; have v5 := Tryz.zeroValue5; have u5 := run_underlying t5
  have t9 := Tryz.underlying9; have a9 := Tryz.isAgg9; have z9 := Tryz.sizeOf9; have v9 := Tryz.zeroValue9; have u9 := run_underlying t9
  have t4 := Tryz.underlying4; have a4 := Tryz.isAgg4; have z4 := Tryz.sizeOf4; have v4 := Tryz.zeroValue4; have u4 := run_underlying t4
  have t2 := Tryz.underlying2; have a2 := Tryz.isAgg2; have z2 := Tryz.sizeOf2; have v2 := Tryz.zeroValue2; have u2 := run_underlying t2
  have t102 := Tryz.underlying102; have a102 := Tryz.isAgg102; have z102 := Tryz.sizeOf102; have v102 := Tryz.zeroValue102; have u102 := run_underlying t102
  have h0 : w.cell? ⟨b, 0, none⟩ = some p := by rw [Lib.cell_of_heap hbk]; rfl
  rcases hp with rfl | rfl
  · have hsh : w.shape? b = some (45, 2) := by simp [World.shape?, hbk]
    have hfz : w.frozen? ⟨b, 0, none⟩ = false := Lib.frozen_of_heap hbk 0
    go_enter Tryz.func48, Tryz.ntmps48
    go_wp2
    rw [Lib.run_to_unsafe w ⟨b, 0, none⟩ t42 t102 hj (by rw [hjs]; decide) hsh (Nat.zero_lt_succ 1)]
    simp only [Result.andThen]
    rw [Oper.upon_value]
    go_wp2
    rw [run_callFunc_extern Tryz.func75 (by kernel_rfl) (by kernel_rfl) (by kernel_rfl) (e := Extern.AbiNoEscape.same) (by kernel_rfl)]
    rw [Lib.run_noEscape]
    simp only [Result.andThen]
    rw [Oper.upon_value]
    go_wp2
    rw [Lib.run_from_unsafe w ⟨b, 0, none⟩ t102 t42 hj hsh hL]
    simp only [Result.andThen]
    rw [Oper.upon_value]
    go_wp2
    go_end0
    exact ⟨rfl, .inr rfl, by simp [World.setCell, Array.getElem?_modify, hbk]⟩
  · go_enter Tryz.func48, Tryz.ntmps48
    go_wp2
    rw [Lib.run_neq_ptr_same w _ t42 hj]
    go_wp2
    go_end0
    exact ⟨rfl, .inl rfl, hbk⟩

theorem bCC48_fresh (b : Nat) (v : Value) (w : World) (hbk : w.heap[b]? = some (.cells #[.pointer none, v] 45 (0, 0))) :
    Calls Tryz.prog 48 #[.pointer (some ⟨b, 0, none⟩)] w fun e w' => e = .returned (.tuple #[]) ∧ w' = w.setCell ⟨b, 0, none⟩ (.pointer (some ⟨b, 0, none⟩)) :=
  (bCC48 b _ v w (.inl rfl) hbk).mono fun e w' ⟨h1, h2, h3⟩ => ⟨h1, h2.resolve_left fun c => by subst c; rw [hbk] at h3; simp at h3⟩

/-- what copyCheck leaves -/
theorem bCC48_more {b : Nat} {p v : Value} {w w1 : World} {n : Nat} {xs : List Value} (hbk : w.heap[b]? = some (.cells #[p, v] 45 (0, 0))) (hown : w.ownsRow 0 5 1 v n xs) (hne : v.ownBlock ≠ some b) (h : w1 = w ∨ w1 = w.setCell ⟨b, 0, none⟩ (.pointer (some ⟨b, 0, none⟩))) :
    w1.ownsRow 0 5 1 v n xs ∧ KeepW (fun b' => b' = b ∨ v.ownBlock = some b') w w1 ∧ w.heap.size ≤ w1.heap.size ∧ b < w1.heap.size := by
  have hlt : b < w.heap.size := (Array.getElem?_eq_some_iff.1 hbk).1
  rcases h with rfl | rfl
  · exact ⟨hown, .refl _, Nat.le_refl _, hlt⟩
  · exact ⟨ownsRow_of_block hown fun g hg => Below.heap_setCell _ _ _ _ (fun e => hne (by rw [hg, e])), .setCell _ _ _ (.inl rfl), by simp [World.setCell], by simpa [World.setCell] using hlt⟩


theorem bWB107 (s : ByteArray) (c : Nat) (hc : c < 256) (hlen : s.size + 1 ≤ 140737488355328) (b : Nat) (p v : Value) (w : World) (hp : p = .pointer none ∨ p = .pointer (some ⟨b, 0, none⟩)) (hbk : w.heap[b]? = some (.cells #[p, v] 45 (0, 0))) (hown : w.ownsRow 0 5 1 v s.size (Lib.strCells s)) (hne : v.ownBlock ≠ some b) :
    Calls Tryz.prog 107 #[.pointer (some ⟨b, 0, none⟩), .int .u8 (c : Int)] w fun e w' => e = .returned .nilIface ∧ BPost 45 5 w b v.ownBlock (s ++ ByteArray.mk #[UInt8.ofNat c]) w' := by
  have hIB : (Tryz.prog.info? 5).map (fun i => (i.zero, i.size, i.bytes)) = some (some (.int .u8 0), 1, 1) := by kernel_rfl
  obtain ⟨i0, hi, hz0, hz1, hz2⟩ := info_parts hIB
  have t45 := Tryz.underlying45; have a45 := Tryz.isAgg45; have z45 := Tryz.sizeOf45; have v45 := Tryz.zeroValue45; have u45 := run_underlying t45
  have t42 := Tryz.underlying42; have a42 := Tryz.isAgg42; have z42 := Tryz.sizeOf42; have v42 := Tryz.zeroValue42; have u42 := run_underlying t42
  have t43 := Tryz.underlying43; have a43 := Tryz.isAgg43; have z43 := Tryz.sizeOf43; have v43 := Tryz.zeroValue43; have u43 := run_underlying t43
  have t5 := Tryz.underlying5; have a5 := Tryz.isAgg5; have z5 := Tryz.sizeOf5; have v5 := Tryz.zeroValue5; have u5 := run_underlying t5
  have t9 := Tryz.underlying9; have a9 := Tryz.isAgg9; have z9 := Tryz.sizeOf9; have v9 := Tryz.zeroValue9; have u9 := run_underlying t9
  have t4 := Tryz.underlying4; have a4 := Tryz.isAgg4; have z4 := Tryz.sizeOf4; have v4 := Tryz.zeroValue4; have u4 := run_underlying t4
  have t2 := Tryz.underlying2; have a2 := Tryz.isAgg2; have z2 := Tryz.sizeOf2; have v2 := Tryz.zeroValue2; have u2 := run_underlying t2
  go_enter Tryz.func107, Tryz.ntmps107
  go_wp2_with (go_at_call 48; refine (bCC48 b p v _ hp hbk).mono ?_)
  rintro e w1 ⟨rfl, h1, hbk1⟩
  obtain ⟨hown1, hk1, hs1, hlt1⟩ := bCC48_more hbk hown hne h1
  have c0 : w1.cell? ⟨b, 0, none⟩ = some (.pointer (some ⟨b, 0, none⟩)) := by rw [Lib.cell_of_heap hbk1]; rfl
  have c1 : w1.cell? ⟨b, 1, none⟩ = some v := by rw [Lib.cell_of_heap hbk1]; rfl
  go_wp2_with (at_builtin; refine wpList_append_byte _ rfl _ _ 43 rfl 5 i0 t43 hi hz0 hz1 hz2 _ _ _ rfl (hown1.alloc _) ⟨w1.heap.size, 0, none⟩ 1 (.int .u8 (c : Int)) rfl (by simp) rfl hlen ?_)
  intro v' w2 hown' hgrow hblk
  have hbA : (w1.alloc (.cells #[.int .u8 (c : Int)] 5)).heap[b]? = some (.cells #[.pointer (some ⟨b, 0, none⟩), v] 45 (0, 0)) := by rw [Lib.alloc_old w1 _ b hlt1]; exact hbk1
  have hb2 : w2.heap[b]? = some (.cells #[.pointer (some ⟨b, 0, none⟩), v] 45 (0, 0)) := by
    rw [hgrow.block b (by simp; omega) (fun e => hne e.symm)]
    exact hbA
  have d0 : w2.cell? ⟨b, 0, none⟩ = some (.pointer (some ⟨b, 0, none⟩)) := by rw [Lib.cell_of_heap hb2]; rfl
  have d1 : w2.cell? ⟨b, 1, none⟩ = some v := by rw [Lib.cell_of_heap hb2]; rfl
  have f1 : w2.frozen? ⟨b, 1, none⟩ = false := Lib.frozen_of_heap hb2 1
  obtain ⟨ao, n', cap, rfl⟩ : ∃ ao n' cap, v' = .slice ao n' cap := by
    rcases hown'.2 with ⟨hv, _⟩ | ⟨g, cap, cur, hv, _⟩
    · exact ⟨_, _, _, hv⟩
    · exact ⟨_, _, _, hv⟩
  go_wp2
  go_ret
  exact ⟨rfl, bpost_of hbA hne (hk1.trans (.below (below_alloc _ _))) (by simp; omega) (by simp; omega) hown' (by rw [ByteArray.size_append]; rfl) (by rw [strCells_one c hc, strCells_app]) hgrow (by simpa using hblk) (by decide)⟩

theorem ct_bld_WriteByte (s : ByteArray) (c : Int) (r : ByteArray) (hF : bld_WriteByte s c = some r) : CtM Tryz.prog 107 [.pt (.bld 45 5 s), .g (.d (.v (.int .u8 c)))] (.bld 45 5 r) (.one (.d (.v .nilIface))) := by
  unfold bld_WriteByte at hF
  split at hF
  · rename_i hl
    cases hF
    obtain ⟨n, rfl⟩ : ∃ n : Nat, c = n := ⟨c.toNat, by omega⟩
    exact CtM.write (arg := .int .u8 (n : Int)) (v := .nilIface) (fun M w' => RD.v _ rfl) (fun _ _ _ h => RD.v_inv h) (fun b p vb w h1 h2 h3 h4 => bWB107 s n (by omega) hl.2.2 b p vb w h1 h2 h3 h4)
  · cases hF


theorem ct_vary_put (b_0 : ByteArray) (n_1 : Int) (r : ByteArray) (hF : vary_put b_0 n_1 = some r) : CtM Tryz.prog 92 [.pt (.bld 45 5 b_0), .g (.d (.v (.int .u64 n_1)))] (.bld 45 5 r) (.tup []) := by
 unfold vary_put at hF
 refine CtM.intro (h := .bld 45 5 b_0) 0 Tryz.func92 rfl Tryz.ntmps92 rfl rfl rfl rfl (fun M w b go => ?_)
 refine sq <| ?_
 refine G.joinC (T := Int × ByteArray) (fun y1 => ⟨[(0, .one (.ptr 0 0)), (1, .one (bI .u64 y1.1))], [(0, some (.bld 45 5 50 y1.2)), (50, some (.hid true 0))]⟩) (fun y1 => vary_put_k1 y1 = some r) (fun y1 hF => ?_) (fun J3 => ?_)
 · unfold vary_put_k1 at hF
   refine rg <| mv rfl rfl <| mv rfl rfl <| p10 (op_convI uU uU ev rfl) rfl <| bn hF fun r2 hr2 hF => ?_
   refine G.opM (op_callM (k := 0) (h := .bld 45 5 y1.2) (h' := .bld 45 5 r2) 50 (sv := .one (.g (.d (.v .nilIface)))) cf107 (ct_bld_WriteByte _ _ _ hr2) rfl rfl (.pt ev (.g ev .nil)) rfl) rfl z2 z2 ?_
   refine eO <| ?_
   have hF := Option.some.inj hF; subst hF
   exact G.fallM (retOK0 Tryz.results92) trivial trivial z2
 refine bl <| ?_
 refine lF (fun (v4 : Int × ByteArray) => ⟨[(0, .one (.ptr 0 0)), (1, .one (bI .u64 v4.1))], [(0, some (.bld 45 5 50 v4.2)), (50, some (.hid true 0))]⟩) hF z2 z2 rfl (fun K7 again6 v4 J5 hF => ?_)
 unfold vary_put_l2 at hF
 refine sq <| sr <| mv rfl rfl <| p10 (op_geq ev (ec rfl) rfl) rfl <| eO <| ?_
 refine ifS hF (fun hc8 hF => ?_) (fun hc8 hF => ?_)
 · refine cT hc8 rfl <| sk <| bl <| sr <| mv rfl rfl <| mv rfl rfl <| ?_
   refine p10 (op_convI uU uU ev rfl) rfl <| p10 (op_or ev (ec rfl) rfl) rfl <| bn hF fun r9 hr9 hF => ?_
   refine G.opM (op_callM (k := 0) (h := .bld 45 5 v4.2) (h' := .bld 45 5 r9) 50 (sv := .one (.g (.d (.v .nilIface)))) cf107 (ct_bld_WriteByte _ _ _ hr9) rfl rfl (.pt ev (.g ev .nil)) rfl) rfl z2 z2 ?_
   refine eO <| rg <| mv rfl rfl <| p10 (op_shr (by decide) ev (ec rfl) rfl) rfl <| av rfl rfl <| eO <| ?_
   refine eB <| ?_
   exact G.arr (J5 (Int.fdiv v4.1 (2 ^ min (Int.toNat 7) (IntKind.bits .u64)), r9) hF) z2 z2 rfl
 refine cF hc8 rfl <| ex <| ?_
 refine GX.c ?_
 refine GX.q ?_
 refine xY <| ?_
 exact G.arr (J3 (v4.1, v4.2) hF) z2 z2 rfl


theorem ct_vary_Join_1 (n_0 : Int) (c0 : ByteArray) (r : ByteArray) (hF : vary_Join_1 n_0 c0 = some r) : CtM Tryz.prog 91 [.g (.d (.v (.int .u64 n_0))), .pt (.bld 45 5 c0)] (.bld 45 5 r) (.tup []) := by
 unfold vary_Join_1 at hF
 refine CtM.intro (h := .bld 45 5 c0) 1 Tryz.func91 rfl Tryz.ntmps91 rfl rfl rfl rfl (fun M w b go => ?_)
 refine rg <| mv rfl rfl <| bn hF fun r1 hr1 hF => ?_
 refine G.opM (op_callM (k := 0) (h := .bld 45 5 c0) (h' := .bld 45 5 r1) 50 (sv := .tup []) cf92 (ct_vary_put _ _ _ hr1) rfl rfl (.pt ev (.g ev .nil)) rfl) rfl z2 z2 ?_
 refine eO <| ?_
 have hF := Option.some.inj hF; subst hF
 exact G.fallM (retOK0 Tryz.results91) trivial trivial z2


theorem bST20 (s : ByteArray) (hs : s.size ≠ 0) (b : Nat) (p v : Value) (w : World) (hbk : w.heap[b]? = some (.cells #[p, v] 45 (0, 0))) (hown : w.ownsRow 0 5 1 v s.size (Lib.strCells s)) :
    Calls Tryz.prog 20 #[.pointer (some ⟨b, 0, none⟩)] w fun e w' => e = .returned (.string s) ∧ KeepW (fun b' => v.ownBlock = some b') w w' := by
  have hCB : Tryz.prog.cellsOf 5 = 1 := by kernel_rfl
  have mixed : Tryz.prog.follows .mixedOrders = true := by kernel_rfl
  have hl0 : s.data.toList ≠ [] := fun h => hs (by have := congrArg List.length h; simpa using this)
  have hll : s.data.toList.length = s.size := by simp
  have hsb : Lib.strCells s = Lib.byteCells s.data.toList := rfl
  have hse : (⟨s.data.toList.toArray⟩ : ByteArray) = s := by cases s; simp
  rw [hsb, ← hll] at hown
  generalize s.data.toList = l at hown hl0 hll hse
  clear hll hsb
  have hown0 := hown
  obtain ⟨g, cap, cur, rfl, hg, hnc, hcm, hcs, htake⟩ : ∃ g cap cur, v = .slice (some ⟨g, 0, none⟩) l.length cap ∧ w.heap[g]? = some (.cells cur 5 (0, 0)) ∧ l.length ≤ cap ∧ cap ≤ maxLen ∧ cur.size = cap * 1 ∧ cur.toList.take (l.length * 1) = Lib.byteCells l := by
    rcases hown.2 with ⟨_, hz⟩ | ⟨g, cap, cur, hv, _, r⟩
    · exact absurd (List.eq_nil_of_length_eq_zero hz) hl0
    · exact ⟨g, cap, cur, hv, r⟩
  have c1 : w.drew.cell? ⟨b, 1, none⟩ = some (.slice (some ⟨g, 0, none⟩) l.length cap) := by
    have : w.drew.heap[b]? = some (.cells #[p, .slice (some ⟨g, 0, none⟩) l.length cap] 45 (0, 0)) := hbk
    rw [Lib.cell_of_heap this]; rfl
  have t45 := Tryz.underlying45; have a45 := Tryz.isAgg45; have z45 := Tryz.sizeOf45; have v45 := Tryz.zeroValue45; have u45 := run_underlying t45
  have t42 := Tryz.underlying42; have a42 := Tryz.isAgg42; have z42 := Tryz.sizeOf42; have v42 := Tryz.zeroValue42; have u42 := run_underlying t42
  have t43 := Tryz.underlying43; have a43 := Tryz.isAgg43; have z43 := Tryz.sizeOf43; have v43 := Tryz.zeroValue43; have u43 := run_underlying t43
  have t5 := Tryz.underlying5; have a5 := Tryz.isAgg5; have z5 := Tryz.sizeOf5; have v5 := Tryz.zeroValue5; have u5 := run_underlying t5
  have t9 := Tryz.underlying9; have a9 := Tryz.isAgg9; have z9 := Tryz.sizeOf9; have v9 := Tryz.zeroValue9; have u9 := run_underlying t9
  have t4 := Tryz.underlying4; have a4 := Tryz.isAgg4; have z4 := Tryz.sizeOf4; have v4 := Tryz.zeroValue4; have u4 := run_underlying t4
  have t3 := Tryz.underlying3; have a3 := Tryz.isAgg3; have z3 := Tryz.sizeOf3; have v3 := Tryz.zeroValue3; have u3 := run_underlying t3
  have t75 := Tryz.underlying75; have a75 := Tryz.isAgg75; have z75 := Tryz.sizeOf75; have v75 := Tryz.zeroValue75; have u75 := run_underlying t75
  have hl1 : l.length ≠ 0 := fun h => hl0 (List.eq_nil_of_length_eq_zero h)
  have hSD : (Builtin.unsafeSliceData_ #[43] 75 #[.slice (some ⟨g, 0, none⟩) l.length cap]).run Tryz.prog w.drew = .ok (.pointer (some ⟨g, 0, none⟩)) w.drew :=
    Lib.run_unsafeSliceData_row _ _ _ _ _ _ (by omega)
  have hUS : (Builtin.unsafeString_ #[75, 3] 9 #[.pointer (some ⟨g, 0, none⟩), .int .i64 l.length]).run Tryz.prog w.drew = .ok (.string s) (w.drew.freeze ⟨g, 0, none⟩ l.length) := by
    rw [← hse]
    refine Lib.run_unsafeString_row w.drew 75 3 9 5 t75 hCB g cur.size (by have hg' : w.drew.heap[g]? = some (.cells cur 5 (0, 0)) := hg; simp [World.shape?, hg']) l hl0 (by omega) (by unfold maxLen at hcm; omega) ?_
    intro j x hx
    have := hown0.cells (g := g) rfl j (.int .u8 x.toNat) (by simp [Lib.byteCells, hx])
    exact this
  go_enter Tryz.func20, Tryz.ntmps20
  go_wp2
  go_region_o
  all_goals (go_wp2; go_ret; exact ⟨rfl, keepW_freeze w g _⟩)

theorem bSE20 (b : Nat) (p v : Value) (w : World) (hbk : w.heap[b]? = some (.cells #[p, v] 45 (0, 0))) (hown : w.ownsRow 0 5 1 v 0 []) :
    Calls Tryz.prog 20 #[.pointer (some ⟨b, 0, none⟩)] w fun e w' => e = .returned (.string ByteArray.empty) ∧ KeepW (fun b' => v.ownBlock = some b') w w' := by
  have mixed : Tryz.prog.follows .mixedOrders = true := by kernel_rfl
  have t45 := Tryz.underlying45; have a45 := Tryz.isAgg45; have z45 := Tryz.sizeOf45; have v45 := Tryz.zeroValue45; have u45 := run_underlying t45
  have t42 := Tryz.underlying42; have a42 := Tryz.isAgg42; have z42 := Tryz.sizeOf42; have v42 := Tryz.zeroValue42; have u42 := run_underlying t42
  have t43 := Tryz.underlying43; have a43 := Tryz.isAgg43; have z43 := Tryz.sizeOf43; have v43 := Tryz.zeroValue43; have u43 := run_underlying t43
  have t5 := Tryz.underlying5; have a5 := Tryz.isAgg5; have z5 := Tryz.sizeOf5; have v5 := Tryz.zeroValue5; have u5 := run_underlying t5
  have t9 := Tryz.underlying9; have a9 := Tryz.isAgg9; have z9 := Tryz.sizeOf9; have v9 := Tryz.zeroValue9; have u9 := run_underlying t9
  have t4 := Tryz.underlying4; have a4 := Tryz.isAgg4; have z4 := Tryz.sizeOf4; have v4 := Tryz.zeroValue4; have u4 := run_underlying t4
  have t3 := Tryz.underlying3; have a3 := Tryz.isAgg3; have z3 := Tryz.sizeOf3; have v3 := Tryz.zeroValue3; have u3 := run_underlying t3
  have t75 := Tryz.underlying75; have a75 := Tryz.isAgg75; have z75 := Tryz.sizeOf75; have v75 := Tryz.zeroValue75; have u75 := run_underlying t75
  have hUS : ∀ (q : Option Addr) (W : World), (Builtin.unsafeString_ #[75, 3] 9 #[.pointer q, .int .i64 0]).run Tryz.prog W = .ok (.string ByteArray.empty) W := fun q W => Lib.run_unsafeString_none (w := W) 75 3 9 q
  have hbk1 : w.drew.heap[b]? = some (.cells #[p, v] 45 (0, 0)) := hbk
  have hlt : b < w.drew.heap.size := (Array.getElem?_eq_some_iff.1 hbk1).1
  have c1 : w.drew.cell? ⟨b, 1, none⟩ = some v := by rw [Lib.cell_of_heap hbk1]; rfl
  rcases hown.2 with ⟨rfl, _⟩ | ⟨g, cap, cur, rfl, _, hg, _, _, _, _⟩
  · have hSD : (Builtin.unsafeSliceData_ #[43] 75 #[.slice none 0 0]).run Tryz.prog w.drew = .ok (.pointer none) w.drew := Lib.run_unsafeSliceData_nil _ _ _ _ _
    go_enter Tryz.func20, Tryz.ntmps20
    go_wp2
    go_region_o
    all_goals (go_wp2; go_ret; exact ⟨rfl, .below (.drew (.refl _ _))⟩)
  · by_cases hc : cap = 0
    · subst hc
      have hg1 : w.drew.heap[g]? = some (.cells cur 5 (0, 0)) := hg
      have hSD : (Builtin.unsafeSliceData_ #[43] 75 #[.slice (some ⟨g, 0, none⟩) 0 0]).run Tryz.prog w.drew = .ok (.pointer (some ⟨w.drew.heap.size, 0, none⟩)) (w.drew.alloc (.view ⟨g, 0, none⟩ 5)) :=
        Lib.run_unsafeSliceData_zero _ _ _ 5 t75 _ _ (5, cur.size) (by simp [World.shape?, hg1])
      have c2 : (w.alloc (.view ⟨g, 0, none⟩ 5)).cell? ⟨b, 1, none⟩ = some (.slice (some ⟨g, 0, none⟩) 0 0) := by rw [Lib.cell_of_heap ((Lib.alloc_old w _ b hlt).trans hbk)]; rfl
      go_enter Tryz.func20, Tryz.ntmps20
      go_wp2
      go_region_o
      all_goals (go_wp2; go_ret; exact ⟨rfl, .below ((Below.drew (.refl _ _)).alloc (Nat.le_refl _) _)⟩)
    · have hSD : (Builtin.unsafeSliceData_ #[43] 75 #[.slice (some ⟨g, 0, none⟩) 0 cap]).run Tryz.prog w.drew = .ok (.pointer (some ⟨g, 0, none⟩)) w.drew := Lib.run_unsafeSliceData_row _ _ _ _ _ _ hc
      go_enter Tryz.func20, Tryz.ntmps20
      go_wp2
      go_region_o
      all_goals (go_wp2; go_ret; exact ⟨rfl, .below (.drew (.refl _ _))⟩)

theorem ct_bld_String (s r : ByteArray) (hF : bld_String s = some r) : CtM Tryz.prog 20 [.pt (.bld 45 5 s)] .gone (.one (.d (vS r))) := by
  cases hF
  by_cases hl : s.size = 0
  · obtain rfl : s = ByteArray.empty := by
      cases s with | mk d => cases d with | mk l => cases l with | nil => rfl | cons x l => simp [ByteArray.size] at hl
    exact CtM.bytes fun b p vb w h1 h2 => bSE20 b p vb w h1 h2
  · exact CtM.bytes fun b p vb w h1 h2 => bST20 s hl b p vb w h1 h2


theorem ct_vary_Join (l_0 : (List Int)) (r : ByteArray) (hF : vary_Join l_0 = some r) : Ct Tryz.prog 63 [.g (.d (.sl 1 (List.map encI_u64 l_0)))] (.one (.d (vS r))) := by
 unfold vary_Join at hF
 refine Ct.intro Tryz.func63 rfl Tryz.ntmps63 rfl rfl fun M w => ?_
 refine sr <| ac rfl rfl <| esr <| ?_
 refine G.opM (op_allocB (T := 45) (E := 5) (k := 1003) (kk := 3003) ti45 rfl rfl rfl) rfl trivial z2 ?_
 refine esr <| p10 (op_makeFunc1 ev rfl) rfl <| av rfl rfl <| eO <| sq <| sr <| ?_
 refine mv rfl rfl <| p10 (op_lenM uU ev rfl) rfl <| p00 (op_move (ec rfl) rfl) <| eO <| ?_
 refine G.joinC (T := ByteArray) (fun y1 => ⟨[(3, .one (.ptr 1003 0))], [(1003, some (.bld 45 5 3003 y1)), (3003, some (.hid true 1003))]⟩) (fun y1 => vary_Join_k1 y1 = some r) (fun y1 hF => ?_) (fun J3 => ?_)
 · unfold vary_Join_k1 at hF
   refine sr <| bn hF fun r2 hr2 hF => ?_
   refine G.opM (op_callM (k := 1003) (h := .bld 45 5 y1) (h' := .gone) 3003 (sv := oS r2) cf20 (ct_bld_String _ _ hr2) rfl rfl (.pt ev .nil) rfl) rfl z1 z2 ?_
   refine av rfl rfl <| eO <| ?_
   cases hF
   exact G.ret1 Tryz.results63 (RVar.tmp 2 _) z1 trivial
 refine bl <| ?_
 refine lF (fun (v4 : Int × ByteArray) => ⟨[(3, .one (.ptr 1003 0)), (4, .one (.clo 91 [1003])), (8, .one (.g (.d (.sl 1 (List.map encI_u64 l_0))))), (9, oI (l_0.length : Int)), (10, oI v4.1)], [(1003, some (.bld 45 5 3003 v4.2)), (3003, some (.hid true 1003))]⟩) hF z5 z2 rfl (fun K7 again6 v4 J5 hF => ?_)
 unfold vary_Join_l2 at hF
 refine sr <| p20 (op_lss ev ev rfl) rfl rfl <| eO <| sq <| ?_
 refine ifS hF (fun hc8 hF => ?_) (fun hc8 hF => ?_)
 · refine cT hc8 rfl <| sk <| sq <| bl <| sr <| bn hF fun x9 hx9 hF => ?_
   refine p20 (op_indexM hx9 uU ti89 ev ev rfl) rfl rfl <| p10 (op_load1E uU rfl rfl ev rfl) rfl <| av rfl rfl <| eO <| rg <| mv rfl rfl <| ?_
   refine mv rfl rfl <| bn hF fun r10 hr10 hF => ?_
   refine G.opM (op_callCloM (k := 1003) (h := .bld 45 5 v4.2) (h' := .bld 45 5 r10) 3003 (sv := .tup []) cf91 (ct_vary_Join_1 _ _ _ hr10) rfl rfl (.g ev .nil) rfl) rfl z2 z2 ?_
   refine eO <| eB <| rg <| p10 (op_add ev (ec rfl) rfl) rfl <| mv rfl rfl <| eO <| ?_
   exact G.arr (J5 (IntKind.wrap .i64 (v4.1 + 1), r10) hF) z5 z2 rfl
 refine cF hc8 rfl <| ex <| ?_
 refine GX.c ?_
 refine GX.q ?_
 refine xY <| ?_
 exact G.arr (J3 v4.2 hF) z1 z2 rfl


theorem ct_vary_Number (n_0 : Int) (r : ByteArray) (hF : vary_Number n_0 = some r) : Ct Tryz.prog 61 [.g (.d (.v (.int .u64 n_0)))] (.one (.d (vS r))) := by
 unfold vary_Number at hF
 refine Ct.intro Tryz.func61 rfl Tryz.ntmps61 rfl rfl fun M w => ?_
 refine sr <| ac rfl rfl <| esr <| mv rfl rfl <| p10 (op_buildSlice (es := List.map encI_u64 [n_0]) uU ti89 rfl rfl (.cons ev .nil) rfl rfl (by simp [encI_u64]) rfl) rfl <| bn hF fun r1 hr1 hF => ?_
 refine p10 (op_callQ cf63 (ct_vary_Join _ _ hr1) rfl rfl (.cons qe .nil) rfl) rfl <| av rfl rfl <| eO <| ?_
 cases hF
 exact G.ret1 Tryz.results61 (RVar.tmp 2 _) z1 trivial


theorem bWS19 (s t : ByteArray) (hlen : s.size + t.size ≤ 140737488355328) (b : Nat) (p v : Value) (w : World) (hp : p = .pointer none ∨ p = .pointer (some ⟨b, 0, none⟩)) (hbk : w.heap[b]? = some (.cells #[p, v] 45 (0, 0))) (hown : w.ownsRow 0 5 1 v s.size (Lib.strCells s)) (hne : v.ownBlock ≠ some b) :
    Calls Tryz.prog 19 #[.pointer (some ⟨b, 0, none⟩), .string t] w fun e w' => e = .returned (.tuple #[.int .i64 t.size, .nilIface]) ∧ BPost 45 5 w b v.ownBlock (s ++ t) w' := by
  have hIB : (Tryz.prog.info? 5).map (fun i => (i.zero, i.size, i.bytes)) = some (some (.int .u8 0), 1, 1) := by kernel_rfl
  obtain ⟨i0, hi, hz0, hz1, hz2⟩ := info_parts hIB
  have t45 := Tryz.underlying45; have a45 := Tryz.isAgg45; have z45 := Tryz.sizeOf45; have v45 := Tryz.zeroValue45; have u45 := run_underlying t45
  have t42 := Tryz.underlying42; have a42 := Tryz.isAgg42; have z42 := Tryz.sizeOf42; have v42 := Tryz.zeroValue42; have u42 := run_underlying t42
  have t43 := Tryz.underlying43; have a43 := Tryz.isAgg43; have z43 := Tryz.sizeOf43; have v43 := Tryz.zeroValue43; have u43 := run_underlying t43
  have t5 := Tryz.underlying5; have a5 := Tryz.isAgg5; have z5 := Tryz.sizeOf5; have v5 := Tryz.zeroValue5; have u5 := run_underlying t5
  have t9 := Tryz.underlying9; have a9 := Tryz.isAgg9; have z9 := Tryz.sizeOf9; have v9 := Tryz.zeroValue9; have u9 := run_underlying t9
  have t4 := Tryz.underlying4; have a4 := Tryz.isAgg4; have z4 := Tryz.sizeOf4; have v4 := Tryz.zeroValue4; have u4 := run_underlying t4
  have t3 := Tryz.underlying3; have a3 := Tryz.isAgg3; have z3 := Tryz.sizeOf3; have v3 := Tryz.zeroValue3; have u3 := run_underlying t3
  go_enter Tryz.func19, Tryz.ntmps19
  go_wp2_with (go_at_call 48; refine (bCC48 b p v _ hp hbk).mono ?_)
  rintro e w1 ⟨rfl, h1, hbk1⟩
  obtain ⟨hown1, hk1, hs1, hlt1⟩ := bCC48_more hbk hown hne h1
  have c0 : w1.cell? ⟨b, 0, none⟩ = some (.pointer (some ⟨b, 0, none⟩)) := by rw [Lib.cell_of_heap hbk1]; rfl
  have c1 : w1.cell? ⟨b, 1, none⟩ = some v := by rw [Lib.cell_of_heap hbk1]; rfl
  go_wp2_with (at_builtin; refine wpList_append_bytes _ rfl _ _ 43 9 rfl 5 i0 t43 t9 hi hz0 hz1 hz2 _ _ _ rfl hown1 t rfl hlen ?_)
  intro v' w2 hown' hgrow hblk
  have hb2 : w2.heap[b]? = some (.cells #[.pointer (some ⟨b, 0, none⟩), v] 45 (0, 0)) := by
    rw [hgrow.block b hlt1 (fun e => hne e.symm)]
    exact hbk1
  have d0 : w2.cell? ⟨b, 0, none⟩ = some (.pointer (some ⟨b, 0, none⟩)) := by rw [Lib.cell_of_heap hb2]; rfl
  have d1 : w2.cell? ⟨b, 1, none⟩ = some v := by rw [Lib.cell_of_heap hb2]; rfl
  have f1 : w2.frozen? ⟨b, 1, none⟩ = false := Lib.frozen_of_heap hb2 1
  obtain ⟨ao, n', cap, rfl⟩ : ∃ ao n' cap, v' = .slice ao n' cap := by
    rcases hown'.2 with ⟨hv, _⟩ | ⟨g, cap, cur, hv, _⟩
    · exact ⟨_, _, _, hv⟩
    · exact ⟨_, _, _, hv⟩
  go_wp2
  go_ret2
  exact ⟨rfl, bpost_of hbk1 hne hk1 hs1 hlt1 hown' (by rw [ByteArray.size_append]) (strCells_app s t) hgrow hblk (by decide)⟩

theorem ct_bld_WriteString (s t r : ByteArray) (hF : bld_WriteString s t = some r) : CtM Tryz.prog 19 [.pt (.bld 45 5 s), .g (.d (vS t))] (.bld 45 5 r) (.tup [.d (vI (t.size : Int)), .d (.v .nilIface)]) := by
  unfold bld_WriteString at hF
  split at hF
  · rename_i hl
    cases hF
    refine CtM.write (arg := .string t) (v := .tuple #[.int .i64 t.size, .nilIface]) (fun M w' => ⟨_, rfl, rfl, fun i g hi => ?_⟩) (fun _ _ _ h => RD.v_inv h) (fun b p vb w h1 h2 h3 h4 => bWS19 s t hl b p vb w h1 h2 h3 h4)
    match i with
    | 0 => simp at hi; subst hi; exact ⟨_, rfl, RD.v _ rfl⟩
    | 1 => simp at hi; subst hi; exact ⟨_, rfl, RD.v _ rfl⟩
    | i + 2 => simp at hi
  · cases hF


theorem ct_vary_Text (s_0 : ByteArray) (r : ByteArray) (hF : vary_Text s_0 = some r) : Ct Tryz.prog 62 [.g (.d (vS s_0))] (.one (.d (vS r))) := by
 unfold vary_Text at hF
 refine Ct.intro Tryz.func62 rfl Tryz.ntmps62 rfl rfl fun M w => ?_
 refine sr <| ac rfl rfl <| esr <| mv rfl rfl <| p10 (op_lenS uU ev rfl) rfl <| p10 (op_convI uU uU ev rfl) rfl <| ?_
 refine bn hF fun r1 hr1 hF => p10 (op_callQ cf61 (ct_vary_Number _ _ hr1) rfl rfl (.cons qe .nil) rfl) rfl <| mv rfl rfl <| bn hF fun s2 hs2 hF => p20 (op_catM hs2 ev ev rfl) rfl rfl <| av rfl rfl <| ?_
 refine eO <| ?_
 cases hF
 exact G.ret1 Tryz.results62 (RVar.tmp 2 _) z1 trivial


theorem ct_wire_RowBytes (c_0 : Api_Row) (r : ByteArray) (hF : wire_RowBytes c_0 = some r) : Ct Tryz.prog 31 [.g (.agg (encApi_Row c_0))] (.one (.d (vS r))) := by
 unfold wire_RowBytes at hF
 refine Ct.intro Tryz.func31 rfl Tryz.ntmps31 rfl rfl fun M w => ?_
 refine sr <| q11 (op_boxA (k := 1001) ev rfl) rfl rfl <| ac rfl rfl <| eO <| sq <| sr <| ?_
 refine p11 (op_loadAP (ds := [.sl 2 (List.map encApi_Range c_0.Ranges), .sl 1 (List.map encI_i64 c_0.Owners), .sl 1 (List.map encI_i64 c_0.Parents)]) uU rfl ti28 rfl ev rfl) rfl rfl <| bn hF fun r1 hr1 hF => p10 (op_callQ cf60 (ct_wire_written _ _ hr1) rfl rfl (.cons qe .nil) rfl) rfl <| p10 (op_not ev rfl) rfl <| eO <| ?_
 refine ifS hF (fun hc2 hF => ?_) (fun hc2 hF => ?_)
 · refine cT hc2 rfl <| sr <| ac rfl rfl <| eO <| ?_
   cases hF
   exact G.ret1 Tryz.results31 (RVar.tmp 2 _) z1 trivial
 refine cF hc2 rfl <| sk <| sr <| p10 (op_fieldP (off' := 0) uU rfl ti25 (by decide) rfl ev rfl) rfl <| p11 (op_load1P uU rfl rfl ev rfl) rfl rfl <| p10 (op_lenM uU ev rfl) rfl <| ?_
 refine av rfl rfl <| esr <| ?_
 refine G.opM (op_allocB (T := 45) (E := 5) (k := 1004) (kk := 3004) ti45 rfl rfl rfl) rfl trivial z2 ?_
 refine esr <| mv rfl rfl <| p10 (op_convI uU uU ev rfl) rfl <| bn hF fun r3 hr3 hF => p10 (op_callQ cf61 (ct_vary_Number _ _ hr3) rfl rfl (.cons qe .nil) rfl) rfl <| bn hF fun r4 hr4 hF => ?_
 refine G.opM (op_callM (k := 1004) (h := .bld 45 5 ByteArray.empty) (h' := .bld 45 5 r4) 3004 (sv := .tup [bI .i64 (r3.size : Int), .g (.d (.v .nilIface))]) cf19 (ct_bld_WriteString _ _ _ hr4) rfl rfl (.pt ev (.g ev .nil)) rfl) rfl z2 z2 ?_
 refine eO <| sq <| sr <| p10 (op_fieldP (off' := 0) uU rfl ti25 (by decide) rfl ev rfl) rfl <| p11 (op_load1P uU rfl rfl ev rfl) rfl rfl <| mv rfl rfl <| ?_
 refine p10 (op_sub ev (ec rfl) rfl) rfl <| bn hF fun l5 hl5 hF => p20 (op_sliceD (lo := none) (hi := some (IntKind.wrap .i64 ((c_0.Ranges.length : Int) - 1))) uU ti39 (sub_ok hl5 encApi_Range).1 (sub_ok hl5 encApi_Range).2.1 (sub_ok hl5 encApi_Range).2.2.1 (sub_ok hl5 encApi_Range).2.2.2 ev .none (.some ev) rfl) rfl rfl <| p10 (op_lenM uU ev rfl) rfl <| p00 (op_move (ec rfl) rfl) <| eO <| ?_
 refine G.joinC (T := ByteArray) (fun y6 => ⟨[(1, .one (.ptr 1001 0)), (4, .one (.ptr 1004 0))], [(1001, some (.blk 28 [.g (.d (.sl 2 (List.map encApi_Range c_0.Ranges))), .g (.d (.sl 1 (List.map encI_i64 c_0.Owners))), .g (.d (.sl 1 (List.map encI_i64 c_0.Parents)))])), (1004, some (.bld 45 5 3004 y6)), (3004, some (.hid true 1004))]⟩) (fun y6 => wire_RowBytes_k1 c_0 y6 = some r) (fun y6 hF => ?_) (fun J29 => ?_)
 · unfold wire_RowBytes_k1 at hF
   refine sr <| q01 (op_assignRow (E := 89) (size := 1) (k := 2007) (ex := false) rfl rfl) rfl <| eO <| sq <| sr <| p10 (op_fieldP (off' := 1) uU rfl ti26 (by decide) rfl ev rfl) rfl <| ?_
   refine p11 (op_load1P uU rfl rfl ev rfl) rfl rfl <| p10 (op_lenM uU ev rfl) rfl <| p00 (op_move (ec rfl) rfl) <| eO <| ?_
   refine G.joinC (T := (List Int)) (fun y7 => ⟨[(1, .one (.ptr 1001 0)), (4, .one (.ptr 1004 0)), (7, .one (.own 2007 (List.map encI_u64 y7)))], [(1001, some (.blk 28 [.g (.d (.sl 2 (List.map encApi_Range c_0.Ranges))), .g (.d (.sl 1 (List.map encI_i64 c_0.Owners))), .g (.d (.sl 1 (List.map encI_i64 c_0.Parents)))])), (1004, some (.bld 45 5 3004 y6)), (2007, some (.row 89 1 (List.map encI_u64 y7) false)), (3004, some (.hid true 1004))]⟩) (fun y7 => wire_RowBytes_k2 c_0 y6 y7 = some r) (fun y7 hF => ?_) (fun J21 => ?_)
   · unfold wire_RowBytes_k2 at hF
     refine sr <| mv rfl rfl <| p10 (op_fieldP (off' := 2) uU rfl ti26 (by decide) rfl ev rfl) rfl <| p11 (op_load1P uU rfl rfl ev rfl) rfl rfl <| p10 (op_lenM uU ev rfl) rfl <| p10 (op_convI uU uU ev rfl) rfl <| ?_
     refine p10 (op_buildSlice (es := List.map encI_u64 [IntKind.wrap .u64 (c_0.Parents.length : Int)]) uU ti89 rfl rfl (.cons ev .nil) rfl rfl (by simp [encI_u64]) rfl) rfl <| bn hF fun l8 hl8 hF => q21 (op_appendO uU ti89 rfl (app_map hl8 encI_u64) (app_b1 hl8 encI_u64) (app_b2 hl8 encI_u64) ev ev rfl) rfl rfl rfl <| av rfl rfl <| eO <| sq <| ?_
     refine sr <| p10 (op_fieldP (off' := 2) uU rfl ti26 (by decide) rfl ev rfl) rfl <| p11 (op_load1P uU rfl rfl ev rfl) rfl rfl <| p10 (op_lenM uU ev rfl) rfl <| p00 (op_move (ec rfl) rfl) <| eO <| ?_
     refine G.joinC (T := (List Int)) (fun y9 => ⟨[(4, .one (.ptr 1004 0)), (7, .one (.own 2007 (List.map encI_u64 y9)))], [(1004, some (.bld 45 5 3004 y6)), (2007, some (.row 89 1 (List.map encI_u64 y9) false)), (3004, some (.hid true 1004))]⟩) (fun y9 => wire_RowBytes_k3 y6 y9 = some r) (fun y9 hF => ?_) (fun J13 => ?_)
     · unfold wire_RowBytes_k3 at hF
       refine sr <| bn hF fun r10 hr10 hF => ?_
       refine G.opM (op_callM (k := 1004) (h := .bld 45 5 y6) (h' := .gone) 3004 (sv := oS r10) cf20 (ct_bld_String _ _ hr10) rfl rfl (.pt ev .nil) rfl) rfl z1 z2 ?_
       refine mv rfl rfl <| bn hF fun r11 hr11 hF => p11 (op_callQ cf63 (ct_vary_Join _ _ hr11) rfl rfl (.cons (.own ev) .nil) rfl) rfl rfl <| bn hF fun s12 hs12 hF => p20 (op_catM hs12 ev ev rfl) rfl rfl <| av rfl rfl <| ?_
       refine eO <| ?_
       cases hF
       exact G.ret1 Tryz.results31 (RVar.tmp 2 _) z1 trivial
     refine bl <| ?_
     refine lF (fun (v14 : Int × (List Int)) => ⟨[(4, .one (.ptr 1004 0)), (7, .one (.own 2007 (List.map encI_u64 v14.2))), (58, .one (.g (.d (.sl 1 (List.map encI_i64 c_0.Parents))))), (59, oI (c_0.Parents.length : Int)), (60, oI v14.1)], [(1004, some (.bld 45 5 3004 y6)), (2007, some (.row 89 1 (List.map encI_u64 v14.2) false)), (3004, some (.hid true 1004))]⟩) hF z5 z3 rfl (fun K17 again16 v14 J15 hF => ?_)
     unfold wire_RowBytes_l4 at hF
     refine sr <| p20 (op_lss ev ev rfl) rfl rfl <| eO <| sq <| ?_
     refine ifS hF (fun hc18 hF => ?_) (fun hc18 hF => ?_)
     · refine cT hc18 rfl <| sk <| sq <| bl <| sr <| bn hF fun x19 hx19 hF => ?_
       refine p20 (op_indexM hx19 uU ti3 ev ev rfl) rfl rfl <| p10 (op_load1E uU rfl rfl ev rfl) rfl <| av rfl rfl <| eO <| rg <| mv rfl rfl <| ?_
       refine mv rfl rfl <| p10 (op_add ev (ec rfl) rfl) rfl <| p10 (op_convI uU uU ev rfl) rfl <| p10 (op_buildSlice (es := List.map encI_u64 [IntKind.wrap .u64 (IntKind.wrap .i64 (x19 + 1))]) uU ti89 rfl rfl (.cons ev .nil) rfl rfl (by simp [encI_u64]) rfl) rfl <| bn hF fun l20 hl20 hF => q21 (op_appendO uU ti89 rfl (app_map hl20 encI_u64) (app_b1 hl20 encI_u64) (app_b2 hl20 encI_u64) ev ev rfl) rfl rfl rfl <| ?_
       refine av rfl rfl <| eO <| eB <| rg <| p10 (op_add ev (ec rfl) rfl) rfl <| mv rfl rfl <| ?_
       refine eO <| ?_
       exact G.arr (J15 (IntKind.wrap .i64 (v14.1 + 1), l20) hF) z5 z3 rfl
     refine cF hc18 rfl <| ex <| ?_
     refine GX.c ?_
     refine GX.q ?_
     refine xY <| ?_
     exact G.arr (J13 v14.2 hF) z2 z3 rfl
   refine bl <| ?_
   refine lF (fun (v22 : Int × (List Int)) => ⟨[(1, .one (.ptr 1001 0)), (4, .one (.ptr 1004 0)), (7, .one (.own 2007 (List.map encI_u64 v22.2))), (38, .one (.g (.d (.sl 1 (List.map encI_i64 c_0.Owners))))), (39, oI (c_0.Owners.length : Int)), (40, oI v22.1)], [(1001, some (.blk 28 [.g (.d (.sl 2 (List.map encApi_Range c_0.Ranges))), .g (.d (.sl 1 (List.map encI_i64 c_0.Owners))), .g (.d (.sl 1 (List.map encI_i64 c_0.Parents)))])), (1004, some (.bld 45 5 3004 y6)), (2007, some (.row 89 1 (List.map encI_u64 v22.2) false)), (3004, some (.hid true 1004))]⟩) hF z6 z4 rfl (fun K25 again24 v22 J23 hF => ?_)
   unfold wire_RowBytes_l5 at hF
   refine sr <| p20 (op_lss ev ev rfl) rfl rfl <| eO <| sq <| ?_
   refine ifS hF (fun hc26 hF => ?_) (fun hc26 hF => ?_)
   · refine cT hc26 rfl <| sk <| sq <| bl <| sr <| bn hF fun x27 hx27 hF => ?_
     refine p20 (op_indexM hx27 uU ti3 ev ev rfl) rfl rfl <| p10 (op_load1E uU rfl rfl ev rfl) rfl <| av rfl rfl <| eO <| rg <| mv rfl rfl <| ?_
     refine mv rfl rfl <| p10 (op_convI uU uU ev rfl) rfl <| p10 (op_buildSlice (es := List.map encI_u64 [IntKind.wrap .u64 x27]) uU ti89 rfl rfl (.cons ev .nil) rfl rfl (by simp [encI_u64]) rfl) rfl <| bn hF fun l28 hl28 hF => q21 (op_appendO uU ti89 rfl (app_map hl28 encI_u64) (app_b1 hl28 encI_u64) (app_b2 hl28 encI_u64) ev ev rfl) rfl rfl rfl <| av rfl rfl <| ?_
     refine eO <| eB <| rg <| p10 (op_add ev (ec rfl) rfl) rfl <| mv rfl rfl <| eO <| ?_
     exact G.arr (J23 (IntKind.wrap .i64 (v22.1 + 1), l28) hF) z6 z4 rfl
   refine cF hc26 rfl <| ex <| ?_
   refine GX.c ?_
   refine GX.q ?_
   refine xY <| ?_
   exact G.arr (J21 v22.2 hF) z3 z4 rfl
 refine bl <| ?_
 refine lF (fun (v30 : Int × ByteArray) => ⟨[(1, .one (.ptr 1001 0)), (4, .one (.ptr 1004 0)), (26, .one (.g (.d (.sl 2 (List.map encApi_Range l5))))), (27, oI (l5.length : Int)), (28, oI v30.1)], [(1001, some (.blk 28 [.g (.d (.sl 2 (List.map encApi_Range c_0.Ranges))), .g (.d (.sl 1 (List.map encI_i64 c_0.Owners))), .g (.d (.sl 1 (List.map encI_i64 c_0.Parents)))])), (1004, some (.bld 45 5 3004 v30.2)), (3004, some (.hid true 1004))]⟩) hF z5 z3 rfl (fun K33 again32 v30 J31 hF => ?_)
 unfold wire_RowBytes_l6 at hF
 refine sr <| p20 (op_lss ev ev rfl) rfl rfl <| eO <| sq <| ?_
 refine ifS hF (fun hc34 hF => ?_) (fun hc34 hF => ?_)
 · refine cT hc34 rfl <| sk <| sq <| bl <| sr <| bn hF fun x35 hx35 hF => ?_
   refine p20 (op_indexM hx35 uU ti39 ev ev rfl) rfl rfl <| p10 (op_loadAE (ds := [vS x35.From, vS x35.To]) uU rfl ti39 rfl ev rfl) rfl <| q01 (op_alloc (k := 1006) (cs := [bS ByteArray.empty, bS ByteArray.empty]) ti39 ⟨.v _ rfl, .v _ rfl, trivial⟩ rfl) rfl <| w21 (op_storeAM ti39 rfl ev ev) rfl rfl rfl <| eO <| rg <| ?_
   refine p10 (op_fieldP (off' := 1) uU rfl ti9 (by decide) rfl ev rfl) rfl <| p11 (op_load1P uU rfl rfl ev rfl) rfl rfl <| bn hF fun r36 hr36 hF => p10 (op_callQ cf62 (ct_vary_Text _ _ hr36) rfl rfl (.cons qe .nil) rfl) rfl <| bn hF fun r37 hr37 hF => ?_
   refine G.opM (op_callM (k := 1004) (h := .bld 45 5 v30.2) (h' := .bld 45 5 r37) 3004 (sv := .tup [bI .i64 (r36.size : Int), .g (.d (.v .nilIface))]) cf19 (ct_bld_WriteString _ _ _ hr37) rfl rfl (.pt ev (.g ev .nil)) rfl) rfl z2 z2 ?_
   refine eO <| eB <| rg <| p10 (op_add ev (ec rfl) rfl) rfl <| mv rfl rfl <| eO <| ?_
   exact G.arr (J31 (IntKind.wrap .i64 (v30.1 + 1), r37) hF) z5 z3 rfl
 refine cF hc34 rfl <| ex <| ?_
 refine GX.c ?_
 refine GX.q ?_
 refine xY <| ?_
 exact G.arr (J29 v30.2 hF) z2 z3 rfl


theorem ct_words_reader_row (r_0 : Words_reader) (r : (Words_reader × Api_Row)) (hF : words_reader_row r_0 = some r) : CtM Tryz.prog 57 [.pt (.dat 82 (encWords_reader r_0))] (.dat 82 (encWords_reader r.1)) (.one (.agg (encApi_Row r.2))) := by
 unfold words_reader_row at hF
 refine CtM.intro (h := .dat 82 (encWords_reader r_0)) 0 Tryz.func57 rfl Tryz.ntmps57 rfl rfl rfl rfl (fun M w b go => ?_)
 refine sr <| q01 (op_alloc (k := 1002) (cs := [.g (.d (.sl 2 (List.map encApi_Range ([] : (List Api_Range))))), .g (.d (.sl 1 (List.map encI_i64 ([] : (List Int))))), .g (.d (.sl 1 (List.map encI_i64 ([] : (List Int)))))]) ti28 ⟨.n 2, .n 1, .n 1, trivial⟩ rfl) rfl <| eO <| sc <| sr <| q01 (op_alloc (k := 1003) (cs := [.g (.d (.v (.slice none 0 0))), .g (.d (.v (.slice none 0 0))), .g (.d (.v (.slice none 0 0)))]) ti28 ⟨.v _ rfl, .v _ rfl, .v _ rfl, trivial⟩ rfl) rfl <| ?_
 refine G.rowCell (kb := 1003) (kk := 5048) (E := 39) (size := 2) (j := 0) (cs' := [.own 5048 (List.map encApi_Range ([] : List Api_Range)), .g (.d (.v (.slice none 0 0))), .g (.d (.v (.slice none 0 0)))]) rfl rfl rfl rfl rfl rfl ?_
 refine G.rowCell (kb := 1003) (kk := 5049) (E := 3) (size := 1) (j := 1) (cs' := [.own 5048 (List.map encApi_Range ([] : List Api_Range)), .own 5049 (List.map encI_i64 ([] : List Int)), .g (.d (.v (.slice none 0 0)))]) rfl rfl rfl rfl rfl rfl ?_
 refine G.rowCell (kb := 1003) (kk := 5050) (E := 3) (size := 1) (j := 2) (cs' := [.own 5048 (List.map encApi_Range ([] : List Api_Range)), .own 5049 (List.map encI_i64 ([] : List Int)), .own 5050 (List.map encI_i64 ([] : List Int))]) rfl rfl rfl rfl rfl rfl ?_
 refine esr <| ac rfl rfl <| eO <| sq <| lb <| sq <| ?_
 refine G.joinC (T := (List ByteArray) × Bool × (List Api_Range) × (List Int)) (fun y1 => ⟨[(0, .one (.ptr 0 0)), (2, .one (.ptr 1002 0)), (3, .one (.ptr 1003 0))], [(0, some (.blk 82 [.g (.d (.sl 1 (List.map encS y1.1))), bB y1.2.1])), (1002, some (.blk 28 [.g (.d (.sl 2 (List.map encApi_Range ([] : (List Api_Range))))), .g (.d (.sl 1 (List.map encI_i64 ([] : (List Int))))), .g (.d (.sl 1 (List.map encI_i64 ([] : (List Int)))))])), (1003, some (.blk 28 [.own 5048 (List.map encApi_Range y1.2.2.1), .own 5049 (List.map encI_i64 y1.2.2.2), .own 5050 (List.map encI_i64 ([] : List Int))])), (5048, some (.row 39 2 (List.map encApi_Range y1.2.2.1) false)), (5049, some (.row 3 1 (List.map encI_i64 y1.2.2.2) false)), (5050, some (.row 3 1 (List.map encI_i64 ([] : List Int)) false))]⟩) (fun y1 => words_reader_row_k1 y1 = some r) (fun y1 hF => ?_) (fun J18 => ?_)
 · unfold words_reader_row_k1 at hF
   refine sq <| ?_
   refine G.joinC (T := (List ByteArray) × Bool × (List Int)) (fun y2 => ⟨[(0, .one (.ptr 0 0)), (2, .one (.ptr 1002 0)), (3, .one (.ptr 1003 0))], [(0, some (.blk 82 [.g (.d (.sl 1 (List.map encS y2.1))), bB y2.2.1])), (1002, some (.blk 28 [.g (.d (.sl 2 (List.map encApi_Range ([] : (List Api_Range))))), .g (.d (.sl 1 (List.map encI_i64 ([] : (List Int))))), .g (.d (.sl 1 (List.map encI_i64 ([] : (List Int)))))])), (1003, some (.blk 28 [.own 5048 (List.map encApi_Range y1.2.2.1), .own 5049 (List.map encI_i64 y1.2.2.2), .own 5050 (List.map encI_i64 y2.2.2)])), (5048, some (.row 39 2 (List.map encApi_Range y1.2.2.1) false)), (5049, some (.row 3 1 (List.map encI_i64 y1.2.2.2) false)), (5050, some (.row 3 1 (List.map encI_i64 y2.2.2) false))]⟩) (fun y2 => words_reader_row_k2 y1 y2 = some r) (fun y2 hF => ?_) (fun J5 => ?_)
   · unfold words_reader_row_k2 at hF
     refine sr <| mv rfl rfl <| mv rfl rfl <| p10 (op_nilCheckP ev rfl) rfl <| p10 (op_fieldP (off' := 1) uU rfl ti4 (by decide) rfl ev rfl) rfl <| p11 (op_load1P uU rfl rfl ev rfl) rfl rfl <| ?_
     refine mv rfl rfl <| ?_
     refine ifS hF (fun hc3 hF => ?_) (fun hc3 hF => ?_)
     · refine G.known (t := 85) hc3 rfl <| oN rfl rfl rfl <| oN rfl rfl rfl <| oN rfl rfl rfl <| p10 (op_pickT ev (ec rfl) rfl) rfl <| p10 (op_nilCheckP ev rfl) rfl <| ?_
       refine p10 (op_fieldP (off' := 1) uU rfl ti4 (by decide) rfl ev rfl) rfl <| w21 (op_store1M sgd ti4 rfl ev ev) rfl rfl rfl <| esr <| ?_
       refine G.viewCell (kb := 1003) (j := 0) (cs' := [.g (.d (.sl 2 (List.map encApi_Range y1.2.2.1))), .own 5049 (List.map encI_i64 y1.2.2.2), .own 5050 (List.map encI_i64 y2.2.2)]) rfl rfl rfl rfl ?_
       refine G.viewCell (kb := 1003) (j := 1) (cs' := [.g (.d (.sl 2 (List.map encApi_Range y1.2.2.1))), .g (.d (.sl 1 (List.map encI_i64 y1.2.2.2))), .own 5050 (List.map encI_i64 y2.2.2)]) rfl rfl rfl rfl ?_
       refine G.viewCell (kb := 1003) (j := 2) (cs' := [.g (.d (.sl 2 (List.map encApi_Range y1.2.2.1))), .g (.d (.sl 1 (List.map encI_i64 y1.2.2.2))), .g (.d (.sl 1 (List.map encI_i64 y2.2.2)))]) rfl rfl rfl rfl ?_
       refine p11 (op_loadAP (ds := [.sl 2 (List.map encApi_Range y1.2.2.1), .sl 1 (List.map encI_i64 y1.2.2.2), .sl 1 (List.map encI_i64 y2.2.2)]) uU rfl ti28 rfl ev rfl) rfl rfl <| w21 (op_storeAM ti28 rfl ev ev) rfl rfl rfl <| eO <| ?_
       have hF := Option.some.inj hF; subst hF
       exact G.retM (retOK1 Tryz.results57 (RVar.cellA (ds := [.sl 2 (List.map encApi_Range y1.2.2.1), .sl 1 (List.map encI_i64 y1.2.2.2), .sl 1 (List.map encI_i64 y2.2.2)]) uU rfl ti28 rfl)) z1 z1 z1
     refine G.known (t := 85) hc3 rfl <| ?_
     refine G.viewCell (kb := 1003) (j := 0) (cs' := [.g (.d (.sl 2 (List.map encApi_Range y1.2.2.1))), .own 5049 (List.map encI_i64 y1.2.2.2), .own 5050 (List.map encI_i64 y2.2.2)]) rfl rfl rfl rfl ?_
     refine G.viewCell (kb := 1003) (j := 1) (cs' := [.g (.d (.sl 2 (List.map encApi_Range y1.2.2.1))), .g (.d (.sl 1 (List.map encI_i64 y1.2.2.2))), .own 5050 (List.map encI_i64 y2.2.2)]) rfl rfl rfl rfl ?_
     refine G.viewCell (kb := 1003) (j := 2) (cs' := [.g (.d (.sl 2 (List.map encApi_Range y1.2.2.1))), .g (.d (.sl 1 (List.map encI_i64 y1.2.2.2))), .g (.d (.sl 1 (List.map encI_i64 y2.2.2)))]) rfl rfl rfl rfl ?_
     refine g11 (op_loadAP (ds := [.sl 2 (List.map encApi_Range y1.2.2.1), .sl 1 (List.map encI_i64 y1.2.2.2), .sl 1 (List.map encI_i64 y2.2.2)]) uU rfl ti28 rfl ev rfl) rfl rfl rfl rfl <| bn hF fun r4 hr4 hF => g10 (op_callQ cf31 (ct_wire_RowBytes _ _ hr4) rfl rfl (.cons qe .nil) rfl) rfl rfl rfl <| g10 (op_eqS ev (ec rfl) rfl) rfl rfl rfl <| p20 (op_pickF ev ev rfl) rfl rfl <| p10 (op_nilCheckP ev rfl) rfl <| ?_
     refine p10 (op_fieldP (off' := 1) uU rfl ti4 (by decide) rfl ev rfl) rfl <| w21 (op_store1M sgd ti4 rfl ev ev) rfl rfl rfl <| esr <| p11 (op_loadAP (ds := [.sl 2 (List.map encApi_Range y1.2.2.1), .sl 1 (List.map encI_i64 y1.2.2.2), .sl 1 (List.map encI_i64 y2.2.2)]) uU rfl ti28 rfl ev rfl) rfl rfl <| w21 (op_storeAM ti28 rfl ev ev) rfl rfl rfl <| eO <| ?_
     have hF := Option.some.inj hF; subst hF
     exact G.retM (retOK1 Tryz.results57 (RVar.cellA (ds := [.sl 2 (List.map encApi_Range y1.2.2.1), .sl 1 (List.map encI_i64 y1.2.2.2), .sl 1 (List.map encI_i64 y2.2.2)]) uU rfl ti28 rfl)) z1 z1 z1
   refine bl <| ?_
   refine lF (fun (v6 : (List ByteArray) × Bool × (List Int)) => ⟨[(0, .one (.ptr 0 0)), (2, .one (.ptr 1002 0)), (3, .one (.ptr 1003 0))], [(0, some (.blk 82 [.g (.d (.sl 1 (List.map encS v6.1))), bB v6.2.1])), (1002, some (.blk 28 [.g (.d (.sl 2 (List.map encApi_Range ([] : (List Api_Range))))), .g (.d (.sl 1 (List.map encI_i64 ([] : (List Int))))), .g (.d (.sl 1 (List.map encI_i64 ([] : (List Int)))))])), (1003, some (.blk 28 [.own 5048 (List.map encApi_Range y1.2.2.1), .own 5049 (List.map encI_i64 y1.2.2.2), .own 5050 (List.map encI_i64 v6.2.2)])), (5048, some (.row 39 2 (List.map encApi_Range y1.2.2.1) false)), (5049, some (.row 3 1 (List.map encI_i64 y1.2.2.2) false)), (5050, some (.row 3 1 (List.map encI_i64 v6.2.2) false))]⟩) hF z3 z6 rfl (fun K9 again8 v6 J7 hF => ?_)
   unfold words_reader_row_l3 at hF
   refine sq <| sr <| mv rfl rfl <| bn hF fun r10 hr10 hF => ?_
   refine G.opM (op_callM (k := 0) (h := .dat 82 (encWords_reader (Words_reader.mk v6.1 v6.2.1))) (h' := .dat 82 (encWords_reader r10.1)) 0 (sv := oB r10.2) cf56 (ct_words_reader_more _ _ hr10) rfl rfl (.pt ev .nil) rfl) rfl z1 z1 ?_
   refine eO <| ?_
   refine ifS hF (fun hc11 hF => ?_) (fun hc11 hF => ?_)
   · refine cT hc11 rfl <| sk <| bl <| sq <| sr <| mv rfl rfl <| ?_
     refine p10 (op_nilCheckP ev rfl) rfl <| p10 (op_fieldP (off' := 0) uU rfl ti24 (by decide) rfl ev rfl) rfl <| p11 (op_load1P uU rfl rfl ev rfl) rfl rfl <| bn hF fun x12 hx12 hF => p10 (op_indexM hx12 uU ti9 ev (ec rfl) rfl) rfl <| p10 (op_load1E uU rfl rfl ev rfl) rfl <| ?_
     refine p10 (op_eqS ev (ec rfl) rfl) rfl <| eO <| ?_
     refine ifS hF (fun hc13 hF => ?_) (fun hc13 hF => ?_)
     · refine cT hc13 rfl <| sr <| mv rfl rfl <| bn hF fun r14 hr14 hF => ?_
       refine G.opM (op_callM (k := 0) (h := .dat 82 (encWords_reader r10.1)) (h' := .dat 82 (encWords_reader r14.1)) 0 (sv := oS r14.2) cf86 (ct_words_reader_next _ _ hr14) rfl rfl (.pt ev .nil) rfl) rfl z1 z1 ?_
       refine esr <| p10 (op_fieldP (off' := 2) uU rfl ti26 (by decide) rfl ev rfl) rfl <| p11 (op_load1P uU rfl rfl ev rfl) rfl rfl <| p00 (op_buildSlice (es := List.map encI_i64 [(-1)]) uU ti3 rfl rfl (.cons (ec rfl) .nil) rfl rfl (by simp [encI_i64]) rfl) <| bn hF fun l15 hl15 hF => q21 (op_appendO uU ti3 rfl (app_map hl15 encI_i64) (app_b1 hl15 encI_i64) (app_b2 hl15 encI_i64) ev ev rfl) rfl rfl rfl <| ?_
       refine p10 (op_fieldP (off' := 2) uU rfl ti26 (by decide) rfl ev rfl) rfl <| w22 (op_storeO (cs' := [.own 5048 (List.map encApi_Range y1.2.2.1), .own 5049 (List.map encI_i64 y1.2.2.2), .own 5050 (List.map encI_i64 l15)]) ti26 rfl rfl rfl ev ev) rfl rfl rfl rfl <| eO <| ex <| ?_
       refine GX.c ?_
       refine xY <| ?_
       exact G.arr (J7 (r14.1.words, r14.1.bad, l15) hF) z3 z6 rfl
     refine cF hc13 rfl <| sk <| bn hF fun r16 hr16 hF => bn hF fun l17 hl17 hF => ?_
     refine G.drawnI (deps := [[], [0], [], [2], [2, 3], [0, 1, 2, 3, 4], [0, 1, 2, 3, 4, 5], [0, 1, 2, 3, 4, 5, 6]]) (sl' := [(0, .one (.ptr 0 0)), (2, .one (.ptr 1002 0)), (3, .one (.ptr 1003 0))]) (hp' := [(0, some (.blk 82 [.g (.d (.sl 1 (List.map encS r16.1.words))), bB r16.1.bad])), (1002, some (.blk 28 [.g (.d (.sl 2 (List.map encApi_Range ([] : (List Api_Range))))), .g (.d (.sl 1 (List.map encI_i64 ([] : (List Int))))), .g (.d (.sl 1 (List.map encI_i64 ([] : (List Int)))))])), (1003, some (.blk 28 [.own 5048 (List.map encApi_Range y1.2.2.1), .own 5049 (List.map encI_i64 y1.2.2.2), .own 5050 (List.map encI_i64 l17)])), (5048, some (.row 39 2 (List.map encApi_Range y1.2.2.1) false)), (5049, some (.row 3 1 (List.map encI_i64 y1.2.2.2) false)), (5050, some (.row 3 1 (List.map encI_i64 l17) false))]) (.c (oP rfl rfl (op_fieldP (off' := 2) uU rfl ti26 (by decide) rfl ev rfl)) (.c (oP rfl rfl (op_load1P uU rfl rfl ev rfl)) (.c (oP rfl rfl (op_move ev rfl)) (.c (oP rfl rfl (op_callM (k := 0) (h := .dat 82 (encWords_reader r10.1)) (h' := .dat 82 (encWords_reader r16.1)) 0 (sv := oI r16.2) cf54 (ct_words_reader_number _ _ hr16) rfl rfl (.pt ev .nil) rfl)) (.c (oP rfl rfl (op_buildSlice (es := List.map encI_i64 [r16.2]) uU ti3 rfl rfl (.cons ev .nil) rfl rfl (by simp [encI_i64]) rfl)) (.c (oP rfl rfl (op_appendO uU ti3 rfl (app_map hl17 encI_i64) (app_b1 hl17 encI_i64) (app_b2 hl17 encI_i64) ev ev rfl)) (.c (oP rfl rfl (op_fieldP (off' := 2) uU rfl ti26 (by decide) rfl ev rfl)) (.c (oP rfl rfl (op_storeO (cs' := [.own 5048 (List.map encApi_Range y1.2.2.1), .own 5049 (List.map encI_i64 y1.2.2.2), .own 5050 (List.map encI_i64 l17)]) ti26 rfl rfl rfl ev ev)) .nil)))))))) follows rfl rfl rfl ⟨⟨rfl, trivial⟩, trivial, ⟨rfl, trivial⟩, ⟨⟨rfl, rfl⟩, trivial⟩, ⟨rfl, trivial⟩, trivial, ⟨rfl, trivial⟩, ⟨⟨rfl, rfl⟩, trivial⟩, ⟨rfl, trivial⟩, trivial, ⟨rfl, rfl, trivial⟩, ⟨⟨rfl, rfl⟩, trivial⟩, ⟨rfl, trivial⟩, trivial, ⟨rfl, rfl, trivial⟩, ⟨⟨rfl, rfl⟩, ⟨rfl, rfl⟩, trivial⟩, trivial⟩ ⟨rfl, rfl, rfl, trivial⟩ ⟨rfl, rfl, rfl, rfl, rfl, rfl, trivial⟩ rfl ?_
     refine eB <| ?_
     exact G.arr (J7 (r16.1.words, r16.1.bad, l17) hF) z3 z6 rfl
   refine cF hc11 rfl <| ex <| ?_
   refine GX.c ?_
   refine GX.q ?_
   refine xY <| ?_
   exact G.arr (J5 (r10.1.words, r10.1.bad, v6.2.2) hF) z3 z6 rfl
 refine bl <| ?_
 refine lF (fun (v19 : ByteArray × (List ByteArray) × Bool × (List Api_Range) × (List Int)) => ⟨[(0, .one (.ptr 0 0)), (2, .one (.ptr 1002 0)), (3, .one (.ptr 1003 0)), (4, oS v19.1)], [(0, some (.blk 82 [.g (.d (.sl 1 (List.map encS v19.2.1))), bB v19.2.2.1])), (1002, some (.blk 28 [.g (.d (.sl 2 (List.map encApi_Range ([] : (List Api_Range))))), .g (.d (.sl 1 (List.map encI_i64 ([] : (List Int))))), .g (.d (.sl 1 (List.map encI_i64 ([] : (List Int)))))])), (1003, some (.blk 28 [.own 5048 (List.map encApi_Range v19.2.2.2.1), .own 5049 (List.map encI_i64 v19.2.2.2.2), .own 5050 (List.map encI_i64 ([] : List Int))])), (5048, some (.row 39 2 (List.map encApi_Range v19.2.2.2.1) false)), (5049, some (.row 3 1 (List.map encI_i64 v19.2.2.2.2) false)), (5050, some (.row 3 1 (List.map encI_i64 ([] : List Int)) false))]⟩) hF z4 z6 rfl (fun K22 again21 v19 J20 hF => ?_)
 unfold words_reader_row_l4 at hF
 refine sq <| sr <| mv rfl rfl <| p10 (op_nilCheckP ev rfl) rfl <| p10 (op_fieldP (off' := 1) uU rfl ti4 (by decide) rfl ev rfl) rfl <| p11 (op_load1P uU rfl rfl ev rfl) rfl rfl <| ?_
 refine p10 (op_not ev rfl) rfl <| eO <| ?_
 refine ifS hF (fun hc23 hF => ?_) (fun hc23 hF => ?_)
 · refine cT hc23 rfl <| sk <| bl <| sq <| bn hF fun r24 hr24 hF => bn hF fun l25 hl25 hF => ?_
   refine G.drawnI (deps := [[], [0], [], [2], [2, 3], [0, 1, 2, 3, 4], [0, 1, 2, 3, 4, 5], [0, 1, 2, 3, 4, 5, 6]]) (sl' := [(0, .one (.ptr 0 0)), (2, .one (.ptr 1002 0)), (3, .one (.ptr 1003 0)), (4, oS v19.1)]) (hp' := [(0, some (.blk 82 [.g (.d (.sl 1 (List.map encS r24.1.words))), bB r24.1.bad])), (1002, some (.blk 28 [.g (.d (.sl 2 (List.map encApi_Range ([] : (List Api_Range))))), .g (.d (.sl 1 (List.map encI_i64 ([] : (List Int))))), .g (.d (.sl 1 (List.map encI_i64 ([] : (List Int)))))])), (1003, some (.blk 28 [.own 5048 (List.map encApi_Range v19.2.2.2.1), .own 5049 (List.map encI_i64 l25), .own 5050 (List.map encI_i64 ([] : List Int))])), (5048, some (.row 39 2 (List.map encApi_Range v19.2.2.2.1) false)), (5049, some (.row 3 1 (List.map encI_i64 l25) false)), (5050, some (.row 3 1 (List.map encI_i64 ([] : List Int)) false))]) (.c (oP rfl rfl (op_fieldP (off' := 1) uU rfl ti26 (by decide) rfl ev rfl)) (.c (oP rfl rfl (op_load1P uU rfl rfl ev rfl)) (.c (oP rfl rfl (op_move ev rfl)) (.c (oP rfl rfl (op_callM (k := 0) (h := .dat 82 (encWords_reader (Words_reader.mk v19.2.1 v19.2.2.1))) (h' := .dat 82 (encWords_reader r24.1)) 0 (sv := oI r24.2) cf54 (ct_words_reader_number _ _ hr24) rfl rfl (.pt ev .nil) rfl)) (.c (oP rfl rfl (op_buildSlice (es := List.map encI_i64 [r24.2]) uU ti3 rfl rfl (.cons ev .nil) rfl rfl (by simp [encI_i64]) rfl)) (.c (oP rfl rfl (op_appendO uU ti3 rfl (app_map hl25 encI_i64) (app_b1 hl25 encI_i64) (app_b2 hl25 encI_i64) ev ev rfl)) (.c (oP rfl rfl (op_fieldP (off' := 1) uU rfl ti26 (by decide) rfl ev rfl)) (.c (oP rfl rfl (op_storeO (cs' := [.own 5048 (List.map encApi_Range v19.2.2.2.1), .own 5049 (List.map encI_i64 l25), .own 5050 (List.map encI_i64 ([] : List Int))]) ti26 rfl rfl rfl ev ev)) .nil)))))))) follows rfl rfl rfl ⟨⟨rfl, trivial⟩, trivial, ⟨rfl, trivial⟩, ⟨⟨rfl, rfl⟩, trivial⟩, ⟨rfl, trivial⟩, trivial, ⟨rfl, trivial⟩, ⟨⟨rfl, rfl⟩, trivial⟩, ⟨rfl, trivial⟩, trivial, ⟨rfl, rfl, trivial⟩, ⟨⟨rfl, rfl⟩, trivial⟩, ⟨rfl, trivial⟩, trivial, ⟨rfl, rfl, trivial⟩, ⟨⟨rfl, rfl⟩, ⟨rfl, rfl⟩, trivial⟩, trivial⟩ ⟨rfl, rfl, rfl, rfl, trivial⟩ ⟨rfl, rfl, rfl, rfl, rfl, rfl, trivial⟩ rfl ?_
   refine sq <| sq <| ?_
   refine G.joinC (T := Bool × (List ByteArray) × Bool) (fun y26 => ⟨[(0, .one (.ptr 0 0)), (2, .one (.ptr 1002 0)), (3, .one (.ptr 1003 0)), (4, oS v19.1), (26, oB y26.1)], [(0, some (.blk 82 [.g (.d (.sl 1 (List.map encS y26.2.1))), bB y26.2.2])), (1002, some (.blk 28 [.g (.d (.sl 2 (List.map encApi_Range ([] : (List Api_Range))))), .g (.d (.sl 1 (List.map encI_i64 ([] : (List Int))))), .g (.d (.sl 1 (List.map encI_i64 ([] : (List Int)))))])), (1003, some (.blk 28 [.own 5048 (List.map encApi_Range v19.2.2.2.1), .own 5049 (List.map encI_i64 l25), .own 5050 (List.map encI_i64 ([] : List Int))])), (5048, some (.row 39 2 (List.map encApi_Range v19.2.2.2.1) false)), (5049, some (.row 3 1 (List.map encI_i64 l25) false)), (5050, some (.row 3 1 (List.map encI_i64 ([] : List Int)) false))]⟩) (fun y26 => words_reader_row_k5 again21 v19 l25 y26 = some r) (fun y26 hF => ?_) (fun J34 => ?_)
   · unfold words_reader_row_k5 at hF
     refine ifS hF (fun hc27 hF => ?_) (fun hc27 hF => ?_)
     · refine cT hc27 rfl <| sr <| mv rfl rfl <| p10 (op_nilCheckP ev rfl) rfl <| p10 (op_fieldP (off' := 1) uU rfl ti4 (by decide) rfl ev rfl) rfl <| w11 (op_store1M sgd ti4 rfl ev (ec rfl)) rfl rfl <| ?_
       refine eO <| ex <| ?_
       refine GX.c ?_
       refine GX.bNo rfl ?_
       refine GX.q ?_
       refine xY <| ?_
       exact G.arr (J18 (y26.2.1, true, v19.2.2.2.1, l25) hF) z3 z6 rfl
     refine cF hc27 rfl <| sk <| sq <| sr <| mv rfl rfl <| p10 (op_nilCheckP ev rfl) rfl <| ?_
     refine p10 (op_fieldP (off' := 0) uU rfl ti24 (by decide) rfl ev rfl) rfl <| p11 (op_load1P uU rfl rfl ev rfl) rfl rfl <| bn hF fun x28 hx28 hF => p10 (op_indexM hx28 uU ti9 ev (ec rfl) rfl) rfl <| p10 (op_load1E uU rfl rfl ev rfl) rfl <| p10 (op_eqS ev (ec rfl) rfl) rfl <| ?_
     refine eO <| ?_
     refine ifS hF (fun hc29 hF => ?_) (fun hc29 hF => ?_)
     · refine cT hc29 rfl <| sr <| mv rfl rfl <| bn hF fun r30 hr30 hF => ?_
       refine G.opM (op_callM (k := 0) (h := .dat 82 (encWords_reader (Words_reader.mk y26.2.1 y26.2.2))) (h' := .dat 82 (encWords_reader r30.1)) 0 (sv := oS r30.2) cf86 (ct_words_reader_next _ _ hr30) rfl rfl (.pt ev .nil) rfl) rfl z1 z1 ?_
       refine esr <| p10 (op_fieldP (off' := 0) uU rfl ti25 (by decide) rfl ev rfl) rfl <| p11 (op_load1P uU rfl rfl ev rfl) rfl rfl <| mv rfl rfl <| p10 (op_build (zs := [vS ByteArray.empty, vS ByteArray.empty]) (ds := [vS v19.1, vS ByteArray.empty]) uU ti39 (pl39 _ uU) ⟨.v _ rfl, .v _ rfl, trivial⟩ (.cons ev .nil) rfl rfl) rfl <| p10 (op_buildSlice (es := List.map encApi_Range [(Api_Range.mk v19.1 ByteArray.empty)]) uU ti39 rfl rfl (.cons ev .nil) rfl rfl (by simp [encApi_Range]) rfl) rfl <| ?_
       refine bn hF fun l31 hl31 hF => q21 (op_appendO uU ti39 rfl (app_map hl31 encApi_Range) (app_b1 hl31 encApi_Range) (app_b2 hl31 encApi_Range) ev ev rfl) rfl rfl rfl <| p10 (op_fieldP (off' := 0) uU rfl ti25 (by decide) rfl ev rfl) rfl <| w22 (op_storeO (cs' := [.own 5048 (List.map encApi_Range l31), .own 5049 (List.map encI_i64 l25), .own 5050 (List.map encI_i64 ([] : List Int))]) ti25 rfl rfl rfl ev ev) rfl rfl rfl rfl <| eO <| ex <| ?_
       refine GX.c ?_
       refine GX.bNo rfl ?_
       refine GX.q ?_
       refine xY <| ?_
       exact G.arr (J18 (r30.1.words, r30.1.bad, l31, l25) hF) z3 z6 rfl
     refine cF hc29 rfl <| sk <| sr <| mv rfl rfl <| bn hF fun r32 hr32 hF => ?_
     refine G.opM (op_callM (k := 0) (h := .dat 82 (encWords_reader (Words_reader.mk y26.2.1 y26.2.2))) (h' := .dat 82 (encWords_reader r32.1)) 0 (sv := oS r32.2) cf55 (ct_words_reader_text _ _ hr32) rfl rfl (.pt ev .nil) rfl) rfl z1 z1 ?_
     refine av rfl rfl <| esr <| p10 (op_fieldP (off' := 0) uU rfl ti25 (by decide) rfl ev rfl) rfl <| p11 (op_load1P uU rfl rfl ev rfl) rfl rfl <| mv rfl rfl <| mv rfl rfl <| ?_
     refine p20 (op_build (zs := [vS ByteArray.empty, vS ByteArray.empty]) (ds := [vS v19.1, vS r32.2]) uU ti39 (pl39 _ uU) ⟨.v _ rfl, .v _ rfl, trivial⟩ (.cons ev (.cons ev .nil)) rfl rfl) rfl rfl <| p10 (op_buildSlice (es := List.map encApi_Range [(Api_Range.mk v19.1 r32.2)]) uU ti39 rfl rfl (.cons ev .nil) rfl rfl (by simp [encApi_Range]) rfl) rfl <| bn hF fun l33 hl33 hF => q21 (op_appendO uU ti39 rfl (app_map hl33 encApi_Range) (app_b1 hl33 encApi_Range) (app_b2 hl33 encApi_Range) ev ev rfl) rfl rfl rfl <| p10 (op_fieldP (off' := 0) uU rfl ti25 (by decide) rfl ev rfl) rfl <| w22 (op_storeO (cs' := [.own 5048 (List.map encApi_Range l33), .own 5049 (List.map encI_i64 l25), .own 5050 (List.map encI_i64 ([] : List Int))]) ti25 rfl rfl rfl ev ev) rfl rfl rfl rfl <| ?_
     refine eO <| rg <| mv rfl rfl <| av rfl rfl <| eO <| eB <| ?_
     exact G.arr (J20 (r32.2, r32.1.words, r32.1.bad, l33, l25) hF) z4 z6 rfl
   refine rg <| mv rfl rfl <| p10 (op_nilCheckP ev rfl) rfl <| p10 (op_fieldP (off' := 1) uU rfl ti4 (by decide) rfl ev rfl) rfl <| p11 (op_load1P uU rfl rfl ev rfl) rfl rfl <| mv rfl rfl <| ?_
   refine ifS hF (fun hc35 hF => ?_) (fun hc35 hF => ?_)
   · refine G.known (t := 22) hc35 rfl <| oN rfl rfl rfl <| oN rfl rfl rfl <| oN rfl rfl rfl <| p10 (op_pickT ev (ec rfl) rfl) rfl <| eO <| ?_
     exact G.arr (J34 (true, r24.1.words, r24.1.bad) hF) z5 z6 rfl
   refine G.known (t := 22) hc35 rfl <| g10 (op_move ev rfl) rfl rfl rfl <| bn hF fun r36 hr36 hF => ?_
   refine G.opGM (op_callM (k := 0) (h := .dat 82 (encWords_reader r24.1)) (h' := .dat 82 (encWords_reader r36.1)) 0 (sv := oB r36.2) cf56 (ct_words_reader_more _ _ hr36) rfl rfl (.pt ev .nil) rfl) rfl rfl rfl z1 z1 ?_
   refine g10 (op_not ev rfl) rfl rfl rfl <| p20 (op_pickF ev ev rfl) rfl rfl <| eO <| ?_
   exact G.arr (J34 (!r36.2, r36.1.words, r36.1.bad) hF) z5 z6 rfl
 refine cF hc23 rfl <| ex <| ?_
 refine GX.c ?_
 refine GX.q ?_
 refine xY <| ?_
 exact G.arr (J18 (v19.2.1, v19.2.2.1, v19.2.2.2.1, v19.2.2.2.2) hF) z3 z6 rfl


theorem ct_words_step (w_0 : (List ByteArray)) (r : (Api_Op × Bool)) (hF : words_step w_0 = some r) : Ct Tryz.prog 24 [.g (.d (.sl 1 (List.map encS w_0)))] (.tup [.agg (encApi_Op r.1), .d (vB r.2)]) := by
 unfold words_step at hF
 refine Ct.intro Tryz.func24 rfl Tryz.ntmps24 rfl rfl fun M w => ?_
 refine sr <| q01 (op_alloc (k := 1002) (cs := [bI .i64 0, bI .i64 0, bI .i64 0, bI .i64 0, bI .i64 0, bI .i64 0, bS ByteArray.empty, bS ByteArray.empty, .g (.d (.sl 1 (List.map encS ([] : (List ByteArray))))), .g (.d (.sl 2 (List.map encApi_Range ([] : (List Api_Range))))), .g (.d (.sl 1 (List.map encI_i64 ([] : (List Int))))), .g (.d (.sl 1 (List.map encI_i64 ([] : (List Int)))))]) ti30 ⟨.v _ rfl, .v _ rfl, .v _ rfl, .v _ rfl, .v _ rfl, .v _ rfl, .v _ rfl, .v _ rfl, .n 1, .n 2, .n 1, .n 1, trivial⟩ rfl) rfl <| ac rfl rfl <| esr <| mv rfl rfl <| bn hF fun l1 hl1 hF => ?_
 refine p10 (op_sliceD (lo := some 1) (hi := none) uU ti9 (sub_okE hl1 encS).1 (sub_okE hl1 encS).2.1 (Int.le_refl _) (sub_okE hl1 encS).2.2 ev (.some (ec rfl)) .none rfl) rfl <| p10 (op_build (zs := [.sl 1 (List.map encS ([] : (List ByteArray))), vB false]) (ds := [.sl 1 (List.map encS l1), vB false]) uU ti82 (pl82 _ uU) ⟨.n 1, .v _ rfl, trivial⟩ (.cons ev .nil) rfl rfl) rfl <| q11 (op_boxA (k := 1009) ev rfl) rfl rfl <| av rfl rfl <| esr <| mv rfl rfl <| ?_
 refine bn hF fun x2 hx2 hF => p10 (op_indexM hx2 uU ti9 ev (ec rfl) rfl) rfl <| p10 (op_load1E uU rfl rfl ev rfl) rfl <| bn hF fun r3 hr3 hF => p10 (op_callQ cf53 (ct_words_kind _ _ hr3) rfl rfl (.cons qe .nil) rfl) rfl <| p10 (op_build (zs := [vI 0, vI 0, vI 0, vI 0, vI 0, vI 0, vS ByteArray.empty, vS ByteArray.empty, .v (.slice none 0 0), .sl 2 (List.map encApi_Range ([] : (List Api_Range))), .sl 1 (List.map encI_i64 ([] : (List Int))), .sl 1 (List.map encI_i64 ([] : (List Int)))]) (ds := [vI r3, vI 0, vI 0, vI 0, vI 0, vI 0, vS ByteArray.empty, vS ByteArray.empty, .v (.slice none 0 0), .sl 2 (List.map encApi_Range ([] : (List Api_Range))), .sl 1 (List.map encI_i64 ([] : (List Int))), .sl 1 (List.map encI_i64 ([] : (List Int)))]) uU ti30 (pl30 _ uU) ⟨.v _ rfl, .v _ rfl, .v _ rfl, .v _ rfl, .v _ rfl, .v _ rfl, .v _ rfl, .v _ rfl, .v _ rfl, .n 2, .n 1, .n 1, trivial⟩ (.cons ev .nil) rfl rfl) rfl <| ?_
 refine q01 (op_alloc (k := 1005) (cs := [bI .i64 0, bI .i64 0, bI .i64 0, bI .i64 0, bI .i64 0, bI .i64 0, bS ByteArray.empty, bS ByteArray.empty, .g (.d (.v (.slice none 0 0))), .g (.d (.sl 2 (List.map encApi_Range ([] : (List Api_Range))))), .g (.d (.sl 1 (List.map encI_i64 ([] : (List Int))))), .g (.d (.sl 1 (List.map encI_i64 ([] : (List Int)))))]) ti30 ⟨.v _ rfl, .v _ rfl, .v _ rfl, .v _ rfl, .v _ rfl, .v _ rfl, .v _ rfl, .v _ rfl, .v _ rfl, .n 2, .n 1, .n 1, trivial⟩ rfl) rfl <| w21 (op_storeAM ti30 rfl ev ev) rfl rfl rfl <| ?_
 refine G.rowCell (kb := 1005) (kk := 5088) (E := 9) (size := 1) (j := 8) (cs' := [bI .i64 r3, bI .i64 0, bI .i64 0, bI .i64 0, bI .i64 0, bI .i64 0, bS ByteArray.empty, bS ByteArray.empty, .own 5088 (List.map encS ([] : List ByteArray)), .g (.d (.sl 2 (List.map encApi_Range ([] : (List Api_Range))))), .g (.d (.sl 1 (List.map encI_i64 ([] : (List Int))))), .g (.d (.sl 1 (List.map encI_i64 ([] : (List Int)))))]) rfl rfl rfl rfl rfl rfl ?_
 refine eO <| sq <| sr <| p10 (op_fieldP (off' := 0) uU rfl ti3 (by decide) rfl ev rfl) rfl <| p11 (op_load1P uU rfl rfl ev rfl) rfl rfl <| eO <| ?_
 refine bl <| sq <| sr <| p10 (op_eqI ev (ec rfl) rfl) rfl <| av rfl rfl <| eO <| ?_
 refine G.joinC (T := Bool) (fun y4 => ⟨[(2, .one (.ptr 1002 0)), (4, .one (.ptr 1009 0)), (5, .one (.ptr 1005 0)), (16, oI r3), (17, oB y4)], [(1002, some (.blk 30 [bI .i64 0, bI .i64 0, bI .i64 0, bI .i64 0, bI .i64 0, bI .i64 0, bS ByteArray.empty, bS ByteArray.empty, .g (.d (.sl 1 (List.map encS ([] : (List ByteArray))))), .g (.d (.sl 2 (List.map encApi_Range ([] : (List Api_Range))))), .g (.d (.sl 1 (List.map encI_i64 ([] : (List Int))))), .g (.d (.sl 1 (List.map encI_i64 ([] : (List Int)))))])), (1005, some (.blk 30 [bI .i64 r3, bI .i64 0, bI .i64 0, bI .i64 0, bI .i64 0, bI .i64 0, bS ByteArray.empty, bS ByteArray.empty, .own 5088 (List.map encS ([] : List ByteArray)), .g (.d (.sl 2 (List.map encApi_Range ([] : (List Api_Range))))), .g (.d (.sl 1 (List.map encI_i64 ([] : (List Int))))), .g (.d (.sl 1 (List.map encI_i64 ([] : (List Int)))))])), (1009, some (.blk 82 [.g (.d (.sl 1 (List.map encS l1))), bB false])), (5088, some (.row 9 1 (List.map encS ([] : List ByteArray)) false))]⟩) (fun y4 => words_step_k1 l1 r3 y4 = some r) (fun y4 hF => ?_) (fun J52 => ?_)
 · unfold words_step_k1 at hF
   refine G.joinC (T := Int × Int × (List ByteArray) × Bool) (fun y5 => ⟨[(2, .one (.ptr 1002 0)), (4, .one (.ptr 1009 0)), (5, .one (.ptr 1005 0))], [(1002, some (.blk 30 [bI .i64 0, bI .i64 0, bI .i64 0, bI .i64 0, bI .i64 0, bI .i64 0, bS ByteArray.empty, bS ByteArray.empty, .g (.d (.sl 1 (List.map encS ([] : (List ByteArray))))), .g (.d (.sl 2 (List.map encApi_Range ([] : (List Api_Range))))), .g (.d (.sl 1 (List.map encI_i64 ([] : (List Int))))), .g (.d (.sl 1 (List.map encI_i64 ([] : (List Int)))))])), (1005, some (.blk 30 [bI .i64 r3, bI .i64 y5.1, bI .i64 y5.2.1, bI .i64 0, bI .i64 0, bI .i64 0, bS ByteArray.empty, bS ByteArray.empty, .own 5088 (List.map encS ([] : List ByteArray)), .g (.d (.sl 2 (List.map encApi_Range ([] : (List Api_Range))))), .g (.d (.sl 1 (List.map encI_i64 ([] : (List Int))))), .g (.d (.sl 1 (List.map encI_i64 ([] : (List Int)))))])), (1009, some (.blk 82 [.g (.d (.sl 1 (List.map encS y5.2.2.1))), bB y5.2.2.2])), (5088, some (.row 9 1 (List.map encS ([] : List ByteArray)) false))]⟩) (fun y5 => words_step_k2 r3 y5 = some r) (fun y5 hF => ?_) (fun J42 => ?_)
   · unfold words_step_k2 at hF
     refine eB <| sq <| sr <| p10 (op_fieldP (off' := 0) uU rfl ti3 (by decide) rfl ev rfl) rfl <| p11 (op_load1P uU rfl rfl ev rfl) rfl rfl <| eO <| ?_
     refine G.joinC (T := Int × Int × Int × Int × ByteArray × ByteArray × (List Api_Range) × (List Int) × (List Int) × (List ByteArray) × Bool × (List ByteArray)) (fun y6 => ⟨[(2, .one (.ptr 1002 0)), (4, .one (.ptr 1009 0)), (5, .one (.ptr 1005 0))], [(1002, some (.blk 30 [bI .i64 0, bI .i64 0, bI .i64 0, bI .i64 0, bI .i64 0, bI .i64 0, bS ByteArray.empty, bS ByteArray.empty, .g (.d (.sl 1 (List.map encS ([] : (List ByteArray))))), .g (.d (.sl 2 (List.map encApi_Range ([] : (List Api_Range))))), .g (.d (.sl 1 (List.map encI_i64 ([] : (List Int))))), .g (.d (.sl 1 (List.map encI_i64 ([] : (List Int)))))])), (1005, some (.blk 30 [bI .i64 r3, bI .i64 y5.1, bI .i64 y6.1, bI .i64 y6.2.1, bI .i64 y6.2.2.1, bI .i64 y6.2.2.2.1, bS y6.2.2.2.2.1, bS y6.2.2.2.2.2.1, .own 5088 (List.map encS y6.2.2.2.2.2.2.2.2.2.2.2), .g (.d (.sl 2 (List.map encApi_Range y6.2.2.2.2.2.2.1))), .g (.d (.sl 1 (List.map encI_i64 y6.2.2.2.2.2.2.2.1))), .g (.d (.sl 1 (List.map encI_i64 y6.2.2.2.2.2.2.2.2.1)))])), (1009, some (.blk 82 [.g (.d (.sl 1 (List.map encS y6.2.2.2.2.2.2.2.2.2.1))), bB y6.2.2.2.2.2.2.2.2.2.2.1])), (5088, some (.row 9 1 (List.map encS y6.2.2.2.2.2.2.2.2.2.2.2) false))]⟩) (fun y6 => words_step_k3 r3 y5 y6 = some r) (fun y6 hF => ?_) (fun J11 => ?_)
     · unfold words_step_k3 at hF
       refine sq <| sq <| ?_
       refine G.joinC (T := Bool) (fun y7 => ⟨[(2, .one (.ptr 1002 0)), (5, .one (.ptr 1005 0)), (115, oB y7)], [(1002, some (.blk 30 [bI .i64 0, bI .i64 0, bI .i64 0, bI .i64 0, bI .i64 0, bI .i64 0, bS ByteArray.empty, bS ByteArray.empty, .g (.d (.sl 1 (List.map encS ([] : (List ByteArray))))), .g (.d (.sl 2 (List.map encApi_Range ([] : (List Api_Range))))), .g (.d (.sl 1 (List.map encI_i64 ([] : (List Int))))), .g (.d (.sl 1 (List.map encI_i64 ([] : (List Int)))))])), (1005, some (.blk 30 [bI .i64 r3, bI .i64 y5.1, bI .i64 y6.1, bI .i64 y6.2.1, bI .i64 y6.2.2.1, bI .i64 y6.2.2.2.1, bS y6.2.2.2.2.1, bS y6.2.2.2.2.2.1, .own 5088 (List.map encS y6.2.2.2.2.2.2.2.2.2.2.2), .g (.d (.sl 2 (List.map encApi_Range y6.2.2.2.2.2.2.1))), .g (.d (.sl 1 (List.map encI_i64 y6.2.2.2.2.2.2.2.1))), .g (.d (.sl 1 (List.map encI_i64 y6.2.2.2.2.2.2.2.2.1)))])), (5088, some (.row 9 1 (List.map encS y6.2.2.2.2.2.2.2.2.2.2.2) false))]⟩) (fun y7 => words_step_k4 r3 y5 y6 y7 = some r) (fun y7 hF => ?_) (fun J9 => ?_)
       · unfold words_step_k4 at hF
         refine ifS hF (fun hc8 hF => ?_) (fun hc8 hF => ?_)
         · refine cT hc8 rfl <| sr <| p00 (op_build (zs := [vI 0, vI 0, vI 0, vI 0, vI 0, vI 0, vS ByteArray.empty, vS ByteArray.empty, .sl 1 (List.map encS ([] : (List ByteArray))), .sl 2 (List.map encApi_Range ([] : (List Api_Range))), .sl 1 (List.map encI_i64 ([] : (List Int))), .sl 1 (List.map encI_i64 ([] : (List Int)))]) (ds := [vI 0, vI 0, vI 0, vI 0, vI 0, vI 0, vS ByteArray.empty, vS ByteArray.empty, .sl 1 (List.map encS ([] : (List ByteArray))), .sl 2 (List.map encApi_Range ([] : (List Api_Range))), .sl 1 (List.map encI_i64 ([] : (List Int))), .sl 1 (List.map encI_i64 ([] : (List Int)))]) uU ti30 (pl30 _ uU) ⟨.v _ rfl, .v _ rfl, .v _ rfl, .v _ rfl, .v _ rfl, .v _ rfl, .v _ rfl, .v _ rfl, .n 1, .n 2, .n 1, .n 1, trivial⟩ .nil rfl rfl) <| w21 (op_storeAM ti30 rfl ev ev) rfl rfl rfl <| ac rfl rfl <| eO <| ?_
           cases hF
           exact G.ret2 Tryz.results24 (RVar.cellA (ds := [vI 0, vI 0, vI 0, vI 0, vI 0, vI 0, vS ByteArray.empty, vS ByteArray.empty, .sl 1 (List.map encS ([] : (List ByteArray))), .sl 2 (List.map encApi_Range ([] : (List Api_Range))), .sl 1 (List.map encI_i64 ([] : (List Int))), .sl 1 (List.map encI_i64 ([] : (List Int)))]) uU rfl ti30 rfl) (RVar.tmp 3 _) z2 z1
         refine cF hc8 rfl <| sk <| sr <| ?_
         refine G.viewCell (kb := 1005) (j := 8) (cs' := [bI .i64 r3, bI .i64 y5.1, bI .i64 y6.1, bI .i64 y6.2.1, bI .i64 y6.2.2.1, bI .i64 y6.2.2.2.1, bS y6.2.2.2.2.1, bS y6.2.2.2.2.2.1, .g (.d (.sl 1 (List.map encS y6.2.2.2.2.2.2.2.2.2.2.2))), .g (.d (.sl 2 (List.map encApi_Range y6.2.2.2.2.2.2.1))), .g (.d (.sl 1 (List.map encI_i64 y6.2.2.2.2.2.2.2.1))), .g (.d (.sl 1 (List.map encI_i64 y6.2.2.2.2.2.2.2.2.1)))]) rfl rfl rfl rfl ?_
         refine p11 (op_loadAP (ds := [vI r3, vI y5.1, vI y6.1, vI y6.2.1, vI y6.2.2.1, vI y6.2.2.2.1, vS y6.2.2.2.2.1, vS y6.2.2.2.2.2.1, .sl 1 (List.map encS y6.2.2.2.2.2.2.2.2.2.2.2), .sl 2 (List.map encApi_Range y6.2.2.2.2.2.2.1), .sl 1 (List.map encI_i64 y6.2.2.2.2.2.2.2.1), .sl 1 (List.map encI_i64 y6.2.2.2.2.2.2.2.2.1)]) uU rfl ti30 rfl ev rfl) rfl rfl <| w21 (op_storeAM ti30 rfl ev ev) rfl rfl rfl <| ac rfl rfl <| eO <| ?_
         cases hF
         exact G.ret2 Tryz.results24 (RVar.cellA (ds := [vI r3, vI y5.1, vI y6.1, vI y6.2.1, vI y6.2.2.1, vI y6.2.2.2.1, vS y6.2.2.2.2.1, vS y6.2.2.2.2.2.1, .sl 1 (List.map encS y6.2.2.2.2.2.2.2.2.2.2.2), .sl 2 (List.map encApi_Range y6.2.2.2.2.2.2.1), .sl 1 (List.map encI_i64 y6.2.2.2.2.2.2.2.1), .sl 1 (List.map encI_i64 y6.2.2.2.2.2.2.2.2.1)]) uU rfl ti30 rfl) (RVar.tmp 3 _) z2 z1
       refine rg <| mv rfl rfl <| p10 (op_nilCheckP ev rfl) rfl <| p10 (op_fieldP (off' := 1) uU rfl ti4 (by decide) rfl ev rfl) rfl <| p11 (op_load1P uU rfl rfl ev rfl) rfl rfl <| mv rfl rfl <| ?_
       refine ifS hF (fun hc10 hF => ?_) (fun hc10 hF => ?_)
       · refine G.known (t := 108) hc10 rfl <| oN rfl rfl rfl <| oN rfl rfl rfl <| oN rfl rfl rfl <| oN rfl rfl rfl <| oN rfl rfl rfl <| ?_
         refine oN rfl rfl rfl <| p10 (op_pickT ev (ec rfl) rfl) rfl <| eO <| ?_
         exact G.arr (J9 true hF) z3 z3 rfl
       refine G.known (t := 108) hc10 rfl <| g10 (op_move ev rfl) rfl rfl rfl <| g10 (op_nilCheckP ev rfl) rfl rfl rfl <| g10 (op_fieldP (off' := 0) uU rfl ti24 (by decide) rfl ev rfl) rfl rfl rfl <| g11 (op_load1P uU rfl rfl ev rfl) rfl rfl rfl rfl <| g10 (op_lenM uU ev rfl) rfl rfl rfl <| ?_
       refine g10 (op_gtr ev (ec rfl) rfl) rfl rfl rfl <| p20 (op_pickF ev ev rfl) rfl rfl <| eO <| ?_
       exact G.arr (J9 (decide (0 < (y6.2.2.2.2.2.2.2.2.2.1.length : Int))) hF) z3 z3 rfl
     refine bl <| sr <| p10 (op_eqI ev (ec rfl) rfl) rfl <| av rfl rfl <| eO <| ?_
     refine ifS hF (fun hc12 hF => ?_) (fun hc12 hF => ?_)
     · refine cT hc12 rfl <| sr <| mv rfl rfl <| bn hF fun r13 hr13 hF => ?_
       refine G.opM (op_callM (k := 1009) (h := .dat 82 (encWords_reader (Words_reader.mk y5.2.2.1 y5.2.2.2))) (h' := .dat 82 (encWords_reader r13.1)) 0 (sv := oS r13.2) cf55 (ct_words_reader_text _ _ hr13) rfl rfl (.pt ev .nil) rfl) rfl z1 z1 ?_
       refine p10 (op_fieldP (off' := 6) uU rfl ti9 (by decide) rfl ev rfl) rfl <| w21 (op_store1M sgd ti9 rfl ev ev) rfl rfl rfl <| eO <| rg <| mv rfl rfl <| bn hF fun r14 hr14 hF => ?_
       refine G.opM (op_callM (k := 1009) (h := .dat 82 (encWords_reader r13.1)) (h' := .dat 82 (encWords_reader r14.1)) 0 (sv := oS r14.2) cf55 (ct_words_reader_text _ _ hr14) rfl rfl (.pt ev .nil) rfl) rfl z1 z1 ?_
       refine p10 (op_fieldP (off' := 7) uU rfl ti9 (by decide) rfl ev rfl) rfl <| w21 (op_store1M sgd ti9 rfl ev ev) rfl rfl rfl <| eO <| eB <| ?_
       exact G.arr (J11 (y5.2.1, 0, 0, 0, r13.2, r14.2, ([] : (List Api_Range)), ([] : (List Int)), ([] : (List Int)), r14.1.words, r14.1.bad, ([] : List ByteArray)) hF) z3 z4 rfl
     refine cF hc12 rfl <| sq <| sr <| p10 (op_eqI ev (ec rfl) rfl) rfl <| av rfl rfl <| eO <| ?_
     refine G.joinC (T := Bool) (fun y15 => ⟨[(2, .one (.ptr 1002 0)), (4, .one (.ptr 1009 0)), (5, .one (.ptr 1005 0)), (39, oI r3), (48, oB y15)], [(1002, some (.blk 30 [bI .i64 0, bI .i64 0, bI .i64 0, bI .i64 0, bI .i64 0, bI .i64 0, bS ByteArray.empty, bS ByteArray.empty, .g (.d (.sl 1 (List.map encS ([] : (List ByteArray))))), .g (.d (.sl 2 (List.map encApi_Range ([] : (List Api_Range))))), .g (.d (.sl 1 (List.map encI_i64 ([] : (List Int))))), .g (.d (.sl 1 (List.map encI_i64 ([] : (List Int)))))])), (1005, some (.blk 30 [bI .i64 r3, bI .i64 y5.1, bI .i64 y5.2.1, bI .i64 0, bI .i64 0, bI .i64 0, bS ByteArray.empty, bS ByteArray.empty, .own 5088 (List.map encS ([] : List ByteArray)), .g (.d (.sl 2 (List.map encApi_Range ([] : (List Api_Range))))), .g (.d (.sl 1 (List.map encI_i64 ([] : (List Int))))), .g (.d (.sl 1 (List.map encI_i64 ([] : (List Int)))))])), (1009, some (.blk 82 [.g (.d (.sl 1 (List.map encS y5.2.2.1))), bB y5.2.2.2])), (5088, some (.row 9 1 (List.map encS ([] : List ByteArray)) false))]⟩) (fun y15 => words_step_k5 r3 y5 y15 = some r) (fun y15 hF => ?_) (fun J40 => ?_)
     · unfold words_step_k5 at hF
       refine ifS hF (fun hc16 hF => ?_) (fun hc16 hF => ?_)
       · refine cT hc16 rfl <| rg <| mv rfl rfl <| bn hF fun r17 hr17 hF => ?_
         refine G.opM (op_callM (k := 1009) (h := .dat 82 (encWords_reader (Words_reader.mk y5.2.2.1 y5.2.2.2))) (h' := .dat 82 (encWords_reader r17.1)) 0 (sv := oS r17.2) cf55 (ct_words_reader_text _ _ hr17) rfl rfl (.pt ev .nil) rfl) rfl z1 z1 ?_
         refine p10 (op_fieldP (off' := 6) uU rfl ti9 (by decide) rfl ev rfl) rfl <| w21 (op_store1M sgd ti9 rfl ev ev) rfl rfl rfl <| eO <| eB <| ?_
         exact G.arr (J11 (y5.2.1, 0, 0, 0, r17.2, ByteArray.empty, ([] : (List Api_Range)), ([] : (List Int)), ([] : (List Int)), r17.1.words, r17.1.bad, ([] : List ByteArray)) hF) z3 z4 rfl
       refine cF hc16 rfl <| sr <| p10 (op_eqI ev (ec rfl) rfl) rfl <| av rfl rfl <| eO <| ?_
       refine ifS hF (fun hc18 hF => ?_) (fun hc18 hF => ?_)
       · refine cT hc18 rfl <| rg <| mv rfl rfl <| bn hF fun r19 hr19 hF => ?_
         refine G.opM (op_callM (k := 1009) (h := .dat 82 (encWords_reader (Words_reader.mk y5.2.2.1 y5.2.2.2))) (h' := .dat 82 (encWords_reader r19.1)) 0 (sv := oI r19.2) cf54 (ct_words_reader_number _ _ hr19) rfl rfl (.pt ev .nil) rfl) rfl z1 z1 ?_
         refine p10 (op_fieldP (off' := 2) uU rfl ti3 (by decide) rfl ev rfl) rfl <| w21 (op_store1M sgd ti3 rfl ev ev) rfl rfl rfl <| eO <| eB <| ?_
         exact G.arr (J11 (r19.2, 0, 0, 0, ByteArray.empty, ByteArray.empty, ([] : (List Api_Range)), ([] : (List Int)), ([] : (List Int)), r19.1.words, r19.1.bad, ([] : List ByteArray)) hF) z3 z4 rfl
       refine cF hc18 rfl <| sr <| p10 (op_eqI ev (ec rfl) rfl) rfl <| av rfl rfl <| eO <| ?_
       refine ifS hF (fun hc20 hF => ?_) (fun hc20 hF => ?_)
       · refine cT hc20 rfl <| sq <| ?_
         refine G.joinC (T := (List ByteArray) × Bool × (List ByteArray)) (fun y21 => ⟨[(2, .one (.ptr 1002 0)), (4, .one (.ptr 1009 0)), (5, .one (.ptr 1005 0))], [(1002, some (.blk 30 [bI .i64 0, bI .i64 0, bI .i64 0, bI .i64 0, bI .i64 0, bI .i64 0, bS ByteArray.empty, bS ByteArray.empty, .g (.d (.sl 1 (List.map encS ([] : (List ByteArray))))), .g (.d (.sl 2 (List.map encApi_Range ([] : (List Api_Range))))), .g (.d (.sl 1 (List.map encI_i64 ([] : (List Int))))), .g (.d (.sl 1 (List.map encI_i64 ([] : (List Int)))))])), (1005, some (.blk 30 [bI .i64 r3, bI .i64 y5.1, bI .i64 y5.2.1, bI .i64 0, bI .i64 0, bI .i64 0, bS ByteArray.empty, bS ByteArray.empty, .own 5088 (List.map encS y21.2.2), .g (.d (.sl 2 (List.map encApi_Range ([] : (List Api_Range))))), .g (.d (.sl 1 (List.map encI_i64 ([] : (List Int))))), .g (.d (.sl 1 (List.map encI_i64 ([] : (List Int)))))])), (1009, some (.blk 82 [.g (.d (.sl 1 (List.map encS y21.1))), bB y21.2.1])), (5088, some (.row 9 1 (List.map encS y21.2.2) false))]⟩) (fun y21 => words_step_k6 r3 y5 y21 = some r) (fun y21 hF => ?_) (fun J23 => ?_)
         · unfold words_step_k6 at hF
           refine rg <| mv rfl rfl <| mv rfl rfl <| p10 (op_nilCheckP ev rfl) rfl <| p10 (op_fieldP (off' := 1) uU rfl ti4 (by decide) rfl ev rfl) rfl <| p11 (op_load1P uU rfl rfl ev rfl) rfl rfl <| ?_
           refine mv rfl rfl <| ?_
           refine ifS hF (fun hc22 hF => ?_) (fun hc22 hF => ?_)
           · refine G.known (t := 75) hc22 rfl <| oN rfl rfl rfl <| oN rfl rfl rfl <| oN rfl rfl rfl <| oN rfl rfl rfl <| p10 (op_pickT ev (ec rfl) rfl) rfl <| ?_
             refine p10 (op_nilCheckP ev rfl) rfl <| p10 (op_fieldP (off' := 1) uU rfl ti4 (by decide) rfl ev rfl) rfl <| w21 (op_store1M sgd ti4 rfl ev ev) rfl rfl rfl <| eO <| eB <| ?_
             exact G.arr (J11 (y5.2.1, 0, 0, 0, ByteArray.empty, ByteArray.empty, ([] : (List Api_Range)), ([] : (List Int)), ([] : (List Int)), y21.1, true, y21.2.2) hF) z3 z4 rfl
           refine G.known (t := 75) hc22 rfl <| g10 (op_fieldP (off' := 8) uU rfl ti24 (by decide) rfl ev rfl) rfl rfl rfl <| g11 (op_load1P uU rfl rfl ev rfl) rfl rfl rfl rfl <| g11 (op_lenN uU ev rfl) rfl rfl rfl rfl <| g10 (op_gtr ev (ec rfl) rfl) rfl rfl rfl <| p20 (op_pickF ev ev rfl) rfl rfl <| ?_
           refine p10 (op_nilCheckP ev rfl) rfl <| p10 (op_fieldP (off' := 1) uU rfl ti4 (by decide) rfl ev rfl) rfl <| w21 (op_store1M sgd ti4 rfl ev ev) rfl rfl rfl <| eO <| eB <| ?_
           exact G.arr (J11 (y5.2.1, 0, 0, 0, ByteArray.empty, ByteArray.empty, ([] : (List Api_Range)), ([] : (List Int)), ([] : (List Int)), y21.1, decide (8 < (y21.2.2.length : Int)), y21.2.2) hF) z3 z4 rfl
         refine bl <| ?_
         refine lF (fun (v24 : (List ByteArray) × Bool × (List ByteArray)) => ⟨[(2, .one (.ptr 1002 0)), (4, .one (.ptr 1009 0)), (5, .one (.ptr 1005 0))], [(1002, some (.blk 30 [bI .i64 0, bI .i64 0, bI .i64 0, bI .i64 0, bI .i64 0, bI .i64 0, bS ByteArray.empty, bS ByteArray.empty, .g (.d (.sl 1 (List.map encS ([] : (List ByteArray))))), .g (.d (.sl 2 (List.map encApi_Range ([] : (List Api_Range))))), .g (.d (.sl 1 (List.map encI_i64 ([] : (List Int))))), .g (.d (.sl 1 (List.map encI_i64 ([] : (List Int)))))])), (1005, some (.blk 30 [bI .i64 r3, bI .i64 y5.1, bI .i64 y5.2.1, bI .i64 0, bI .i64 0, bI .i64 0, bS ByteArray.empty, bS ByteArray.empty, .own 5088 (List.map encS v24.2.2), .g (.d (.sl 2 (List.map encApi_Range ([] : (List Api_Range))))), .g (.d (.sl 1 (List.map encI_i64 ([] : (List Int))))), .g (.d (.sl 1 (List.map encI_i64 ([] : (List Int)))))])), (1009, some (.blk 82 [.g (.d (.sl 1 (List.map encS v24.1))), bB v24.2.1])), (5088, some (.row 9 1 (List.map encS v24.2.2) false))]⟩) hF z3 z4 rfl (fun K27 again26 v24 J25 hF => ?_)
         unfold words_step_l7 at hF
         refine sq <| sr <| mv rfl rfl <| bn hF fun r28 hr28 hF => ?_
         refine G.opM (op_callM (k := 1009) (h := .dat 82 (encWords_reader (Words_reader.mk v24.1 v24.2.1))) (h' := .dat 82 (encWords_reader r28.1)) 0 (sv := oB r28.2) cf56 (ct_words_reader_more _ _ hr28) rfl rfl (.pt ev .nil) rfl) rfl z1 z1 ?_
         refine eO <| ?_
         refine ifS hF (fun hc29 hF => ?_) (fun hc29 hF => ?_)
         · refine cT hc29 rfl <| sk <| bl <| bn hF fun r30 hr30 hF => bn hF fun l31 hl31 hF => ?_
           refine G.drawnI (deps := [[], [0], [], [2], [2, 3], [0, 1, 2, 3, 4], [0, 1, 2, 3, 4, 5], [0, 1, 2, 3, 4, 5, 6]]) (sl' := [(2, .one (.ptr 1002 0)), (4, .one (.ptr 1009 0)), (5, .one (.ptr 1005 0))]) (hp' := [(1002, some (.blk 30 [bI .i64 0, bI .i64 0, bI .i64 0, bI .i64 0, bI .i64 0, bI .i64 0, bS ByteArray.empty, bS ByteArray.empty, .g (.d (.sl 1 (List.map encS ([] : (List ByteArray))))), .g (.d (.sl 2 (List.map encApi_Range ([] : (List Api_Range))))), .g (.d (.sl 1 (List.map encI_i64 ([] : (List Int))))), .g (.d (.sl 1 (List.map encI_i64 ([] : (List Int)))))])), (1005, some (.blk 30 [bI .i64 r3, bI .i64 y5.1, bI .i64 y5.2.1, bI .i64 0, bI .i64 0, bI .i64 0, bS ByteArray.empty, bS ByteArray.empty, .own 5088 (List.map encS l31), .g (.d (.sl 2 (List.map encApi_Range ([] : (List Api_Range))))), .g (.d (.sl 1 (List.map encI_i64 ([] : (List Int))))), .g (.d (.sl 1 (List.map encI_i64 ([] : (List Int)))))])), (1009, some (.blk 82 [.g (.d (.sl 1 (List.map encS r30.1.words))), bB r30.1.bad])), (5088, some (.row 9 1 (List.map encS l31) false))]) (.c (oP rfl rfl (op_fieldP (off' := 8) uU rfl ti24 (by decide) rfl ev rfl)) (.c (oP rfl rfl (op_load1P uU rfl rfl ev rfl)) (.c (oP rfl rfl (op_move ev rfl)) (.c (oP rfl rfl (op_callM (k := 1009) (h := .dat 82 (encWords_reader r28.1)) (h' := .dat 82 (encWords_reader r30.1)) 0 (sv := oS r30.2) cf55 (ct_words_reader_text _ _ hr30) rfl rfl (.pt ev .nil) rfl)) (.c (oP rfl rfl (op_buildSlice (es := List.map encS [r30.2]) uU ti9 rfl rfl (.cons ev .nil) rfl rfl (by simp [encS]) rfl)) (.c (oP rfl rfl (op_appendO uU ti9 rfl (app_map hl31 encS) (app_b1 hl31 encS) (app_b2 hl31 encS) ev ev rfl)) (.c (oP rfl rfl (op_fieldP (off' := 8) uU rfl ti24 (by decide) rfl ev rfl)) (.c (oP rfl rfl (op_storeO (cs' := [bI .i64 r3, bI .i64 y5.1, bI .i64 y5.2.1, bI .i64 0, bI .i64 0, bI .i64 0, bS ByteArray.empty, bS ByteArray.empty, .own 5088 (List.map encS l31), .g (.d (.sl 2 (List.map encApi_Range ([] : (List Api_Range))))), .g (.d (.sl 1 (List.map encI_i64 ([] : (List Int))))), .g (.d (.sl 1 (List.map encI_i64 ([] : (List Int)))))]) ti24 rfl rfl rfl ev ev)) .nil)))))))) follows rfl rfl rfl ⟨⟨rfl, trivial⟩, trivial, ⟨rfl, trivial⟩, ⟨⟨rfl, rfl⟩, trivial⟩, ⟨rfl, trivial⟩, trivial, ⟨rfl, trivial⟩, ⟨⟨rfl, rfl⟩, trivial⟩, ⟨rfl, trivial⟩, trivial, ⟨rfl, rfl, trivial⟩, ⟨⟨rfl, rfl⟩, trivial⟩, ⟨rfl, trivial⟩, trivial, ⟨rfl, rfl, trivial⟩, ⟨⟨rfl, rfl⟩, ⟨rfl, rfl⟩, trivial⟩, trivial⟩ ⟨rfl, rfl, rfl, trivial⟩ ⟨rfl, rfl, rfl, rfl, trivial⟩ rfl ?_
           refine eB <| ?_
           exact G.arr (J25 (r30.1.words, r30.1.bad, l31) hF) z3 z4 rfl
         refine cF hc29 rfl <| ex <| ?_
         refine GX.c ?_
         refine GX.q ?_
         refine xY <| ?_
         exact G.arr (J23 (r28.1.words, r28.1.bad, v24.2.2) hF) z3 z4 rfl
       refine cF hc20 rfl <| sr <| p10 (op_eqI ev (ec rfl) rfl) rfl <| av rfl rfl <| eO <| ?_
       refine ifS hF (fun hc32 hF => ?_) (fun hc32 hF => ?_)
       · refine cT hc32 rfl <| sr <| mv rfl rfl <| bn hF fun r33 hr33 hF => ?_
         refine G.opM (op_callM (k := 1009) (h := .dat 82 (encWords_reader (Words_reader.mk y5.2.2.1 y5.2.2.2))) (h' := .dat 82 (encWords_reader r33.1)) 0 (sv := oI r33.2) cf54 (ct_words_reader_number _ _ hr33) rfl rfl (.pt ev .nil) rfl) rfl z1 z1 ?_
         refine p10 (op_fieldP (off' := 3) uU rfl ti3 (by decide) rfl ev rfl) rfl <| w21 (op_store1M sgd ti3 rfl ev ev) rfl rfl rfl <| esr <| mv rfl rfl <| bn hF fun r34 hr34 hF => ?_
         refine G.opM (op_callM (k := 1009) (h := .dat 82 (encWords_reader r33.1)) (h' := .dat 82 (encWords_reader r34.1)) 0 (sv := oI r34.2) cf54 (ct_words_reader_number _ _ hr34) rfl rfl (.pt ev .nil) rfl) rfl z1 z1 ?_
         refine p10 (op_fieldP (off' := 4) uU rfl ti3 (by decide) rfl ev rfl) rfl <| w21 (op_store1M sgd ti3 rfl ev ev) rfl rfl rfl <| eO <| rg <| mv rfl rfl <| bn hF fun r35 hr35 hF => ?_
         refine G.opM (op_callM (k := 1009) (h := .dat 82 (encWords_reader r34.1)) (h' := .dat 82 (encWords_reader r35.1)) 0 (sv := oI r35.2) cf54 (ct_words_reader_number _ _ hr35) rfl rfl (.pt ev .nil) rfl) rfl z1 z1 ?_
         refine p10 (op_fieldP (off' := 5) uU rfl ti3 (by decide) rfl ev rfl) rfl <| w21 (op_store1M sgd ti3 rfl ev ev) rfl rfl rfl <| eO <| eB <| ?_
         exact G.arr (J11 (y5.2.1, r33.2, r34.2, r35.2, ByteArray.empty, ByteArray.empty, ([] : (List Api_Range)), ([] : (List Int)), ([] : (List Int)), r35.1.words, r35.1.bad, ([] : List ByteArray)) hF) z3 z4 rfl
       refine cF hc32 rfl <| sr <| p10 (op_eqI ev (ec rfl) rfl) rfl <| av rfl rfl <| eO <| ?_
       refine ifS hF (fun hc36 hF => ?_) (fun hc36 hF => ?_)
       · refine cT hc36 rfl <| rg <| mv rfl rfl <| bn hF fun r37 hr37 hF => ?_
         refine G.opM (op_callM (k := 1009) (h := .dat 82 (encWords_reader (Words_reader.mk y5.2.2.1 y5.2.2.2))) (h' := .dat 82 (encWords_reader r37.1)) 0 (sv := oI r37.2) cf54 (ct_words_reader_number _ _ hr37) rfl rfl (.pt ev .nil) rfl) rfl z1 z1 ?_
         refine p10 (op_fieldP (off' := 3) uU rfl ti3 (by decide) rfl ev rfl) rfl <| w21 (op_store1M sgd ti3 rfl ev ev) rfl rfl rfl <| eO <| eB <| ?_
         exact G.arr (J11 (y5.2.1, r37.2, 0, 0, ByteArray.empty, ByteArray.empty, ([] : (List Api_Range)), ([] : (List Int)), ([] : (List Int)), r37.1.words, r37.1.bad, ([] : List ByteArray)) hF) z3 z4 rfl
       refine cF hc36 rfl <| sr <| p10 (op_eqI ev (ec rfl) rfl) rfl <| av rfl rfl <| eO <| ?_
       refine ifS hF (fun hc38 hF => ?_) (fun hc38 hF => ?_)
       · refine cT hc38 rfl <| rg <| mv rfl rfl <| bn hF fun r39 hr39 hF => ?_
         refine G.opM (op_callM (k := 1009) (h := .dat 82 (encWords_reader (Words_reader.mk y5.2.2.1 y5.2.2.2))) (h' := .dat 82 (encWords_reader r39.1)) 0 (sv := .one (.g (.agg [.sl 2 (List.map encApi_Range r39.2.Ranges), .sl 1 (List.map encI_i64 r39.2.Owners), .sl 1 (List.map encI_i64 r39.2.Parents)]))) cf57 (ct_words_reader_row _ _ hr39) rfl rfl (.pt ev .nil) rfl) rfl z1 z1 ?_
         refine p10 (op_fieldP (off' := 9) uU rfl ti28 (by decide) rfl ev rfl) rfl <| w21 (op_storeAM ti28 rfl ev ev) rfl rfl rfl <| eO <| eB <| ?_
         exact G.arr (J11 (y5.2.1, 0, 0, 0, ByteArray.empty, ByteArray.empty, r39.2.Ranges, r39.2.Owners, r39.2.Parents, r39.1.words, r39.1.bad, ([] : List ByteArray)) hF) z3 z4 rfl
       refine cF hc38 rfl <| sk <| eB <| ?_
       exact G.arr (J11 (y5.2.1, 0, 0, 0, ByteArray.empty, ByteArray.empty, ([] : (List Api_Range)), ([] : (List Int)), ([] : (List Int)), y5.2.2.1, y5.2.2.2, ([] : List ByteArray)) hF) z3 z4 rfl
     refine ifS hF (fun hc41 hF => ?_) (fun hc41 hF => ?_)
     · refine cT hc41 rfl <| sk <| ?_
       exact G.arr (J40 (decide (r3 = 2)) hF) z5 z4 rfl
     refine cF hc41 rfl <| rg <| p10 (op_eqI ev (ec rfl) rfl) rfl <| av rfl rfl <| eO <| ?_
     exact G.arr (J40 (decide (r3 = 3)) hF) z5 z4 rfl
   refine ifS hF (fun hc43 hF => ?_) (fun hc43 hF => ?_)
   · refine cT hc43 rfl <| rg <| mv rfl rfl <| bn hF fun r44 hr44 hF => ?_
     refine G.opM (op_callM (k := 1009) (h := .dat 82 (encWords_reader (Words_reader.mk l1 false))) (h' := .dat 82 (encWords_reader r44.1)) 0 (sv := oI r44.2) cf54 (ct_words_reader_number _ _ hr44) rfl rfl (.pt ev .nil) rfl) rfl z1 z1 ?_
     refine p10 (op_fieldP (off' := 1) uU rfl ti3 (by decide) rfl ev rfl) rfl <| w21 (op_store1M sgd ti3 rfl ev ev) rfl rfl rfl <| eO <| ?_
     exact G.arr (J42 (r44.2, 0, r44.1.words, r44.1.bad) hF) z3 z4 rfl
   refine cF hc43 rfl <| sq <| sr <| p10 (op_eqI ev (ec rfl) rfl) rfl <| av rfl rfl <| eO <| ?_
   refine G.joinC (T := Bool) (fun y45 => ⟨[(2, .one (.ptr 1002 0)), (4, .one (.ptr 1009 0)), (5, .one (.ptr 1005 0)), (16, oI r3), (28, oB y45)], [(1002, some (.blk 30 [bI .i64 0, bI .i64 0, bI .i64 0, bI .i64 0, bI .i64 0, bI .i64 0, bS ByteArray.empty, bS ByteArray.empty, .g (.d (.sl 1 (List.map encS ([] : (List ByteArray))))), .g (.d (.sl 2 (List.map encApi_Range ([] : (List Api_Range))))), .g (.d (.sl 1 (List.map encI_i64 ([] : (List Int))))), .g (.d (.sl 1 (List.map encI_i64 ([] : (List Int)))))])), (1005, some (.blk 30 [bI .i64 r3, bI .i64 0, bI .i64 0, bI .i64 0, bI .i64 0, bI .i64 0, bS ByteArray.empty, bS ByteArray.empty, .own 5088 (List.map encS ([] : List ByteArray)), .g (.d (.sl 2 (List.map encApi_Range ([] : (List Api_Range))))), .g (.d (.sl 1 (List.map encI_i64 ([] : (List Int))))), .g (.d (.sl 1 (List.map encI_i64 ([] : (List Int)))))])), (1009, some (.blk 82 [.g (.d (.sl 1 (List.map encS l1))), bB false])), (5088, some (.row 9 1 (List.map encS ([] : List ByteArray)) false))]⟩) (fun y45 => words_step_k8 l1 r3 y45 = some r) (fun y45 hF => ?_) (fun J49 => ?_)
   · unfold words_step_k8 at hF
     refine ifS hF (fun hc46 hF => ?_) (fun hc46 hF => ?_)
     · refine cT hc46 rfl <| rg <| mv rfl rfl <| bn hF fun r47 hr47 hF => ?_
       refine G.opM (op_callM (k := 1009) (h := .dat 82 (encWords_reader (Words_reader.mk l1 false))) (h' := .dat 82 (encWords_reader r47.1)) 0 (sv := oI r47.2) cf54 (ct_words_reader_number _ _ hr47) rfl rfl (.pt ev .nil) rfl) rfl z1 z1 ?_
       refine p10 (op_fieldP (off' := 2) uU rfl ti3 (by decide) rfl ev rfl) rfl <| w21 (op_store1M sgd ti3 rfl ev ev) rfl rfl rfl <| eO <| ?_
       exact G.arr (J42 (0, r47.2, r47.1.words, r47.1.bad) hF) z3 z4 rfl
     refine cF hc46 rfl <| sr <| p10 (op_eqI ev (ec rfl) rfl) rfl <| av rfl rfl <| eO <| ?_
     refine ifS hF (fun hc48 hF => ?_) (fun hc48 hF => ?_)
     · refine cT hc48 rfl <| sr <| p00 (op_build (zs := [vI 0, vI 0, vI 0, vI 0, vI 0, vI 0, vS ByteArray.empty, vS ByteArray.empty, .sl 1 (List.map encS ([] : (List ByteArray))), .sl 2 (List.map encApi_Range ([] : (List Api_Range))), .sl 1 (List.map encI_i64 ([] : (List Int))), .sl 1 (List.map encI_i64 ([] : (List Int)))]) (ds := [vI 0, vI 0, vI 0, vI 0, vI 0, vI 0, vS ByteArray.empty, vS ByteArray.empty, .sl 1 (List.map encS ([] : (List ByteArray))), .sl 2 (List.map encApi_Range ([] : (List Api_Range))), .sl 1 (List.map encI_i64 ([] : (List Int))), .sl 1 (List.map encI_i64 ([] : (List Int)))]) uU ti30 (pl30 _ uU) ⟨.v _ rfl, .v _ rfl, .v _ rfl, .v _ rfl, .v _ rfl, .v _ rfl, .v _ rfl, .v _ rfl, .n 1, .n 2, .n 1, .n 1, trivial⟩ .nil rfl rfl) <| w21 (op_storeAM ti30 rfl ev ev) rfl rfl rfl <| ac rfl rfl <| eO <| ?_
       cases hF
       exact G.ret2 Tryz.results24 (RVar.cellA (ds := [vI 0, vI 0, vI 0, vI 0, vI 0, vI 0, vS ByteArray.empty, vS ByteArray.empty, .sl 1 (List.map encS ([] : (List ByteArray))), .sl 2 (List.map encApi_Range ([] : (List Api_Range))), .sl 1 (List.map encI_i64 ([] : (List Int))), .sl 1 (List.map encI_i64 ([] : (List Int)))]) uU rfl ti30 rfl) (RVar.tmp 3 _) z2 z1
     refine cF hc48 rfl <| sk <| ?_
     exact G.arr (J42 (0, 0, l1, false) hF) z3 z4 rfl
   refine ifS hF (fun hc50 hF => ?_) (fun hc50 hF => ?_)
   · refine cT hc50 rfl <| sk <| ?_
     exact G.arr (J49 (decide (r3 = 8)) hF) z5 z4 rfl
   refine cF hc50 rfl <| sr <| p10 (op_eqI ev (ec rfl) rfl) rfl <| av rfl rfl <| eO <| ?_
   refine ifS hF (fun hc51 hF => ?_) (fun hc51 hF => ?_)
   · refine cT hc51 rfl <| sk <| ?_
     exact G.arr (J49 (decide (r3 = 9)) hF) z5 z4 rfl
   refine cF hc51 rfl <| rg <| p10 (op_eqI ev (ec rfl) rfl) rfl <| av rfl rfl <| eO <| ?_
   exact G.arr (J49 (decide (r3 = 10)) hF) z5 z4 rfl
 refine ifS hF (fun hc53 hF => ?_) (fun hc53 hF => ?_)
 · refine cT hc53 rfl <| sk <| ?_
   exact G.arr (J52 (decide (r3 = 1)) hF) z5 z4 rfl
 refine cF hc53 rfl <| sr <| p10 (op_eqI ev (ec rfl) rfl) rfl <| av rfl rfl <| eO <| ?_
 refine ifS hF (fun hc54 hF => ?_) (fun hc54 hF => ?_)
 · refine cT hc54 rfl <| sk <| ?_
   exact G.arr (J52 (decide (r3 = 2)) hF) z5 z4 rfl
 refine cF hc54 rfl <| sr <| p10 (op_eqI ev (ec rfl) rfl) rfl <| av rfl rfl <| eO <| ?_
 refine ifS hF (fun hc55 hF => ?_) (fun hc55 hF => ?_)
 · refine cT hc55 rfl <| sk <| ?_
   exact G.arr (J52 (decide (r3 = 3)) hF) z5 z4 rfl
 refine cF hc55 rfl <| sr <| p10 (op_eqI ev (ec rfl) rfl) rfl <| av rfl rfl <| eO <| ?_
 refine ifS hF (fun hc56 hF => ?_) (fun hc56 hF => ?_)
 · refine cT hc56 rfl <| sk <| ?_
   exact G.arr (J52 (decide (r3 = 4)) hF) z5 z4 rfl
 refine cF hc56 rfl <| sr <| p10 (op_eqI ev (ec rfl) rfl) rfl <| av rfl rfl <| eO <| ?_
 refine ifS hF (fun hc57 hF => ?_) (fun hc57 hF => ?_)
 · refine cT hc57 rfl <| sk <| ?_
   exact G.arr (J52 (decide (r3 = 5)) hF) z5 z4 rfl
 refine cF hc57 rfl <| sr <| p10 (op_eqI ev (ec rfl) rfl) rfl <| av rfl rfl <| eO <| ?_
 refine ifS hF (fun hc58 hF => ?_) (fun hc58 hF => ?_)
 · refine cT hc58 rfl <| sk <| ?_
   exact G.arr (J52 (decide (r3 = 6)) hF) z5 z4 rfl
 refine cF hc58 rfl <| rg <| p10 (op_eqI ev (ec rfl) rfl) rfl <| av rfl rfl <| eO <| ?_
 exact G.arr (J52 (decide (r3 = 7)) hF) z5 z4 rfl


theorem ct_words_Parse (s_0 : ByteArray) (r : ((List Api_Op) × Int)) (hF : words_Parse s_0 = some r) : CtG Tryz.prog Γ0 10 [.g (.d (vS s_0))] (.tup [.d (.sl 12 (List.map encApi_Op r.1)), .d (vI r.2)]) := by
 unfold words_Parse at hF
 refine CtG.intro (GL.ok _ _ _) Tryz.func10 rfl Tryz.ntmps10 rfl rfl fun M w hG => ?_
 refine sr <| p00 (op_assign (Ev.n 12) rfl) <| ac rfl rfl <| esr <| q01 (op_assignRow (E := 30) (size := 12) (k := 2004) (ex := false) rfl rfl) rfl <| eO <| ?_
 refine sq <| sr <| mv rfl rfl <| bn hF fun r1 hr1 hF => p10 (op_callG hG cf21 (ct_strings_Split _ _ _ hr1) rfl (.cons ev (.cons (ec rfl) .nil)) rfl) rfl <| p10 (op_lenM uU ev rfl) rfl <| ?_
 refine p00 (op_move (ec rfl) rfl) <| eO <| ?_
 refine G.joinC (T := (List Api_Op)) (fun y2 => ⟨[(4, .one (.own 2004 (List.map encApi_Op y2)))], [(2004, some (.row 30 12 (List.map encApi_Op y2) false))]⟩) (fun y2 => words_Parse_k1 y2 = some r) (fun y2 hF => ?_) (fun J3 => ?_)
 · unfold words_Parse_k1 at hF
   refine sr <| mv rfl rfl <| av rfl rfl <| ac rfl rfl <| eO <| ?_
   refine G.view (t := 2) rfl rfl ?_
   cases hF
   exact G.ret2 Tryz.results10 (RVar.tmp 2 _) (RVar.tmp 3 _) z2 trivial
 refine bl <| ?_
 refine lF (fun (v4 : Int × (List Api_Op)) => ⟨[(4, .one (.own 2004 (List.map encApi_Op v4.2))), (11, .one (.g (.d (.sl 1 (List.map encS r1))))), (12, oI (r1.length : Int)), (13, oI v4.1)], [(2004, some (.row 30 12 (List.map encApi_Op v4.2) false))]⟩) hF z4 z1 rfl (fun K7 again6 v4 J5 hF => ?_)
 unfold words_Parse_l2 at hF
 refine sr <| p20 (op_lss ev ev rfl) rfl rfl <| eO <| sq <| ?_
 refine ifS hF (fun hc8 hF => ?_) (fun hc8 hF => ?_)
 · refine cT hc8 rfl <| sk <| sq <| bl <| sr <| mv rfl rfl <| ?_
   refine bn hF fun x9 hx9 hF => p20 (op_indexM hx9 uU ti9 ev ev rfl) rfl rfl <| p10 (op_load1E uU rfl rfl ev rfl) rfl <| av rfl rfl <| av rfl rfl <| eO <| ?_
   refine sq <| sr <| mv rfl rfl <| bn hF fun r10 hr10 hF => p10 (op_callQ cf22 (ct_words_silent _ _ hr10) rfl rfl (.cons qe .nil) rfl) rfl <| eO <| ?_
   refine ifS hF (fun hc11 hF => ?_) (fun hc11 hF => ?_)
   · refine cT hc11 rfl <| ex <| ?_
     refine GX.c ?_
     refine xY <| rg <| p10 (op_add ev (ec rfl) rfl) rfl <| mv rfl rfl <| eO <| ?_
     exact G.arr (J5 (IntKind.wrap .i64 (v4.1 + 1), v4.2) hF) z4 z1 rfl
   refine cF hc11 rfl <| sk <| sr <| mv rfl rfl <| bn hF fun r12 hr12 hF => p10 (op_callG hG cf23 (ct_words_Words _ _ hr12) rfl (.cons ev .nil) rfl) rfl <| ?_
   refine p10 (op_moveS (t := 22) (sv := .tup [.g (.d (.sl 1 (List.map encS r12.1))), bB r12.2]) rfl) rfl <| p10 (op_extract rfl rfl) rfl <| p10 (op_extract rfl rfl) rfl <| av rfl rfl <| av rfl rfl <| eO <| ?_
   refine sq <| sr <| mv rfl rfl <| p10 (op_not ev rfl) rfl <| eO <| ?_
   refine ifS hF (fun hc13 hF => ?_) (fun hc13 hF => ?_)
   · refine cT hc13 rfl <| sr <| mv rfl rfl <| p10 (op_add ev (ec rfl) rfl) rfl <| p00 (op_assign (Ev.n 12) rfl) <| av rfl rfl <| ?_
     refine eO <| ?_
     cases hF
     exact G.ret2 Tryz.results10 (RVar.tmp 2 _) (RVar.tmp 3 _) z2 trivial
   refine cF hc13 rfl <| sk <| sr <| mv rfl rfl <| bn hF fun r14 hr14 hF => p10 (op_call cf24 (ct_words_step _ _ hr14) rfl (.cons ev .nil) rfl) rfl <| ?_
   refine p10 (op_moveS (t := 31) (sv := .tup [.g (.agg [vI r14.1.Kind, vI r14.1.Client, vI r14.1.Site, vI r14.1.To, vI r14.1.At, vI r14.1.How, vS r14.1.Key, vS r14.1.Value, .sl 1 (List.map encS r14.1.Keys), .sl 2 (List.map encApi_Range r14.1.Row.Ranges), .sl 1 (List.map encI_i64 r14.1.Row.Owners), .sl 1 (List.map encI_i64 r14.1.Row.Parents)]), bB r14.2]) rfl) rfl <| p10 (op_extract rfl rfl) rfl <| p10 (op_extract rfl rfl) rfl <| q01 (op_alloc (k := 1009) (cs := [bI .i64 0, bI .i64 0, bI .i64 0, bI .i64 0, bI .i64 0, bI .i64 0, bS ByteArray.empty, bS ByteArray.empty, .g (.d (.sl 1 (List.map encS ([] : (List ByteArray))))), .g (.d (.sl 2 (List.map encApi_Range ([] : (List Api_Range))))), .g (.d (.sl 1 (List.map encI_i64 ([] : (List Int))))), .g (.d (.sl 1 (List.map encI_i64 ([] : (List Int)))))]) ti30 ⟨.v _ rfl, .v _ rfl, .v _ rfl, .v _ rfl, .v _ rfl, .v _ rfl, .v _ rfl, .v _ rfl, .n 1, .n 2, .n 1, .n 1, trivial⟩ rfl) rfl <| w21 (op_storeAM ti30 rfl ev ev) rfl rfl rfl <| av rfl rfl <| ?_
   refine eO <| sq <| sr <| mv rfl rfl <| p10 (op_not ev rfl) rfl <| eO <| ?_
   refine ifS hF (fun hc15 hF => ?_) (fun hc15 hF => ?_)
   · refine cT hc15 rfl <| sr <| mv rfl rfl <| p10 (op_add ev (ec rfl) rfl) rfl <| p00 (op_assign (Ev.n 12) rfl) <| av rfl rfl <| ?_
     refine eO <| ?_
     cases hF
     exact G.ret2 Tryz.results10 (RVar.tmp 2 _) (RVar.tmp 3 _) z2 trivial
   refine cF hc15 rfl <| sk <| rg <| mv rfl rfl <| p11 (op_loadAP (ds := [vI r14.1.Kind, vI r14.1.Client, vI r14.1.Site, vI r14.1.To, vI r14.1.At, vI r14.1.How, vS r14.1.Key, vS r14.1.Value, .sl 1 (List.map encS r14.1.Keys), .sl 2 (List.map encApi_Range r14.1.Row.Ranges), .sl 1 (List.map encI_i64 r14.1.Row.Owners), .sl 1 (List.map encI_i64 r14.1.Row.Parents)]) uU rfl ti30 rfl ev rfl) rfl rfl <| p10 (op_buildSlice (es := List.map encApi_Op [r14.1]) uU ti30 rfl rfl (.cons ev .nil) rfl rfl (by simp [encApi_Op]) rfl) rfl <| ?_
   refine bn hF fun l16 hl16 hF => q21 (op_appendO uU ti30 rfl (app_map hl16 encApi_Op) (app_b1 hl16 encApi_Op) (app_b2 hl16 encApi_Op) ev ev rfl) rfl rfl rfl <| av rfl rfl <| eO <| eB <| rg <| ?_
   refine p10 (op_add ev (ec rfl) rfl) rfl <| mv rfl rfl <| eO <| ?_
   exact G.arr (J5 (IntKind.wrap .i64 (v4.1 + 1), l16) hF) z4 z1 rfl
 refine cF hc8 rfl <| ex <| ?_
 refine GX.c ?_
 refine GX.q ?_
 refine xY <| ?_
 exact G.arr (J3 v4.2 hF) z1 z1 rfl


theorem ct_script_Check_1 (n_0 : Int) (r : Bool) (hF : script_Check_1 n_0 = some r) : Ct Tryz.prog 25 [.g (.d (vI n_0))] (.one (.d (vB r))) := by
 unfold script_Check_1 at hF
 refine Ct.intro Tryz.func25 rfl Tryz.ntmps25 rfl rfl fun M w => ?_
 refine sr <| ac rfl rfl <| esr <| mv rfl rfl <| p10 (op_lss ev (ec rfl) rfl) rfl <| mv rfl rfl <| ?_
 refine ifS hF (fun hc1 hF => ?_) (fun hc1 hF => ?_)
 · refine G.known (t := 5) hc1 rfl <| oN rfl rfl rfl <| oN rfl rfl rfl <| p10 (op_pickT ev (ec rfl) rfl) rfl <| av rfl rfl <| eO <| ?_
   cases hF
   exact G.ret1 Tryz.results25 (RVar.tmp 2 _) z1 trivial
 refine G.known (t := 5) hc1 rfl <| g10 (op_move ev rfl) rfl rfl rfl <| g10 (op_gtr ev (ec rfl) rfl) rfl rfl rfl <| p20 (op_pickF ev ev rfl) rfl rfl <| av rfl rfl <| eO <| ?_
 cases hF
 exact G.ret1 Tryz.results25 (RVar.tmp 2 _) z1 trivial


theorem ct_script_Check_2 (s_0 : ByteArray) (r : Bool) (hF : script_Check_2 s_0 = some r) : Ct Tryz.prog 26 [.g (.d (vS s_0))] (.one (.d (vB r))) := by
 unfold script_Check_2 at hF
 refine Ct.intro Tryz.func26 rfl Tryz.ntmps26 rfl rfl fun M w => ?_
 refine sr <| ac rfl rfl <| esr <| mv rfl rfl <| p10 (op_lenS uU ev rfl) rfl <| p10 (op_gtr ev (ec rfl) rfl) rfl <| ?_
 refine av rfl rfl <| eO <| ?_
 cases hF
 exact G.ret1 Tryz.results26 (RVar.tmp 2 _) z1 trivial


theorem ct_script_numbers (o_0 : Api_Op) (r : (List Int)) (hF : script_numbers o_0 = some r) : Ct Tryz.prog 28 [.g (.agg (encApi_Op o_0))] (.one (.d (.sl 1 (List.map encI_i64 r)))) := by
 unfold script_numbers at hF
 refine Ct.intro Tryz.func28 rfl Tryz.ntmps28 rfl rfl fun M w => ?_
 refine sr <| q11 (op_boxA (k := 1001) ev rfl) rfl rfl <| p00 (op_assign (Ev.n 1) rfl) <| esr <| p10 (op_fieldP (off' := 0) uU rfl ti3 (by decide) rfl ev rfl) rfl <| p11 (op_load1P uU rfl rfl ev rfl) rfl rfl <| ?_
 refine p10 (op_fieldP (off' := 1) uU rfl ti3 (by decide) rfl ev rfl) rfl <| p11 (op_load1P uU rfl rfl ev rfl) rfl rfl <| p10 (op_fieldP (off' := 2) uU rfl ti3 (by decide) rfl ev rfl) rfl <| p11 (op_load1P uU rfl rfl ev rfl) rfl rfl <| p10 (op_fieldP (off' := 3) uU rfl ti3 (by decide) rfl ev rfl) rfl <| p11 (op_load1P uU rfl rfl ev rfl) rfl rfl <| ?_
 refine p10 (op_fieldP (off' := 4) uU rfl ti3 (by decide) rfl ev rfl) rfl <| p11 (op_load1P uU rfl rfl ev rfl) rfl rfl <| p10 (op_fieldP (off' := 5) uU rfl ti3 (by decide) rfl ev rfl) rfl <| p11 (op_load1P uU rfl rfl ev rfl) rfl rfl <| ?_
 refine G.op1 (op_buildSlice (es := List.map encI_i64 [o_0.Kind, o_0.Client, o_0.Site, o_0.To, o_0.At, o_0.How]) uU ti3 rfl rfl (.cons ev (.cons ev (.cons ev (.cons ev (.cons ev (.cons ev .nil)))))) rfl rfl (by simp [encI_i64]) rfl) rfl z6 trivial ?_
 refine av rfl rfl <| eO <| ?_
 cases hF
 exact G.ret1 Tryz.results28 (RVar.tmp 2 _) z1 trivial


theorem ct_slices_IndexFunc_string (s_0 : (List ByteArray)) (f_1 : (ByteArray → Option Bool)) (r : Int) (hF : slices_IndexFunc_string s_0 f_1 = some r) : Ct Tryz.prog 59 [.g (.d (.sl 1 (List.map encS s_0))), .sem (sem1 (fun x => .d (vS x)) (fun y => .bool y) f_1)] (.one (.d (vI r))) := by
 unfold slices_IndexFunc_string at hF
 refine Ct.intro Tryz.func59 rfl Tryz.ntmps59 rfl rfl fun M w => ?_
 refine sr <| ac rfl rfl <| eO <| sq <| sr <| mv rfl rfl <| ?_
 refine p10 (op_lenM uU ev rfl) rfl <| p00 (op_move (ec rfl) rfl) <| eO <| ?_
 refine G.joinC (T := Unit) (fun y1 => ⟨[], []⟩) (fun y1 => slices_IndexFunc_string_k1 y1 = some r) (fun y1 hF => ?_) (fun J2 => ?_)
 · unfold slices_IndexFunc_string_k1 at hF
   refine sr <| ac rfl rfl <| eO <| ?_
   cases hF
   exact G.ret1 Tryz.results59 (RVar.tmp 4 _) z1 trivial
 refine bl <| ?_
 refine lF (fun (v3 : Int) => ⟨[(0, .one (.g (.d (.sl 1 (List.map encS s_0))))), (1, .one (.sem (sem1 (fun x => .d (vS x)) (fun y => .bool y) f_1))), (7, oI (s_0.length : Int)), (8, oI v3)], []⟩) hF z4 trivial rfl (fun K6 again5 v3 J4 hF => ?_)
 unfold slices_IndexFunc_string_l2 at hF
 refine sr <| p20 (op_lss ev ev rfl) rfl rfl <| eO <| sq <| ?_
 refine ifS hF (fun hc7 hF => ?_) (fun hc7 hF => ?_)
 · refine cT hc7 rfl <| sk <| sq <| bl <| sr <| mv rfl rfl <| ?_
   refine av rfl rfl <| esr <| mv rfl rfl <| mv rfl rfl <| mv rfl rfl <| bn hF fun x8 hx8 hF => ?_
   refine p20 (op_indexM hx8 uU ti9 ev ev rfl) rfl rfl <| p10 (op_load1E uU rfl rfl ev rfl) rfl <| bn hF fun r9 hr9 hF => p20 (op_callSem (t := 11) (v := .bool r9) (Φ := sem1 (fun x => .d (vS x)) (fun y => .bool y) f_1) ⟨x8, r9, rfl, hr9, rfl⟩ rfl (.cons ev .nil) rfl) rfl rfl <| eO <| ?_
   refine ifS hF (fun hc10 hF => ?_) (fun hc10 hF => ?_)
   · refine cT hc10 rfl <| sr <| mv rfl rfl <| av rfl rfl <| eO <| ?_
     cases hF
     exact G.ret1 Tryz.results59 (RVar.tmp 4 _) z1 trivial
   refine cF hc10 rfl <| sk <| eB <| rg <| p10 (op_add ev (ec rfl) rfl) rfl <| mv rfl rfl <| ?_
   refine eO <| ?_
   exact G.arr (J4 (IntKind.wrap .i64 (v3 + 1)) hF) z4 trivial rfl
 refine cF hc7 rfl <| ex <| ?_
 refine GX.c ?_
 refine GX.q ?_
 refine xY <| ?_
 exact G.arr (J2 () hF) trivial trivial rfl


theorem ct_slices_ContainsFunc_string (s_0 : (List ByteArray)) (f_1 : (ByteArray → Option Bool)) (r : Bool) (hF : slices_ContainsFunc_string s_0 f_1 = some r) : Ct Tryz.prog 29 [.g (.d (.sl 1 (List.map encS s_0))), .sem (sem1 (fun x => .d (vS x)) (fun y => .bool y) f_1)] (.one (.d (vB r))) := by
 unfold slices_ContainsFunc_string at hF
 refine Ct.intro Tryz.func29 rfl Tryz.ntmps29 rfl rfl fun M w => ?_
 refine sr <| ac rfl rfl <| esr <| mv rfl rfl <| mv rfl rfl <| bn hF fun r1 hr1 hF => ?_
 refine p20 (op_callQ cf59 (ct_slices_IndexFunc_string _ _ _ hr1) rfl rfl (.cons qe (.cons (.sem ev) .nil)) rfl) rfl rfl <| p10 (op_geq ev (ec rfl) rfl) rfl <| av rfl rfl <| eO <| ?_
 cases hF
 exact G.ret1 Tryz.results29 (RVar.tmp 4 _) z1 trivial


theorem ct_script_empty (c_0 : Api_Row) (r : Bool) (hF : script_empty c_0 = some r) : Ct Tryz.prog 30 [.g (.agg (encApi_Row c_0))] (.one (.d (vB r))) := by
 unfold script_empty at hF
 refine Ct.intro Tryz.func30 rfl Tryz.ntmps30 rfl rfl fun M w => ?_
 refine sr <| q11 (op_boxA (k := 1001) ev rfl) rfl rfl <| ac rfl rfl <| esr <| p10 (op_fieldP (off' := 0) uU rfl ti25 (by decide) rfl ev rfl) rfl <| p11 (op_load1P uU rfl rfl ev rfl) rfl rfl <| ?_
 refine p10 (op_lenM uU ev rfl) rfl <| p10 (op_fieldP (off' := 1) uU rfl ti26 (by decide) rfl ev rfl) rfl <| p11 (op_load1P uU rfl rfl ev rfl) rfl rfl <| p10 (op_lenM uU ev rfl) rfl <| p20 (op_add ev ev rfl) rfl rfl <| p10 (op_fieldP (off' := 2) uU rfl ti26 (by decide) rfl ev rfl) rfl <| ?_
 refine p11 (op_load1P uU rfl rfl ev rfl) rfl rfl <| p10 (op_lenM uU ev rfl) rfl <| p20 (op_add ev ev rfl) rfl rfl <| p10 (op_eqI ev (ec rfl) rfl) rfl <| av rfl rfl <| eO <| ?_
 cases hF
 exact G.ret1 Tryz.results30 (RVar.tmp 2 _) z1 trivial


theorem ct_script_Check (o_0 : Api_Op) (r : Bool) (hF : script_Check o_0 = some r) : Ct Tryz.prog 12 [.g (.agg (encApi_Op o_0))] (.one (.d (vB r))) := by
 unfold script_Check at hF
 refine Ct.intro Tryz.func12 rfl Tryz.ntmps12 rfl rfl fun M w => ?_
 refine sr <| q11 (op_boxA (k := 1001) ev rfl) rfl rfl <| ac rfl rfl <| esr <| p00 (op_assign (Ev.f 25) rfl) <| esr <| ?_
 refine p00 (op_assign (Ev.f 26) rfl) <| esr <| p10 (op_fieldP (off' := 0) uU rfl ti3 (by decide) rfl ev rfl) rfl <| p11 (op_load1P uU rfl rfl ev rfl) rfl rfl <| p10 (op_geq ev (ec rfl) rfl) rfl <| mv rfl rfl <| ?_
 refine G.joinL (T := Bool) 4 (fun y1 => ⟨[(1, .one (.ptr 1001 0)), (3, .one (.clo 25 [])), (4, .one (.clo 26 [])), (12, oB y1)], [(1001, some (.blk 30 [bI .i64 o_0.Kind, bI .i64 o_0.Client, bI .i64 o_0.Site, bI .i64 o_0.To, bI .i64 o_0.At, bI .i64 o_0.How, bS o_0.Key, bS o_0.Value, .g (.d (.sl 1 (List.map encS o_0.Keys))), .g (.d (.sl 2 (List.map encApi_Range o_0.Row.Ranges))), .g (.d (.sl 1 (List.map encI_i64 o_0.Row.Owners))), .g (.d (.sl 1 (List.map encI_i64 o_0.Row.Parents)))]))]⟩) (fun y1 => script_Check_k1 o_0 y1 = some r) (fun y1 hF => ?_) (fun J26 => ?_)
 · unfold script_Check_k1 at hF
   refine mv rfl rfl <| ?_
   refine G.joinL (T := Bool) 6 (fun y2 => ⟨[(1, .one (.ptr 1001 0)), (4, .one (.clo 26 [])), (19, oB y2)], [(1001, some (.blk 30 [bI .i64 o_0.Kind, bI .i64 o_0.Client, bI .i64 o_0.Site, bI .i64 o_0.To, bI .i64 o_0.At, bI .i64 o_0.How, bS o_0.Key, bS o_0.Value, .g (.d (.sl 1 (List.map encS o_0.Keys))), .g (.d (.sl 2 (List.map encApi_Range o_0.Row.Ranges))), .g (.d (.sl 1 (List.map encI_i64 o_0.Row.Owners))), .g (.d (.sl 1 (List.map encI_i64 o_0.Row.Parents)))]))]⟩) (fun y2 => script_Check_k2 o_0 y2 = some r) (fun y2 hF => ?_) (fun J22 => ?_)
   · unfold script_Check_k2 at hF
     refine mv rfl rfl <| ?_
     refine G.joinL (T := Bool) 5 (fun y3 => ⟨[(1, .one (.ptr 1001 0)), (4, .one (.clo 26 [])), (25, oB y3)], [(1001, some (.blk 30 [bI .i64 o_0.Kind, bI .i64 o_0.Client, bI .i64 o_0.Site, bI .i64 o_0.To, bI .i64 o_0.At, bI .i64 o_0.How, bS o_0.Key, bS o_0.Value, .g (.d (.sl 1 (List.map encS o_0.Keys))), .g (.d (.sl 2 (List.map encApi_Range o_0.Row.Ranges))), .g (.d (.sl 1 (List.map encI_i64 o_0.Row.Owners))), .g (.d (.sl 1 (List.map encI_i64 o_0.Row.Parents)))]))]⟩) (fun y3 => script_Check_k3 o_0 y3 = some r) (fun y3 hF => ?_) (fun J20 => ?_)
     · unfold script_Check_k3 at hF
       refine mv rfl rfl <| ?_
       refine G.joinL (T := Bool) 6 (fun y4 => ⟨[(1, .one (.ptr 1001 0)), (4, .one (.clo 26 [])), (32, oB y4)], [(1001, some (.blk 30 [bI .i64 o_0.Kind, bI .i64 o_0.Client, bI .i64 o_0.Site, bI .i64 o_0.To, bI .i64 o_0.At, bI .i64 o_0.How, bS o_0.Key, bS o_0.Value, .g (.d (.sl 1 (List.map encS o_0.Keys))), .g (.d (.sl 2 (List.map encApi_Range o_0.Row.Ranges))), .g (.d (.sl 1 (List.map encI_i64 o_0.Row.Owners))), .g (.d (.sl 1 (List.map encI_i64 o_0.Row.Parents)))]))]⟩) (fun y4 => script_Check_k4 o_0 y4 = some r) (fun y4 hF => ?_) (fun J17 => ?_)
       · unfold script_Check_k4 at hF
         refine mv rfl rfl <| ?_
         refine G.joinL (T := Bool) 6 (fun y5 => ⟨[(1, .one (.ptr 1001 0)), (4, .one (.clo 26 [])), (39, oB y5)], [(1001, some (.blk 30 [bI .i64 o_0.Kind, bI .i64 o_0.Client, bI .i64 o_0.Site, bI .i64 o_0.To, bI .i64 o_0.At, bI .i64 o_0.How, bS o_0.Key, bS o_0.Value, .g (.d (.sl 1 (List.map encS o_0.Keys))), .g (.d (.sl 2 (List.map encApi_Range o_0.Row.Ranges))), .g (.d (.sl 1 (List.map encI_i64 o_0.Row.Owners))), .g (.d (.sl 1 (List.map encI_i64 o_0.Row.Parents)))]))]⟩) (fun y5 => script_Check_k5 o_0 y5 = some r) (fun y5 hF => ?_) (fun J14 => ?_)
         · unfold script_Check_k5 at hF
           refine mv rfl rfl <| ?_
           refine G.joinL (T := Bool) 6 (fun y6 => ⟨[(1, .one (.ptr 1001 0)), (46, oB y6)], [(1001, some (.blk 30 [bI .i64 o_0.Kind, bI .i64 o_0.Client, bI .i64 o_0.Site, bI .i64 o_0.To, bI .i64 o_0.At, bI .i64 o_0.How, bS o_0.Key, bS o_0.Value, .g (.d (.sl 1 (List.map encS o_0.Keys))), .g (.d (.sl 2 (List.map encApi_Range o_0.Row.Ranges))), .g (.d (.sl 1 (List.map encI_i64 o_0.Row.Owners))), .g (.d (.sl 1 (List.map encI_i64 o_0.Row.Parents)))]))]⟩) (fun y6 => script_Check_k6 o_0 y6 = some r) (fun y6 hF => ?_) (fun J11 => ?_)
           · unfold script_Check_k6 at hF
             refine mv rfl rfl <| ?_
             refine ifS hF (fun hc7 hF => ?_) (fun hc7 hF => ?_)
             · refine G.known (t := 47) hc7 rfl <| g10 (op_fieldP (off' := 9) uU rfl ti28 (by decide) rfl ev rfl) rfl rfl rfl <| g11 (op_loadAP (ds := [.sl 2 (List.map encApi_Range o_0.Row.Ranges), .sl 1 (List.map encI_i64 o_0.Row.Owners), .sl 1 (List.map encI_i64 o_0.Row.Parents)]) uU rfl ti28 rfl ev rfl) rfl rfl rfl rfl <| bn hF fun r8 hr8 hF => g10 (op_callQ cf30 (ct_script_empty _ _ hr8) rfl rfl (.cons qe .nil) rfl) rfl rfl rfl <| g10 (op_move ev rfl) rfl rfl rfl <| ?_
               refine ifS hF (fun hc9 hF => ?_) (fun hc9 hF => ?_)
               · refine G.known (t := 51) hc9 rfl <| oN rfl rfl rfl <| oN rfl rfl rfl <| oN rfl rfl rfl <| oN rfl rfl rfl <| g10 (op_pickT ev (ec rfl) rfl) rfl rfl rfl <| ?_
                 refine p20 (op_pickT ev ev rfl) rfl rfl <| av rfl rfl <| eO <| ?_
                 cases hF
                 exact G.ret1 Tryz.results12 (RVar.tmp 2 _) z1 trivial
               refine G.known (t := 51) hc9 rfl <| g10 (op_fieldP (off' := 9) uU rfl ti28 (by decide) rfl ev rfl) rfl rfl rfl <| g11 (op_loadAP (ds := [.sl 2 (List.map encApi_Range o_0.Row.Ranges), .sl 1 (List.map encI_i64 o_0.Row.Owners), .sl 1 (List.map encI_i64 o_0.Row.Parents)]) uU rfl ti28 rfl ev rfl) rfl rfl rfl rfl <| bn hF fun r10 hr10 hF => g10 (op_callQ cf31 (ct_wire_RowBytes _ _ hr10) rfl rfl (.cons qe .nil) rfl) rfl rfl rfl <| g10 (op_neS ev (ec rfl) rfl) rfl rfl rfl <| ?_
               refine g20 (op_pickF ev ev rfl) rfl rfl rfl rfl <| p20 (op_pickT ev ev rfl) rfl rfl <| av rfl rfl <| eO <| ?_
               cases hF
               exact G.ret1 Tryz.results12 (RVar.tmp 2 _) z1 trivial
             refine G.known (t := 47) hc7 rfl <| oN rfl rfl rfl <| oN rfl rfl rfl <| oN rfl rfl rfl <| oN rfl rfl rfl <| ?_
             refine G.opU rfl rfl rfl rfl ?_
             refine G.opU rfl rfl rfl rfl ?_
             refine G.opU rfl rfl rfl rfl ?_
             refine G.opU rfl rfl rfl rfl ?_
             refine oN rfl rfl rfl <| p10 (op_pickF ev (ec rfl) rfl) rfl <| av rfl rfl <| eO <| ?_
             cases hF
             exact G.ret1 Tryz.results12 (RVar.tmp 2 _) z1 trivial
           refine ifS hF (fun hc12 hF => ?_) (fun hc12 hF => ?_)
           · refine G.known (t := 40) hc12 rfl <| g10 (op_move ev rfl) rfl rfl rfl <| g10 (op_fieldP (off' := 7) uU rfl ti9 (by decide) rfl ev rfl) rfl rfl rfl <| g11 (op_load1P uU rfl rfl ev rfl) rfl rfl rfl rfl <| bn hF fun r13 hr13 hF => g20 (op_callClo (sv := oB r13) (args := _) (gs := _) cf26 (ct_script_Check_2 _ _ hr13) rfl rfl EvC.nil (.cons qe .nil) rfl) rfl rfl rfl rfl <| ?_
             refine g10 (op_not ev rfl) rfl rfl rfl <| p20 (op_pickT ev ev rfl) rfl rfl <| ?_
             exact G.arr (J11 (!r13) hF) z2 z1 rfl
           refine G.known (t := 40) hc12 rfl <| oN rfl rfl rfl <| oN rfl rfl rfl <| oN rfl rfl rfl <| oN rfl rfl rfl <| oN rfl rfl rfl <| ?_
           refine p10 (op_pickF ev (ec rfl) rfl) rfl <| ?_
           exact G.arr (J11 false hF) z2 z1 rfl
         refine ifS hF (fun hc15 hF => ?_) (fun hc15 hF => ?_)
         · refine G.known (t := 33) hc15 rfl <| g10 (op_move ev rfl) rfl rfl rfl <| g10 (op_fieldP (off' := 6) uU rfl ti9 (by decide) rfl ev rfl) rfl rfl rfl <| g11 (op_load1P uU rfl rfl ev rfl) rfl rfl rfl rfl <| bn hF fun r16 hr16 hF => g20 (op_callClo (sv := oB r16) (args := _) (gs := _) cf26 (ct_script_Check_2 _ _ hr16) rfl rfl EvC.nil (.cons qe .nil) rfl) rfl rfl rfl rfl <| ?_
           refine g10 (op_not ev rfl) rfl rfl rfl <| p20 (op_pickT ev ev rfl) rfl rfl <| ?_
           exact G.arr (J14 (!r16) hF) z3 z1 rfl
         refine G.known (t := 33) hc15 rfl <| oN rfl rfl rfl <| oN rfl rfl rfl <| oN rfl rfl rfl <| oN rfl rfl rfl <| oN rfl rfl rfl <| ?_
         refine p10 (op_pickF ev (ec rfl) rfl) rfl <| ?_
         exact G.arr (J14 false hF) z3 z1 rfl
       refine ifS hF (fun hc18 hF => ?_) (fun hc18 hF => ?_)
       · refine G.known (t := 26) hc18 rfl <| g10 (op_fieldP (off' := 8) uU rfl ti24 (by decide) rfl ev rfl) rfl rfl rfl <| g11 (op_load1P uU rfl rfl ev rfl) rfl rfl rfl rfl <| g10 (op_move ev rfl) rfl rfl rfl <| bn hF fun r19 hr19 hF => g20 (op_callQ cf29 (ct_slices_ContainsFunc_string _ _ _ hr19) rfl rfl (.cons qe (.cons (.clo (Φ := sem1 (fun x => .d (vS x)) (fun y => .bool y) (fun x0 => script_Check_2 x0)) ev EvC.nil cf26 (fun args v ⟨x0, b, h1, h2, h3⟩ => by subst h1 h3; exact ct_script_Check_2 x0 b h2)) .nil)) rfl) rfl rfl rfl rfl <| ?_
         refine g10 (op_not ev rfl) rfl rfl rfl <| p20 (op_pickT ev ev rfl) rfl rfl <| ?_
         exact G.arr (J17 (!r19) hF) z3 z1 rfl
       refine G.known (t := 26) hc18 rfl <| oN rfl rfl rfl <| oN rfl rfl rfl <| oN rfl rfl rfl <| oN rfl rfl rfl <| oN rfl rfl rfl <| ?_
       refine p10 (op_pickF ev (ec rfl) rfl) rfl <| ?_
       exact G.arr (J17 false hF) z3 z1 rfl
     refine ifS hF (fun hc21 hF => ?_) (fun hc21 hF => ?_)
     · refine G.known (t := 20) hc21 rfl <| g10 (op_fieldP (off' := 8) uU rfl ti24 (by decide) rfl ev rfl) rfl rfl rfl <| g11 (op_load1P uU rfl rfl ev rfl) rfl rfl rfl rfl <| g10 (op_lenM uU ev rfl) rfl rfl rfl <| g10 (op_leq ev (ec rfl) rfl) rfl rfl rfl <| p20 (op_pickT ev ev rfl) rfl rfl <| ?_
       exact G.arr (J20 (decide ((o_0.Keys.length : Int) ≤ 8)) hF) z3 z1 rfl
     refine G.known (t := 20) hc21 rfl <| oN rfl rfl rfl <| oN rfl rfl rfl <| oN rfl rfl rfl <| oN rfl rfl rfl <| p10 (op_pickF ev (ec rfl) rfl) rfl <| ?_
     exact G.arr (J20 false hF) z3 z1 rfl
   refine ifS hF (fun hc23 hF => ?_) (fun hc23 hF => ?_)
   · refine G.known (t := 13) hc23 rfl <| g11 (op_loadAP (ds := [vI o_0.Kind, vI o_0.Client, vI o_0.Site, vI o_0.To, vI o_0.At, vI o_0.How, vS o_0.Key, vS o_0.Value, .sl 1 (List.map encS o_0.Keys), .sl 2 (List.map encApi_Range o_0.Row.Ranges), .sl 1 (List.map encI_i64 o_0.Row.Owners), .sl 1 (List.map encI_i64 o_0.Row.Parents)]) uU rfl ti30 rfl ev rfl) rfl rfl rfl rfl <| bn hF fun r24 hr24 hF => g10 (op_call cf28 (ct_script_numbers _ _ hr24) rfl (.cons ev .nil) rfl) rfl rfl rfl <| g10 (op_move ev rfl) rfl rfl rfl <| bn hF fun r25 hr25 hF => ?_
     refine g20 (op_callQ cf27 (ct_slices_ContainsFunc_int _ _ _ hr25) rfl rfl (.cons qe (.cons (.clo (Φ := sem1 (fun x => .d (vI x)) (fun y => .bool y) (fun x0 => script_Check_1 x0)) ev EvC.nil cf25 (fun args v ⟨x0, b, h1, h2, h3⟩ => by subst h1 h3; exact ct_script_Check_1 x0 b h2)) .nil)) rfl) rfl rfl rfl rfl <| g10 (op_not ev rfl) rfl rfl rfl <| p20 (op_pickT ev ev rfl) rfl rfl <| ?_
     exact G.arr (J22 (!r25) hF) z3 z1 rfl
   refine G.known (t := 13) hc23 rfl <| oN rfl rfl rfl <| oN rfl rfl rfl <| oN rfl rfl rfl <| oN rfl rfl rfl <| oN rfl rfl rfl <| ?_
   refine p10 (op_pickF ev (ec rfl) rfl) rfl <| ?_
   exact G.arr (J22 false hF) z3 z1 rfl
 refine ifS hF (fun hc27 hF => ?_) (fun hc27 hF => ?_)
 · refine G.known (t := 8) hc27 rfl <| g10 (op_fieldP (off' := 0) uU rfl ti3 (by decide) rfl ev rfl) rfl rfl rfl <| g11 (op_load1P uU rfl rfl ev rfl) rfl rfl rfl rfl <| g10 (op_leq ev (ec rfl) rfl) rfl rfl rfl <| p20 (op_pickT ev ev rfl) rfl rfl <| ?_
   exact G.arr (J26 (decide (o_0.Kind ≤ 12)) hF) z4 z1 rfl
 refine G.known (t := 8) hc27 rfl <| oN rfl rfl rfl <| oN rfl rfl rfl <| oN rfl rfl rfl <| p10 (op_pickF ev (ec rfl) rfl) rfl <| ?_
 exact G.arr (J26 false hF) z4 z1 rfl


theorem ct_words_small (n_0 : Int) (r : ByteArray) (hF : words_small n_0 = some r) : Ct Tryz.prog 34 [.g (.d (vI n_0))] (.one (.d (vS r))) := by
 unfold words_small at hF
 refine Ct.intro Tryz.func34 rfl Tryz.ntmps34 rfl rfl fun M w => ?_
 refine sr <| ac rfl rfl <| eO <| sq <| sr <| mv rfl rfl <| ?_
 refine p10 (op_lss ev (ec rfl) rfl) rfl <| eO <| ?_
 refine ifS hF (fun hc1 hF => ?_) (fun hc1 hF => ?_)
 · refine cT hc1 rfl <| sr <| mv rfl rfl <| p10 (op_convI uU uU ev rfl) rfl <| p10 (op_add (ec rfl) ev rfl) rfl <| p10 (op_buildSlice (es := List.map encI_u8 [IntKind.wrap .u8 (48 + (IntKind.wrap .u8 n_0))]) uU ti5 rfl rfl (.cons ev .nil) rfl rfl (by simp [encI_u8]) rfl) rfl <| ?_
   refine p10 (op_toText (ns := [IntKind.wrap .u8 (48 + (IntKind.wrap .u8 n_0))]) uU uU uU rfl ev rfl) rfl <| av rfl rfl <| eO <| ?_
   cases hF
   exact G.ret1 Tryz.results34 (RVar.tmp 2 _) z1 trivial
 refine cF hc1 rfl <| sk <| sr <| mv rfl rfl <| p10 (op_quo (by decide) ev (ec rfl) rfl) rfl <| p10 (op_convI uU uU ev rfl) rfl <| ?_
 refine p10 (op_add (ec rfl) ev rfl) rfl <| mv rfl rfl <| p10 (op_rem (by decide) ev (ec rfl) rfl) rfl <| p10 (op_convI uU uU ev rfl) rfl <| p10 (op_add (ec rfl) ev rfl) rfl <| p20 (op_buildSlice (es := List.map encI_u8 [IntKind.wrap .u8 (48 + (IntKind.wrap .u8 (IntKind.wrap .i64 (Int.tdiv n_0 10)))), IntKind.wrap .u8 (48 + (IntKind.wrap .u8 (Int.tmod n_0 10)))]) uU ti5 rfl rfl (.cons ev (.cons ev .nil)) rfl rfl (by simp [encI_u8]) rfl) rfl rfl <| ?_
 refine p10 (op_toText (ns := [IntKind.wrap .u8 (48 + (IntKind.wrap .u8 (IntKind.wrap .i64 (Int.tdiv n_0 10)))), IntKind.wrap .u8 (48 + (IntKind.wrap .u8 (Int.tmod n_0 10)))]) uU uU uU rfl ev rfl) rfl <| av rfl rfl <| eO <| ?_
 cases hF
 exact G.ret1 Tryz.results34 (RVar.tmp 2 _) z1 trivial


theorem ct_words_Quote (s_0 : ByteArray) (r : ByteArray) (hF : words_Quote s_0 = some r) : Ct Tryz.prog 35 [.g (.d (vS s_0))] (.one (.d (vS r))) := by
 unfold words_Quote at hF
 refine Ct.intro Tryz.func35 rfl Tryz.ntmps35 rfl rfl fun M w => ?_
 refine sr <| ac rfl rfl <| esr <| q01 (op_buildRowN (kk := 2005) (ex := false) (es := List.map encI_u8 [34]) uU ti5 rfl rfl rfl (.cons (ec rfl) .nil) rfl rfl (by simp [encI_u8]) rfl) rfl <| av rfl rfl <| eO <| ?_
 refine sq <| sr <| mv rfl rfl <| p10 (op_lenS uU ev rfl) rfl <| p00 (op_move (ec rfl) rfl) <| eO <| ?_
 refine G.joinC (T := (List Int)) (fun y1 => ⟨[(3, .one (.own 2005 (List.map encI_u8 y1)))], [(2005, some (.row 5 1 (List.map encI_u8 y1) false))]⟩) (fun y1 => words_Quote_k1 y1 = some r) (fun y1 hF => ?_) (fun J3 => ?_)
 · unfold words_Quote_k1 at hF
   refine sr <| mv rfl rfl <| p00 (op_buildSlice (es := List.map encI_u8 [34]) uU ti5 rfl rfl (.cons (ec rfl) .nil) rfl rfl (by simp [encI_u8]) rfl) <| bn hF fun l2 hl2 hF => q21 (op_appendO uU ti5 rfl (app_map hl2 encI_u8) (app_b1 hl2 encI_u8) (app_b2 hl2 encI_u8) ev ev rfl) rfl rfl rfl <| ?_
   refine G.view (t := 37) rfl rfl ?_
   refine p10 (op_toText (ns := l2) uU uU uU rfl ev rfl) rfl <| av rfl rfl <| eO <| ?_
   cases hF
   exact G.ret1 Tryz.results35 (RVar.tmp 2 _) z1 trivial
 refine bl <| ?_
 refine lF (fun (v4 : Int × (List Int)) => ⟨[(0, oS s_0), (3, .one (.own 2005 (List.map encI_u8 v4.2))), (7, oI (s_0.size : Int)), (8, oI v4.1)], [(2005, some (.row 5 1 (List.map encI_u8 v4.2) false))]⟩) hF z4 z1 rfl (fun K7 again6 v4 J5 hF => ?_)
 unfold words_Quote_l2 at hF
 refine sr <| p20 (op_lss ev ev rfl) rfl rfl <| eO <| sq <| ?_
 refine ifS hF (fun hc8 hF => ?_) (fun hc8 hF => ?_)
 · refine cT hc8 rfl <| sk <| sq <| bl <| sr <| mv rfl rfl <| ?_
   refine av rfl rfl <| eO <| sq <| sr <| mv rfl rfl <| mv rfl rfl <| ?_
   refine bn hF fun b9 hb9 hF => p20 (op_indexS uU (sidx_ok hb9).1 (sidx_ok hb9).2 ev ev rfl) rfl rfl <| bn hF fun r10 hr10 hF => p10 (op_callQ cf65 (ct_words_plain _ _ hr10) rfl rfl (.cons qe .nil) rfl) rfl <| eO <| ?_
   refine ifS hF (fun hc11 hF => ?_) (fun hc11 hF => ?_)
   · refine cT hc11 rfl <| sr <| mv rfl rfl <| mv rfl rfl <| mv rfl rfl <| bn hF fun b12 hb12 hF => ?_
     refine p20 (op_indexS uU (sidx_ok hb12).1 (sidx_ok hb12).2 ev ev rfl) rfl rfl <| p10 (op_buildSlice (es := List.map encI_u8 [(b12.toNat : Int)]) uU ti5 rfl rfl (.cons ev .nil) rfl rfl (by simp [encI_u8]) rfl) rfl <| bn hF fun l13 hl13 hF => q21 (op_appendO uU ti5 rfl (app_map hl13 encI_u8) (app_b1 hl13 encI_u8) (app_b2 hl13 encI_u8) ev ev rfl) rfl rfl rfl <| av rfl rfl <| eO <| ?_
     refine ex <| ?_
     refine GX.c ?_
     refine xY <| rg <| p10 (op_add ev (ec rfl) rfl) rfl <| mv rfl rfl <| eO <| ?_
     exact G.arr (J5 (IntKind.wrap .i64 (v4.1 + 1), l13) hF) z4 z1 rfl
   refine cF hc11 rfl <| sk <| bn hF fun b14 hb14 hF => bn hF fun b15 hb15 hF => bn hF fun b16 hb16 hF => bn hF fun b17 hb17 hF => ?_
   refine bn hF fun l18 hl18 hF => ?_
   refine G.drawnI (deps := [[], [], [], [1, 2], [1, 2, 3], [1, 2, 3, 4], [], [], [6, 7], [6, 7, 8], [6, 7, 8, 9], [1, 2, 3, 4, 5, 6, 7, 8, 9, 10], [0, 1, 2, 3, 4, 5, 6, 7, 8, 9, 10, 11], [0, 1, 2, 3, 4, 5, 6, 7, 8, 9, 10, 11, 12]]) (sl' := [(0, oS s_0), (3, .one (.own 2005 (List.map encI_u8 l18))), (7, oI (s_0.size : Int)), (8, oI v4.1)]) (hp' := [(2005, some (.row 5 1 (List.map encI_u8 l18) false))]) (.c (oP rfl rfl (op_move ev rfl)) (.c (oP rfl rfl (op_move ev rfl)) (.c (oP rfl rfl (op_move ev rfl)) (.c (oP rfl rfl (op_indexS uU (sidx_ok hb14).1 (sidx_ok hb14).2 ev ev rfl)) (.c (oP rfl rfl (op_quo (by decide) ev (ec rfl) rfl)) (.c (oP rfl rfl (op_indexS uU (sidx_ok hb15).1 (sidx_ok hb15).2 (ec rfl) ev rfl)) (.c (oP rfl rfl (op_move ev rfl)) (.c (oP rfl rfl (op_move ev rfl)) (.c (oP rfl rfl (op_indexS uU (sidx_ok hb16).1 (sidx_ok hb16).2 ev ev rfl)) (.c (oP rfl rfl (op_rem (by decide) ev (ec rfl) rfl)) (.c (oP rfl rfl (op_indexS uU (sidx_ok hb17).1 (sidx_ok hb17).2 (ec rfl) ev rfl)) (.c (oP rfl rfl (op_buildSlice (es := List.map encI_u8 [92, (b15.toNat : Int), (b17.toNat : Int)]) uU ti5 rfl rfl (.cons (ec rfl) (.cons ev (.cons ev .nil))) rfl rfl (by simp [encI_u8]) rfl)) (.c (oP rfl rfl (op_appendO uU ti5 rfl (app_map hl18 encI_u8) (app_b1 hl18 encI_u8) (app_b2 hl18 encI_u8) ev ev rfl)) (.c (oP rfl rfl (op_assign ev rfl)) .nil)))))))))))))) follows rfl rfl rfl ⟨⟨⟨rfl, rfl⟩, trivial⟩, trivial, ⟨rfl, trivial⟩, trivial, ⟨rfl, trivial⟩, trivial, ⟨rfl, rfl, trivial⟩, trivial, ⟨rfl, trivial⟩, trivial, ⟨rfl, trivial⟩, trivial, ⟨rfl, trivial⟩, trivial, ⟨rfl, trivial⟩, trivial, ⟨rfl, rfl, trivial⟩, trivial, ⟨rfl, trivial⟩, trivial, ⟨rfl, trivial⟩, trivial, ⟨rfl, rfl, trivial⟩, trivial, ⟨rfl, rfl, trivial⟩, ⟨⟨rfl, rfl⟩, trivial⟩, ⟨rfl, trivial⟩, trivial, trivial⟩ ⟨rfl, rfl, rfl, rfl, trivial⟩ ⟨rfl, trivial⟩ rfl ?_
   refine eB <| rg <| p10 (op_add ev (ec rfl) rfl) rfl <| mv rfl rfl <| eO <| ?_
   exact G.arr (J5 (IntKind.wrap .i64 (v4.1 + 1), l18) hF) z4 z1 rfl
 refine cF hc8 rfl <| ex <| ?_
 refine GX.c ?_
 refine GX.q ?_
 refine xY <| ?_
 exact G.arr (J3 v4.2 hF) z1 z1 rfl


theorem bGW108 (b n : Nat) (w : World) (hbk : w.heap[b]? = some (.cells #[.pointer (some ⟨b, 0, none⟩), .slice none 0 0] 45 (0, 0))) (hn : n ≤ 140737488355328) :
    Calls Tryz.prog 108 #[.pointer (some ⟨b, 0, none⟩), .int .i64 n] w fun e w' => e = .returned (.tuple #[]) ∧ BPost 45 5 w b none ByteArray.empty w' := by
  have hSB : (Tryz.prog.info? 5).map (·.size) = some 1 := by kernel_rfl
  have t45 := Tryz.underlying45; have a45 := Tryz.isAgg45; have z45 := Tryz.sizeOf45; have v45 := Tryz.zeroValue45; have u45 := run_underlying t45
  have t42 := Tryz.underlying42; have a42 := Tryz.isAgg42; have z42 := Tryz.sizeOf42; have v42 := Tryz.zeroValue42; have u42 := run_underlying t42
  have t43 := Tryz.underlying43; have a43 := Tryz.isAgg43; have z43 := Tryz.sizeOf43; have v43 := Tryz.zeroValue43; have u43 := run_underlying t43
  have t5 := Tryz.underlying5; have a5 := Tryz.isAgg5; have z5 := Tryz.sizeOf5; have v5 := Tryz.zeroValue5; have u5 := run_underlying t5
  have t9 := Tryz.underlying9; have a9 := Tryz.isAgg9; have z9 := Tryz.sizeOf9; have v9 := Tryz.zeroValue9; have u9 := run_underlying t9
  have t4 := Tryz.underlying4; have a4 := Tryz.isAgg4; have z4 := Tryz.sizeOf4; have v4 := Tryz.zeroValue4; have u4 := run_underlying t4
  have t3 := Tryz.underlying3; have a3 := Tryz.isAgg3; have z3 := Tryz.sizeOf3; have v3 := Tryz.zeroValue3; have u3 := run_underlying t3
  obtain ⟨cs, hrun, hle, hmax⟩ := Lib.run_makeNoZero (P := Tryz.prog) w.drew #[3] 43 5 t43 n (by omega)
  have hw : IntKind.i64.wrap (IntKind.i64.wrap 0 + (n : Int)) = n := by
    rw [IntKind.wrap_i64, IntKind.wrap_i64]
    omega
  have hcall : (callFunc 121 #[.int .i64 (IntKind.i64.wrap (IntKind.i64.wrap 0 + (n : Int)))]).run Tryz.prog w.drew = .ok (.value (.slice (some ⟨w.drew.heap.size, 0, none⟩) n cs.size)) (w.drew.drew.drew.alloc (.cells cs 5)) := by
    rw [hw, run_callFunc_extern Tryz.func121 (by kernel_rfl) (by kernel_rfl) (by kernel_rfl) (e := Extern.BytealgMakeNoZero.makeNoZero #[3] #[43]) (by kernel_rfl), hrun]
    rfl
  have hlt : b < w.heap.size := (Array.getElem?_eq_some_iff.1 hbk).1
  have c1 : w.drew.cell? ⟨b, 1, none⟩ = some (.slice none 0 0) := by
    have : w.drew.heap[b]? = _ := hbk
    rw [Lib.cell_of_heap this]; rfl
  have c2 : (w.alloc (.cells cs 5)).cell? ⟨b, 1, none⟩ = some (.slice none 0 0) := by
    have : (w.alloc (.cells cs 5)).heap[b]? = _ := (Lib.alloc_old w _ b hlt).trans hbk
    rw [Lib.cell_of_heap this]; rfl
  have f2 : (w.alloc (.cells cs 5)).frozen? ⟨b, 1, none⟩ = false := Lib.frozen_of_heap ((Lib.alloc_old w _ b hlt).trans hbk) 1
  have hcopy : ∀ W : World, (Builtin.copy_ #[43, 43] 3 #[.slice (some ⟨w.heap.size, 0, none⟩) 0 cs.size, .slice none 0 0]).run Tryz.prog W = .ok (goInt 0) W :=
    fun W => run_copy_none W 43 43 3 5 _ _ 0 cs.size 0 0 t43 hSB rfl
  have mixed : Tryz.prog.follows .mixedOrders = true := by kernel_rfl
  have hfin := grown_new (T := 45) (E := 5) (cs := cs) hbk (hmax (by unfold maxLen; omega)) (by decide)
  clear hw hlt
  go_enter Tryz.func108, Tryz.ntmps108
  go_wp2
  go_region_o
  all_goals (go_wp2; go_end0; exact ⟨rfl, hfin⟩)


theorem bGR93 (n : Nat) (hn : n ≤ 140737488355328) (b : Nat) (w : World) (hbk : w.heap[b]? = some (.cells #[.pointer none, .slice none 0 0] 45 (0, 0))) :
    Calls Tryz.prog 93 #[.pointer (some ⟨b, 0, none⟩), .int .i64 n] w fun e w' => e = .returned (.tuple #[]) ∧ BPost 45 5 w b none ByteArray.empty w' := by
  have hbk1 : (w.setCell ⟨b, 0, none⟩ (.pointer (some ⟨b, 0, none⟩))).heap[b]? = some (.cells #[.pointer (some ⟨b, 0, none⟩), .slice none 0 0] 45 (0, 0)) := by
    simp [World.setCell, Array.getElem?_modify, hbk]
  have c1 : (w.setCell ⟨b, 0, none⟩ (.pointer (some ⟨b, 0, none⟩))).cell? ⟨b, 1, none⟩ = some (.slice none 0 0) := by rw [Lib.cell_of_heap hbk1]; rfl
  have t45 := Tryz.underlying45; have a45 := Tryz.isAgg45; have z45 := Tryz.sizeOf45; have v45 := Tryz.zeroValue45; have u45 := run_underlying t45
  have t42 := Tryz.underlying42; have a42 := Tryz.isAgg42; have z42 := Tryz.sizeOf42; have v42 := Tryz.zeroValue42; have u42 := run_underlying t42
  have t43 := Tryz.underlying43; have a43 := Tryz.isAgg43; have z43 := Tryz.sizeOf43; have v43 := Tryz.zeroValue43; have u43 := run_underlying t43
  have t5 := Tryz.underlying5; have a5 := Tryz.isAgg5; have z5 := Tryz.sizeOf5; have v5 := Tryz.zeroValue5; have u5 := run_underlying t5
  have t9 := Tryz.underlying9; have a9 := Tryz.isAgg9; have z9 := Tryz.sizeOf9; have v9 := Tryz.zeroValue9; have u9 := run_underlying t9
  have t4 := Tryz.underlying4; have a4 := Tryz.isAgg4; have z4 := Tryz.sizeOf4; have v4 := Tryz.zeroValue4; have u4 := run_underlying t4
  have t3 := Tryz.underlying3; have a3 := Tryz.isAgg3; have z3 := Tryz.sizeOf3; have v3 := Tryz.zeroValue3; have u3 := run_underlying t3
  have mixed : Tryz.prog.follows .mixedOrders = true := by kernel_rfl
  have c1' : (w.setCell ⟨b, 0, none⟩ (.pointer (some ⟨b, 0, none⟩))).drew.cell? ⟨b, 1, none⟩ = some (.slice none 0 0) := c1
  have hpost := bpost_fresh (E := 5) hbk
  have hpost2 := fun w' h => bpost_after (E := 5) (w' := w') hbk h
  go_enter Tryz.func93, Tryz.ntmps93
  go_wp2_with (go_at_call 48; refine (bCC48_fresh b _ w hbk).mono ?_; rintro e w' ⟨rfl, rfl⟩)
  go_region_o
  all_goals go_wp2_with (go_at_call 108; refine (bGW108 b n (w.setCell ⟨b, 0, none⟩ (.pointer (some ⟨b, 0, none⟩))).drew hbk1 hn).mono ?_; rintro e w' ⟨rfl, h1⟩)
  all_goals first
    | (go_end0; exact ⟨rfl, hpost2 _ h1⟩)
    | (go_end0; exact ⟨rfl, hpost⟩)


theorem ct_strings_Join (elems_0 : (List ByteArray)) (sep_1 : ByteArray) (r : ByteArray) (hF : strings_Join elems_0 sep_1 = some r) : Ct Tryz.prog 64 [.g (.d (.sl 1 (List.map encS elems_0))), .g (.d (vS sep_1))] (.one (.d (vS r))) := by
 unfold strings_Join at hF
 refine Ct.intro Tryz.func64 rfl Tryz.ntmps64 rfl rfl fun M w => ?_
 refine sr <| ac rfl rfl <| eO <| sq <| sr <| mv rfl rfl <| ?_
 refine p10 (op_lenM uU ev rfl) rfl <| eO <| bl <| sr <| p10 (op_eqI ev (ec rfl) rfl) rfl <| av rfl rfl <| ?_
 refine eO <| ?_
 refine ifS hF (fun hc1 hF => ?_) (fun hc1 hF => ?_)
 · refine cT hc1 rfl <| sr <| ac rfl rfl <| eO <| ?_
   cases hF
   exact G.ret1 Tryz.results64 (RVar.tmp 4 _) z1 trivial
 refine cF hc1 rfl <| sr <| p10 (op_eqI ev (ec rfl) rfl) rfl <| av rfl rfl <| eO <| ?_
 refine ifS hF (fun hc2 hF => ?_) (fun hc2 hF => ?_)
 · refine cT hc2 rfl <| sr <| mv rfl rfl <| bn hF fun x3 hx3 hF => p10 (op_indexM hx3 uU ti9 ev (ec rfl) rfl) rfl <| p10 (op_load1E uU rfl rfl ev rfl) rfl <| ?_
   refine av rfl rfl <| eO <| ?_
   cases hF
   exact G.ret1 Tryz.results64 (RVar.tmp 4 _) z1 trivial
 refine cF hc2 rfl <| sk <| eB <| sr <| ac rfl rfl <| eO <| ?_
 refine sq <| sr <| mv rfl rfl <| p10 (op_lenS uU ev rfl) rfl <| p10 (op_gtr ev (ec rfl) rfl) rfl <| eO <| ?_
 refine G.joinC (T := Int) (fun y4 => ⟨[(0, .one (.g (.d (.sl 1 (List.map encS elems_0))))), (1, oS sep_1), (5, oI y4)], []⟩) (fun y4 => strings_Join_k1 elems_0 sep_1 y4 = some r) (fun y4 hF => ?_) (fun J31 => ?_)
 · unfold strings_Join_k1 at hF
   refine sq <| sr <| mv rfl rfl <| p10 (op_lenM uU ev rfl) rfl <| p00 (op_move (ec rfl) rfl) <| eO <| ?_
   refine G.joinC (T := Int) (fun y5 => ⟨[(0, .one (.g (.d (.sl 1 (List.map encS elems_0))))), (1, oS sep_1), (5, oI y5)], []⟩) (fun y5 => strings_Join_k2 elems_0 sep_1 y5 = some r) (fun y5 hF => ?_) (fun J21 => ?_)
   · unfold strings_Join_k2 at hF
     refine sr <| q01 (op_alloc (k := 1008) (cs := [.g (.d (.v (.pointer none))), .g (.d (.v (.slice none 0 0)))]) ti45 ⟨.v _ rfl, .v _ rfl, trivial⟩ rfl) rfl <| esr <| mv rfl rfl <| ck hF fun hz6 hF => ?_
     refine G.opM (op_grow (T := 45) (E := 5) (k := 1008) (kk := 3008) cf93 (of_decide_eq_true hz6) bGR93 rfl rfl ev ev rfl) rfl z2 z2 ?_
     refine esr <| mv rfl rfl <| bn hF fun x7 hx7 hF => p10 (op_indexM hx7 uU ti9 ev (ec rfl) rfl) rfl <| p10 (op_load1E uU rfl rfl ev rfl) rfl <| bn hF fun r8 hr8 hF => ?_
     refine G.opM (op_callM (k := 1008) (h := .bld 45 5 ByteArray.empty) (h' := .bld 45 5 r8) 3008 (sv := .tup [bI .i64 (x7.size : Int), .g (.d (.v .nilIface))]) cf19 (ct_bld_WriteString _ _ _ hr8) rfl rfl (.pt ev (.g ev .nil)) rfl) rfl z2 z2 ?_
     refine eO <| sq <| sr <| mv rfl rfl <| bn hF fun l9 hl9 hF => p10 (op_sliceD (lo := some 1) (hi := none) uU ti9 (sub_okE hl9 encS).1 (sub_okE hl9 encS).2.1 (Int.le_refl _) (sub_okE hl9 encS).2.2 ev (.some (ec rfl)) .none rfl) rfl <| ?_
     refine p10 (op_lenM uU ev rfl) rfl <| p00 (op_move (ec rfl) rfl) <| eO <| ?_
     refine G.joinC (T := ByteArray) (fun y10 => ⟨[(8, .one (.ptr 1008 0))], [(1008, some (.bld 45 5 3008 y10)), (3008, some (.hid true 1008))]⟩) (fun y10 => strings_Join_k3 y10 = some r) (fun y10 hF => ?_) (fun J12 => ?_)
     · unfold strings_Join_k3 at hF
       refine sr <| bn hF fun r11 hr11 hF => ?_
       refine G.opM (op_callM (k := 1008) (h := .bld 45 5 y10) (h' := .gone) 3008 (sv := oS r11) cf20 (ct_bld_String _ _ hr11) rfl rfl (.pt ev .nil) rfl) rfl z1 z2 ?_
       refine av rfl rfl <| eO <| ?_
       cases hF
       exact G.ret1 Tryz.results64 (RVar.tmp 4 _) z1 trivial
     refine bl <| ?_
     refine lF (fun (v13 : Int × ByteArray) => ⟨[(1, oS sep_1), (8, .one (.ptr 1008 0)), (63, .one (.g (.d (.sl 1 (List.map encS l9))))), (64, oI (l9.length : Int)), (65, oI v13.1)], [(1008, some (.bld 45 5 3008 v13.2)), (3008, some (.hid true 1008))]⟩) hF z5 z2 rfl (fun K16 again15 v13 J14 hF => ?_)
     unfold strings_Join_l4 at hF
     refine sr <| p20 (op_lss ev ev rfl) rfl rfl <| eO <| sq <| ?_
     refine ifS hF (fun hc17 hF => ?_) (fun hc17 hF => ?_)
     · refine cT hc17 rfl <| sk <| sq <| bl <| sr <| bn hF fun x18 hx18 hF => ?_
       refine p20 (op_indexM hx18 uU ti9 ev ev rfl) rfl rfl <| p10 (op_load1E uU rfl rfl ev rfl) rfl <| av rfl rfl <| esr <| mv rfl rfl <| bn hF fun r19 hr19 hF => ?_
       refine G.opM (op_callM (k := 1008) (h := .bld 45 5 v13.2) (h' := .bld 45 5 r19) 3008 (sv := .tup [bI .i64 (sep_1.size : Int), .g (.d (.v .nilIface))]) cf19 (ct_bld_WriteString _ _ _ hr19) rfl rfl (.pt ev (.g ev .nil)) rfl) rfl z2 z2 ?_
       refine eO <| rg <| mv rfl rfl <| bn hF fun r20 hr20 hF => ?_
       refine G.opM (op_callM (k := 1008) (h := .bld 45 5 r19) (h' := .bld 45 5 r20) 3008 (sv := .tup [bI .i64 (x18.size : Int), .g (.d (.v .nilIface))]) cf19 (ct_bld_WriteString _ _ _ hr20) rfl rfl (.pt ev (.g ev .nil)) rfl) rfl z2 z2 ?_
       refine eO <| eB <| rg <| p10 (op_add ev (ec rfl) rfl) rfl <| mv rfl rfl <| eO <| ?_
       exact G.arr (J14 (IntKind.wrap .i64 (v13.1 + 1), r20) hF) z5 z2 rfl
     refine cF hc17 rfl <| ex <| ?_
     refine GX.c ?_
     refine GX.q ?_
     refine xY <| ?_
     exact G.arr (J12 v13.2 hF) z1 z2 rfl
   refine bl <| ?_
   refine lF (fun (v22 : Int × Int) => ⟨[(0, .one (.g (.d (.sl 1 (List.map encS elems_0))))), (1, oS sep_1), (5, oI v22.1), (39, .one (.g (.d (.sl 1 (List.map encS elems_0))))), (40, oI (elems_0.length : Int)), (41, oI v22.2)], []⟩) hF z6 trivial rfl (fun K25 again24 v22 J23 hF => ?_)
   unfold strings_Join_l5 at hF
   refine sr <| p20 (op_lss ev ev rfl) rfl rfl <| eO <| sq <| ?_
   refine ifS hF (fun hc26 hF => ?_) (fun hc26 hF => ?_)
   · refine cT hc26 rfl <| sk <| sq <| bl <| sr <| bn hF fun x27 hx27 hF => ?_
     refine p20 (op_indexM hx27 uU ti9 ev ev rfl) rfl rfl <| p10 (op_load1E uU rfl rfl ev rfl) rfl <| av rfl rfl <| eO <| sq <| sr <| ?_
     refine mv rfl rfl <| p10 (op_lenS uU ev rfl) rfl <| mv rfl rfl <| p10 (op_sub (ec rfl) ev rfl) rfl <| p20 (op_gtr ev ev rfl) rfl rfl <| eO <| ?_
     refine G.joinC (T := Unit) (fun y28 => ⟨[(0, .one (.g (.d (.sl 1 (List.map encS elems_0))))), (1, oS sep_1), (5, oI v22.1), (7, oS x27), (39, .one (.g (.d (.sl 1 (List.map encS elems_0))))), (40, oI (elems_0.length : Int)), (41, oI v22.2)], []⟩) (fun y28 => strings_Join_k6 again24 v22 x27 y28 = some r) (fun y28 hF => ?_) (fun J29 => ?_)
     · unfold strings_Join_k6 at hF
       refine rg <| mv rfl rfl <| mv rfl rfl <| p10 (op_lenS uU ev rfl) rfl <| p20 (op_add ev ev rfl) rfl rfl <| av rfl rfl <| ?_
       refine eO <| eB <| rg <| p10 (op_add ev (ec rfl) rfl) rfl <| mv rfl rfl <| eO <| ?_
       exact G.arr (J23 (IntKind.wrap .i64 (v22.1 + (x27.size : Int)), IntKind.wrap .i64 (v22.2 + 1)) hF) z6 trivial rfl
     refine ifS hF (fun hc30 hF => ?_) (fun hc30 hF => ?_)
     · refine cT hc30 rfl <| ?_
       cases hF
     refine cF hc30 rfl <| sk <| ?_
     exact G.arr (J29 () hF) z7 trivial rfl
   refine cF hc26 rfl <| ex <| ?_
   refine GX.c ?_
   refine GX.q ?_
   refine xY <| ?_
   exact G.arr (J21 v22.1 hF) z3 trivial rfl
 refine ifS hF (fun hc32 hF => ?_) (fun hc32 hF => ?_)
 · refine cT hc32 rfl <| sq <| sr <| mv rfl rfl <| p10 (op_lenS uU ev rfl) rfl <| mv rfl rfl <| ?_
   refine p10 (op_lenM uU ev rfl) rfl <| p10 (op_sub ev (ec rfl) rfl) rfl <| ck hF fun hz33 hF => p10 (op_quo (by simpa using hz33) (ec rfl) ev rfl) rfl <| p20 (op_geq ev ev rfl) rfl rfl <| eO <| ?_
   refine G.joinC (T := Unit) (fun y34 => ⟨[(0, .one (.g (.d (.sl 1 (List.map encS elems_0))))), (1, oS sep_1), (5, oI 0)], []⟩) (fun y34 => strings_Join_k7 elems_0 sep_1 y34 = some r) (fun y34 hF => ?_) (fun J35 => ?_)
   · unfold strings_Join_k7 at hF
     refine rg <| mv rfl rfl <| mv rfl rfl <| p10 (op_lenS uU ev rfl) rfl <| mv rfl rfl <| p10 (op_lenM uU ev rfl) rfl <| ?_
     refine p10 (op_sub ev (ec rfl) rfl) rfl <| p20 (op_mul ev ev rfl) rfl rfl <| p20 (op_add ev ev rfl) rfl rfl <| av rfl rfl <| eO <| ?_
     exact G.arr (J31 (IntKind.wrap .i64 (0 + (IntKind.wrap .i64 ((sep_1.size : Int) * (IntKind.wrap .i64 ((elems_0.length : Int) - 1)))))) hF) z3 trivial rfl
   refine ifS hF (fun hc36 hF => ?_) (fun hc36 hF => ?_)
   · refine cT hc36 rfl <| ?_
     cases hF
   refine cF hc36 rfl <| sk <| ?_
   exact G.arr (J35 () hF) z3 trivial rfl
 refine cF hc32 rfl <| sk <| ?_
 exact G.arr (J31 0 hF) z3 trivial rfl


theorem ct_words_put (line_0 : ByteArray) (words_1 : (List ByteArray)) (r : ByteArray) (hF : words_put line_0 words_1 = some r) : Ct Tryz.prog 33 [.g (.d (vS line_0)), .g (.d (.sl 1 (List.map encS words_1)))] (.one (.d (vS r))) := by
 unfold words_put at hF
 refine Ct.intro Tryz.func33 rfl Tryz.ntmps33 rfl rfl fun M w => ?_
 refine sr <| ac rfl rfl <| esr <| mv rfl rfl <| p10 (op_buildSliceC (es := List.map encS [line_0]) uU ti9 rfl rfl (.cons ev .nil) rfl rfl (by simp [encS]) rfl) rfl <| mv rfl rfl <| ?_
 refine bn hF fun l1 hl1 hF => p20 (op_appendC uU ti9 rfl rfl (app_map hl1 encS) (app_b1 hl1 encS) (app_b2 hl1 encS) ev ev rfl) rfl rfl <| bn hF fun r2 hr2 hF => p10 (op_callQ cf64 (ct_strings_Join _ _ _ hr2) rfl rfl (.cons qe (.cons (.g (ec rfl)) .nil)) rfl) rfl <| av rfl rfl <| eO <| ?_
 cases hF
 exact G.ret1 Tryz.results33 (RVar.tmp 4 _) z1 trivial


theorem ct_words_rowLine (s_0 : ByteArray) (c_1 : Api_Row) (r : ByteArray) (hF : words_rowLine s_0 c_1 = some r) : Ct Tryz.prog 36 [.g (.d (vS s_0)), .g (.agg (encApi_Row c_1))] (.one (.d (vS r))) := by
 unfold words_rowLine at hF
 refine Ct.intro Tryz.func36 rfl Tryz.ntmps36 rfl rfl fun M w => ?_
 refine sr <| q11 (op_boxA (k := 1003) ev rfl) rfl rfl <| ac rfl rfl <| eO <| sq <| sr <| ?_
 refine p10 (op_fieldP (off' := 1) uU rfl ti26 (by decide) rfl ev rfl) rfl <| p11 (op_load1P uU rfl rfl ev rfl) rfl rfl <| p10 (op_lenM uU ev rfl) rfl <| p00 (op_move (ec rfl) rfl) <| eO <| ?_
 refine G.joinC (T := ByteArray) (fun y1 => ⟨[(0, oS y1), (3, .one (.ptr 1003 0))], [(1003, some (.blk 28 [.g (.d (.sl 2 (List.map encApi_Range c_1.Ranges))), .g (.d (.sl 1 (List.map encI_i64 c_1.Owners))), .g (.d (.sl 1 (List.map encI_i64 c_1.Parents)))]))]⟩) (fun y1 => words_rowLine_k1 c_1 y1 = some r) (fun y1 hF => ?_) (fun J15 => ?_)
 · unfold words_rowLine_k1 at hF
   refine sr <| mv rfl rfl <| p00 (op_buildSlice (es := List.map encS [(ByteArray.mk #[47])]) uU ti9 rfl rfl (.cons (ec rfl) .nil) rfl rfl (by simp [encS]) rfl) <| bn hF fun r2 hr2 hF => p20 (op_callQ cf33 (ct_words_put _ _ _ hr2) rfl rfl (.cons qe (.cons qe .nil)) rfl) rfl rfl <| av rfl rfl <| ?_
   refine eO <| sq <| sr <| p10 (op_fieldP (off' := 2) uU rfl ti26 (by decide) rfl ev rfl) rfl <| p11 (op_load1P uU rfl rfl ev rfl) rfl rfl <| p10 (op_lenM uU ev rfl) rfl <| ?_
   refine p00 (op_move (ec rfl) rfl) <| eO <| ?_
   refine G.joinC (T := ByteArray) (fun y3 => ⟨[(0, oS y3)], []⟩) (fun y3 => words_rowLine_k2 y3 = some r) (fun y3 hF => ?_) (fun J4 => ?_)
   · unfold words_rowLine_k2 at hF
     refine sr <| mv rfl rfl <| av rfl rfl <| eO <| ?_
     cases hF
     exact G.ret1 Tryz.results36 (RVar.tmp 4 _) z1 trivial
   refine bl <| ?_
   refine lF (fun (v5 : ByteArray × Int) => ⟨[(0, oS v5.1), (43, .one (.g (.d (.sl 1 (List.map encI_i64 c_1.Parents))))), (44, oI (c_1.Parents.length : Int)), (45, oI v5.2)], []⟩) hF z4 trivial rfl (fun K8 again7 v5 J6 hF => ?_)
   unfold words_rowLine_l3 at hF
   refine sr <| p20 (op_lss ev ev rfl) rfl rfl <| eO <| sq <| ?_
   refine ifS hF (fun hc9 hF => ?_) (fun hc9 hF => ?_)
   · refine cT hc9 rfl <| sk <| sq <| bl <| sr <| bn hF fun x10 hx10 hF => ?_
     refine p20 (op_indexM hx10 uU ti3 ev ev rfl) rfl rfl <| p10 (op_load1E uU rfl rfl ev rfl) rfl <| av rfl rfl <| eO <| sq <| sr <| ?_
     refine mv rfl rfl <| p10 (op_lss ev (ec rfl) rfl) rfl <| eO <| ?_
     refine ifS hF (fun hc11 hF => ?_) (fun hc11 hF => ?_)
     · refine cT hc11 rfl <| sr <| mv rfl rfl <| p00 (op_buildSlice (es := List.map encS [(ByteArray.mk #[45])]) uU ti9 rfl rfl (.cons (ec rfl) .nil) rfl rfl (by simp [encS]) rfl) <| bn hF fun r12 hr12 hF => p20 (op_callQ cf33 (ct_words_put _ _ _ hr12) rfl rfl (.cons qe (.cons qe .nil)) rfl) rfl rfl <| ?_
       refine av rfl rfl <| eO <| ex <| ?_
       refine GX.c ?_
       refine xY <| rg <| p10 (op_add ev (ec rfl) rfl) rfl <| mv rfl rfl <| eO <| ?_
       exact G.arr (J6 (r12, IntKind.wrap .i64 (v5.2 + 1)) hF) z4 trivial rfl
     refine cF hc11 rfl <| sk <| rg <| mv rfl rfl <| mv rfl rfl <| bn hF fun r13 hr13 hF => ?_
     refine p10 (op_callQ cf34 (ct_words_small _ _ hr13) rfl rfl (.cons qe .nil) rfl) rfl <| p10 (op_buildSlice (es := List.map encS [r13]) uU ti9 rfl rfl (.cons ev .nil) rfl rfl (by simp [encS]) rfl) rfl <| bn hF fun r14 hr14 hF => p20 (op_callQ cf33 (ct_words_put _ _ _ hr14) rfl rfl (.cons qe (.cons qe .nil)) rfl) rfl rfl <| av rfl rfl <| eO <| ?_
     refine eB <| rg <| p10 (op_add ev (ec rfl) rfl) rfl <| mv rfl rfl <| eO <| ?_
     exact G.arr (J6 (r14, IntKind.wrap .i64 (v5.2 + 1)) hF) z4 trivial rfl
   refine cF hc9 rfl <| ex <| ?_
   refine GX.c ?_
   refine GX.q ?_
   refine xY <| ?_
   exact G.arr (J4 v5.1 hF) z1 trivial rfl
 refine bl <| ?_
 refine lF (fun (v16 : ByteArray × Int) => ⟨[(0, oS v16.1), (3, .one (.ptr 1003 0)), (10, .one (.g (.d (.sl 1 (List.map encI_i64 c_1.Owners))))), (11, oI (c_1.Owners.length : Int)), (12, oI v16.2)], [(1003, some (.blk 28 [.g (.d (.sl 2 (List.map encApi_Range c_1.Ranges))), .g (.d (.sl 1 (List.map encI_i64 c_1.Owners))), .g (.d (.sl 1 (List.map encI_i64 c_1.Parents)))]))]⟩) hF z5 z1 rfl (fun K19 again18 v16 J17 hF => ?_)
 unfold words_rowLine_l4 at hF
 refine sr <| p20 (op_lss ev ev rfl) rfl rfl <| eO <| sq <| ?_
 refine ifS hF (fun hc20 hF => ?_) (fun hc20 hF => ?_)
 · refine cT hc20 rfl <| sk <| sq <| bl <| sr <| mv rfl rfl <| ?_
   refine bn hF fun x21 hx21 hF => p20 (op_indexM hx21 uU ti3 ev ev rfl) rfl rfl <| p10 (op_load1E uU rfl rfl ev rfl) rfl <| av rfl rfl <| av rfl rfl <| esr <| ?_
   refine mv rfl rfl <| mv rfl rfl <| bn hF fun r22 hr22 hF => p10 (op_callQ cf34 (ct_words_small _ _ hr22) rfl rfl (.cons qe .nil) rfl) rfl <| p10 (op_buildSlice (es := List.map encS [r22]) uU ti9 rfl rfl (.cons ev .nil) rfl rfl (by simp [encS]) rfl) rfl <| bn hF fun r23 hr23 hF => ?_
   refine p20 (op_callQ cf33 (ct_words_put _ _ _ hr23) rfl rfl (.cons qe (.cons qe .nil)) rfl) rfl rfl <| av rfl rfl <| esr <| mv rfl rfl <| p10 (op_add ev (ec rfl) rfl) rfl <| p10 (op_fieldP (off' := 0) uU rfl ti25 (by decide) rfl ev rfl) rfl <| ?_
   refine p11 (op_load1P uU rfl rfl ev rfl) rfl rfl <| p10 (op_lenM uU ev rfl) rfl <| p20 (op_lss ev ev rfl) rfl rfl <| eO <| ?_
   refine ifS hF (fun hc24 hF => ?_) (fun hc24 hF => ?_)
   · refine cT hc24 rfl <| rg <| mv rfl rfl <| p10 (op_fieldP (off' := 0) uU rfl ti25 (by decide) rfl ev rfl) rfl <| p11 (op_load1P uU rfl rfl ev rfl) rfl rfl <| mv rfl rfl <| ?_
     refine bn hF fun x25 hx25 hF => p20 (op_indexM hx25 uU ti39 ev ev rfl) rfl rfl <| p10 (op_fieldE uU rfl ti9 (by decide) rfl ev rfl) rfl <| p10 (op_load1E uU rfl rfl ev rfl) rfl <| bn hF fun r26 hr26 hF => p10 (op_callQ cf35 (ct_words_Quote _ _ hr26) rfl rfl (.cons qe .nil) rfl) rfl <| ?_
     refine p10 (op_buildSlice (es := List.map encS [r26]) uU ti9 rfl rfl (.cons ev .nil) rfl rfl (by simp [encS]) rfl) rfl <| bn hF fun r27 hr27 hF => p20 (op_callQ cf33 (ct_words_put _ _ _ hr27) rfl rfl (.cons qe (.cons qe .nil)) rfl) rfl rfl <| av rfl rfl <| eO <| eB <| ?_
     refine rg <| p10 (op_add ev (ec rfl) rfl) rfl <| mv rfl rfl <| eO <| ?_
     exact G.arr (J17 (r27, IntKind.wrap .i64 (v16.2 + 1)) hF) z5 z1 rfl
   refine cF hc24 rfl <| sk <| eB <| rg <| p10 (op_add ev (ec rfl) rfl) rfl <| mv rfl rfl <| ?_
   refine eO <| ?_
   exact G.arr (J17 (r23, IntKind.wrap .i64 (v16.2 + 1)) hF) z5 z1 rfl
 refine cF hc20 rfl <| ex <| ?_
 refine GX.c ?_
 refine GX.q ?_
 refine xY <| ?_
 exact G.arr (J15 v16.1 hF) z2 z1 rfl


theorem ct_words_line (o_0 : Api_Op) (r : ByteArray) (hF : words_line o_0 = some r) : Ct Tryz.prog 13 [.g (.agg (encApi_Op o_0))] (.one (.d (vS r))) := by
 unfold words_line at hF
 refine Ct.intro Tryz.func13 rfl Tryz.ntmps13 rfl rfl fun M w => ?_
 refine sr <| q11 (op_boxA (k := 1001) ev rfl) rfl rfl <| ac rfl rfl <| esr <| p10 (op_fieldP (off' := 0) uU rfl ti3 (by decide) rfl ev rfl) rfl <| p11 (op_load1P uU rfl rfl ev rfl) rfl rfl <| ?_
 refine bn hF fun r1 hr1 hF => p10 (op_callQ cf32 (ct_words_name _ _ hr1) rfl rfl (.cons qe .nil) rfl) rfl <| av rfl rfl <| eO <| sq <| sr <| ?_
 refine p10 (op_fieldP (off' := 0) uU rfl ti3 (by decide) rfl ev rfl) rfl <| p11 (op_load1P uU rfl rfl ev rfl) rfl rfl <| eO <| ?_
 refine G.joinC (T := ByteArray) (fun y2 => ⟨[(3, oS y2)], []⟩) (fun y2 => words_line_k1 y2 = some r) (fun y2 hF => ?_) (fun J4 => ?_)
 · unfold words_line_k1 at hF
   refine sr <| mv rfl rfl <| bn hF fun s3 hs3 hF => p10 (op_catM hs3 ev (ec rfl) rfl) rfl <| av rfl rfl <| eO <| ?_
   cases hF
   exact G.ret1 Tryz.results13 (RVar.tmp 2 _) z1 trivial
 refine bl <| sr <| p10 (op_eqI ev (ec rfl) rfl) rfl <| av rfl rfl <| eO <| ?_
 refine ifS hF (fun hc5 hF => ?_) (fun hc5 hF => ?_)
 · refine cT hc5 rfl <| bn hF fun r6 hr6 hF => bn hF fun r7 hr7 hF => bn hF fun r8 hr8 hF => bn hF fun r9 hr9 hF => ?_
   refine G.drawnI (deps := [[], [], [1], [1, 2], [], [4], [1, 2, 3, 4, 5], [], [7], [1, 2, 3, 4, 5, 6, 7, 8], [1, 2, 3, 4, 5, 6, 7, 8, 9], [0, 1, 2, 3, 4, 5, 6, 7, 8, 9, 10], [0, 1, 2, 3, 4, 5, 6, 7, 8, 9, 10, 11]]) (sl' := [(3, oS r9)]) (hp' := []) (.c (oP rfl rfl (op_move ev rfl)) (.c (oP rfl rfl (op_fieldP (off' := 1) uU rfl ti3 (by decide) rfl ev rfl)) (.c (oP rfl rfl (op_load1P uU rfl rfl ev rfl)) (.c (oP rfl rfl (op_callQ cf34 (ct_words_small _ _ hr6) rfl rfl (.cons qe .nil) rfl)) (.c (oP rfl rfl (op_fieldP (off' := 6) uU rfl ti9 (by decide) rfl ev rfl)) (.c (oP rfl rfl (op_load1P uU rfl rfl ev rfl)) (.c (oP rfl rfl (op_callQ cf35 (ct_words_Quote _ _ hr7) rfl rfl (.cons qe .nil) rfl)) (.c (oP rfl rfl (op_fieldP (off' := 7) uU rfl ti9 (by decide) rfl ev rfl)) (.c (oP rfl rfl (op_load1P uU rfl rfl ev rfl)) (.c (oP rfl rfl (op_callQ cf35 (ct_words_Quote _ _ hr8) rfl rfl (.cons qe .nil) rfl)) (.c (oP rfl rfl (op_buildSlice (es := List.map encS [r6, r7, r8]) uU ti9 rfl rfl (.cons ev (.cons ev (.cons ev .nil))) rfl rfl (by simp [encS]) rfl)) (.c (oP rfl rfl (op_callQ cf33 (ct_words_put _ _ _ hr9) rfl rfl (.cons qe (.cons qe .nil)) rfl)) (.c (oP rfl rfl (op_assign ev rfl)) .nil))))))))))))) follows rfl rfl rfl ⟨⟨⟨rfl, rfl⟩, trivial⟩, trivial, ⟨rfl, trivial⟩, trivial, ⟨rfl, trivial⟩, ⟨⟨rfl, rfl⟩, trivial⟩, ⟨rfl, trivial⟩, trivial, ⟨rfl, trivial⟩, trivial, ⟨rfl, trivial⟩, ⟨⟨rfl, rfl⟩, trivial⟩, ⟨rfl, trivial⟩, trivial, ⟨rfl, trivial⟩, trivial, ⟨rfl, trivial⟩, ⟨⟨rfl, rfl⟩, trivial⟩, ⟨rfl, trivial⟩, trivial, ⟨rfl, rfl, rfl, trivial⟩, trivial, ⟨rfl, rfl, trivial⟩, trivial, ⟨rfl, trivial⟩, trivial, trivial⟩ ⟨rfl, trivial⟩ trivial rfl ?_
   refine eB <| ?_
   exact G.arr (J4 r9 hF) z1 trivial rfl
 refine cF hc5 rfl <| sq <| sr <| p10 (op_eqI ev (ec rfl) rfl) rfl <| av rfl rfl <| eO <| ?_
 refine G.joinC (T := Bool) (fun y10 => ⟨[(1, .one (.ptr 1001 0)), (3, oS r1), (10, oI o_0.Kind), (25, oB y10)], [(1001, some (.blk 30 [bI .i64 o_0.Kind, bI .i64 o_0.Client, bI .i64 o_0.Site, bI .i64 o_0.To, bI .i64 o_0.At, bI .i64 o_0.How, bS o_0.Key, bS o_0.Value, .g (.d (.sl 1 (List.map encS o_0.Keys))), .g (.d (.sl 2 (List.map encApi_Range o_0.Row.Ranges))), .g (.d (.sl 1 (List.map encI_i64 o_0.Row.Owners))), .g (.d (.sl 1 (List.map encI_i64 o_0.Row.Parents)))]))]⟩) (fun y10 => words_line_k2 o_0 r1 y10 = some r) (fun y10 hF => ?_) (fun J53 => ?_)
 · unfold words_line_k2 at hF
   refine ifS hF (fun hc11 hF => ?_) (fun hc11 hF => ?_)
   · refine cT hc11 rfl <| bn hF fun r12 hr12 hF => bn hF fun r13 hr13 hF => bn hF fun r14 hr14 hF => ?_
     refine G.drawnI (deps := [[], [], [1], [1, 2], [], [4], [1, 2, 3, 4, 5], [1, 2, 3, 4, 5, 6], [0, 1, 2, 3, 4, 5, 6, 7], [0, 1, 2, 3, 4, 5, 6, 7, 8]]) (sl' := [(3, oS r14)]) (hp' := []) (.c (oP rfl rfl (op_move ev rfl)) (.c (oP rfl rfl (op_fieldP (off' := 1) uU rfl ti3 (by decide) rfl ev rfl)) (.c (oP rfl rfl (op_load1P uU rfl rfl ev rfl)) (.c (oP rfl rfl (op_callQ cf34 (ct_words_small _ _ hr12) rfl rfl (.cons qe .nil) rfl)) (.c (oP rfl rfl (op_fieldP (off' := 6) uU rfl ti9 (by decide) rfl ev rfl)) (.c (oP rfl rfl (op_load1P uU rfl rfl ev rfl)) (.c (oP rfl rfl (op_callQ cf35 (ct_words_Quote _ _ hr13) rfl rfl (.cons qe .nil) rfl)) (.c (oP rfl rfl (op_buildSlice (es := List.map encS [r12, r13]) uU ti9 rfl rfl (.cons ev (.cons ev .nil)) rfl rfl (by simp [encS]) rfl)) (.c (oP rfl rfl (op_callQ cf33 (ct_words_put _ _ _ hr14) rfl rfl (.cons qe (.cons qe .nil)) rfl)) (.c (oP rfl rfl (op_assign ev rfl)) .nil)))))))))) follows rfl rfl rfl ⟨⟨⟨rfl, rfl⟩, trivial⟩, trivial, ⟨rfl, trivial⟩, trivial, ⟨rfl, trivial⟩, ⟨⟨rfl, rfl⟩, trivial⟩, ⟨rfl, trivial⟩, trivial, ⟨rfl, trivial⟩, trivial, ⟨rfl, trivial⟩, ⟨⟨rfl, rfl⟩, trivial⟩, ⟨rfl, trivial⟩, trivial, ⟨rfl, rfl, trivial⟩, trivial, ⟨rfl, rfl, trivial⟩, trivial, ⟨rfl, trivial⟩, trivial, trivial⟩ ⟨rfl, trivial⟩ trivial rfl ?_
     refine eB <| ?_
     exact G.arr (J4 r14 hF) z1 trivial rfl
   refine cF hc11 rfl <| sq <| sr <| p10 (op_eqI ev (ec rfl) rfl) rfl <| av rfl rfl <| eO <| ?_
   refine G.joinC (T := Bool) (fun y15 => ⟨[(1, .one (.ptr 1001 0)), (3, oS r1), (10, oI o_0.Kind), (37, oB y15)], [(1001, some (.blk 30 [bI .i64 o_0.Kind, bI .i64 o_0.Client, bI .i64 o_0.Site, bI .i64 o_0.To, bI .i64 o_0.At, bI .i64 o_0.How, bS o_0.Key, bS o_0.Value, .g (.d (.sl 1 (List.map encS o_0.Keys))), .g (.d (.sl 2 (List.map encApi_Range o_0.Row.Ranges))), .g (.d (.sl 1 (List.map encI_i64 o_0.Row.Owners))), .g (.d (.sl 1 (List.map encI_i64 o_0.Row.Parents)))]))]⟩) (fun y15 => words_line_k3 o_0 r1 y15 = some r) (fun y15 hF => ?_) (fun J51 => ?_)
   · unfold words_line_k3 at hF
     refine ifS hF (fun hc16 hF => ?_) (fun hc16 hF => ?_)
     · refine cT hc16 rfl <| rg <| mv rfl rfl <| p10 (op_fieldP (off' := 1) uU rfl ti3 (by decide) rfl ev rfl) rfl <| p11 (op_load1P uU rfl rfl ev rfl) rfl rfl <| bn hF fun r17 hr17 hF => ?_
       refine p10 (op_callQ cf34 (ct_words_small _ _ hr17) rfl rfl (.cons qe .nil) rfl) rfl <| p10 (op_buildSlice (es := List.map encS [r17]) uU ti9 rfl rfl (.cons ev .nil) rfl rfl (by simp [encS]) rfl) rfl <| bn hF fun r18 hr18 hF => p20 (op_callQ cf33 (ct_words_put _ _ _ hr18) rfl rfl (.cons qe (.cons qe .nil)) rfl) rfl rfl <| av rfl rfl <| eO <| ?_
       refine eB <| ?_
       exact G.arr (J4 r18 hF) z1 trivial rfl
     refine cF hc16 rfl <| sr <| p10 (op_eqI ev (ec rfl) rfl) rfl <| av rfl rfl <| eO <| ?_
     refine ifS hF (fun hc19 hF => ?_) (fun hc19 hF => ?_)
     · refine cT hc19 rfl <| bn hF fun r20 hr20 hF => bn hF fun r21 hr21 hF => bn hF fun r22 hr22 hF => ?_
       refine G.drawnI (deps := [[], [], [1], [1, 2], [], [4], [1, 2, 3, 4, 5], [1, 2, 3, 4, 5, 6], [0, 1, 2, 3, 4, 5, 6, 7], [0, 1, 2, 3, 4, 5, 6, 7, 8]]) (sl' := [(3, oS r22)]) (hp' := []) (.c (oP rfl rfl (op_move ev rfl)) (.c (oP rfl rfl (op_fieldP (off' := 1) uU rfl ti3 (by decide) rfl ev rfl)) (.c (oP rfl rfl (op_load1P uU rfl rfl ev rfl)) (.c (oP rfl rfl (op_callQ cf34 (ct_words_small _ _ hr20) rfl rfl (.cons qe .nil) rfl)) (.c (oP rfl rfl (op_fieldP (off' := 2) uU rfl ti3 (by decide) rfl ev rfl)) (.c (oP rfl rfl (op_load1P uU rfl rfl ev rfl)) (.c (oP rfl rfl (op_callQ cf34 (ct_words_small _ _ hr21) rfl rfl (.cons qe .nil) rfl)) (.c (oP rfl rfl (op_buildSlice (es := List.map encS [r20, r21]) uU ti9 rfl rfl (.cons ev (.cons ev .nil)) rfl rfl (by simp [encS]) rfl)) (.c (oP rfl rfl (op_callQ cf33 (ct_words_put _ _ _ hr22) rfl rfl (.cons qe (.cons qe .nil)) rfl)) (.c (oP rfl rfl (op_assign ev rfl)) .nil)))))))))) follows rfl rfl rfl ⟨⟨⟨rfl, rfl⟩, trivial⟩, trivial, ⟨rfl, trivial⟩, trivial, ⟨rfl, trivial⟩, ⟨⟨rfl, rfl⟩, trivial⟩, ⟨rfl, trivial⟩, trivial, ⟨rfl, trivial⟩, trivial, ⟨rfl, trivial⟩, ⟨⟨rfl, rfl⟩, trivial⟩, ⟨rfl, trivial⟩, trivial, ⟨rfl, rfl, trivial⟩, trivial, ⟨rfl, rfl, trivial⟩, trivial, ⟨rfl, trivial⟩, trivial, trivial⟩ ⟨rfl, trivial⟩ trivial rfl ?_
       refine eB <| ?_
       exact G.arr (J4 r22 hF) z1 trivial rfl
     refine cF hc19 rfl <| sr <| p10 (op_eqI ev (ec rfl) rfl) rfl <| av rfl rfl <| eO <| ?_
     refine ifS hF (fun hc23 hF => ?_) (fun hc23 hF => ?_)
     · refine cT hc23 rfl <| sr <| mv rfl rfl <| p10 (op_fieldP (off' := 1) uU rfl ti3 (by decide) rfl ev rfl) rfl <| p11 (op_load1P uU rfl rfl ev rfl) rfl rfl <| bn hF fun r24 hr24 hF => ?_
       refine p10 (op_callQ cf34 (ct_words_small _ _ hr24) rfl rfl (.cons qe .nil) rfl) rfl <| p10 (op_buildSlice (es := List.map encS [r24]) uU ti9 rfl rfl (.cons ev .nil) rfl rfl (by simp [encS]) rfl) rfl <| bn hF fun r25 hr25 hF => p20 (op_callQ cf33 (ct_words_put _ _ _ hr25) rfl rfl (.cons qe (.cons qe .nil)) rfl) rfl rfl <| av rfl rfl <| esr <| ?_
       refine p10 (op_fieldP (off' := 8) uU rfl ti24 (by decide) rfl ev rfl) rfl <| p11 (op_load1P uU rfl rfl ev rfl) rfl rfl <| p10 (op_lenM uU ev rfl) rfl <| p00 (op_move (ec rfl) rfl) <| eO <| ?_
       refine G.joinC (T := ByteArray) (fun y26 => ⟨[(3, oS y26)], []⟩) (fun y26 => words_line_k4 y26 = some r) (fun y26 hF => ?_) (fun J27 => ?_)
       · unfold words_line_k4 at hF
         refine eB <| ?_
         exact G.arr (J4 y26 hF) z1 trivial rfl
       refine bl <| ?_
       refine lF (fun (v28 : ByteArray × Int) => ⟨[(3, oS v28.1), (66, .one (.g (.d (.sl 1 (List.map encS o_0.Keys))))), (67, oI (o_0.Keys.length : Int)), (68, oI v28.2)], []⟩) hF z4 trivial rfl (fun K31 again30 v28 J29 hF => ?_)
       unfold words_line_l5 at hF
       refine sr <| p20 (op_lss ev ev rfl) rfl rfl <| eO <| sq <| ?_
       refine ifS hF (fun hc32 hF => ?_) (fun hc32 hF => ?_)
       · refine cT hc32 rfl <| sk <| sq <| bl <| sr <| bn hF fun x33 hx33 hF => ?_
         refine p20 (op_indexM hx33 uU ti9 ev ev rfl) rfl rfl <| p10 (op_load1E uU rfl rfl ev rfl) rfl <| av rfl rfl <| eO <| rg <| mv rfl rfl <| ?_
         refine mv rfl rfl <| bn hF fun r34 hr34 hF => p10 (op_callQ cf35 (ct_words_Quote _ _ hr34) rfl rfl (.cons qe .nil) rfl) rfl <| p10 (op_buildSlice (es := List.map encS [r34]) uU ti9 rfl rfl (.cons ev .nil) rfl rfl (by simp [encS]) rfl) rfl <| bn hF fun r35 hr35 hF => p20 (op_callQ cf33 (ct_words_put _ _ _ hr35) rfl rfl (.cons qe (.cons qe .nil)) rfl) rfl rfl <| ?_
         refine av rfl rfl <| eO <| eB <| rg <| p10 (op_add ev (ec rfl) rfl) rfl <| mv rfl rfl <| ?_
         refine eO <| ?_
         exact G.arr (J29 (r35, IntKind.wrap .i64 (v28.2 + 1)) hF) z4 trivial rfl
       refine cF hc32 rfl <| ex <| ?_
       refine GX.c ?_
       refine GX.q ?_
       refine xY <| ?_
       exact G.arr (J27 v28.1 hF) z1 trivial rfl
     refine cF hc23 rfl <| sr <| p10 (op_eqI ev (ec rfl) rfl) rfl <| av rfl rfl <| eO <| ?_
     refine ifS hF (fun hc36 hF => ?_) (fun hc36 hF => ?_)
     · refine cT hc36 rfl <| bn hF fun r37 hr37 hF => bn hF fun r38 hr38 hF => bn hF fun r39 hr39 hF => bn hF fun r40 hr40 hF => bn hF fun r41 hr41 hF => ?_
       refine G.drawnI (deps := [[], [], [1], [1, 2], [], [4], [1, 2, 3, 4, 5], [], [7], [1, 2, 3, 4, 5, 6, 7, 8], [], [10], [1, 2, 3, 4, 5, 6, 7, 8, 9, 10, 11], [1, 2, 3, 4, 5, 6, 7, 8, 9, 10, 11, 12], [0, 1, 2, 3, 4, 5, 6, 7, 8, 9, 10, 11, 12, 13], [0, 1, 2, 3, 4, 5, 6, 7, 8, 9, 10, 11, 12, 13, 14]]) (sl' := [(3, oS r41)]) (hp' := []) (.c (oP rfl rfl (op_move ev rfl)) (.c (oP rfl rfl (op_fieldP (off' := 2) uU rfl ti3 (by decide) rfl ev rfl)) (.c (oP rfl rfl (op_load1P uU rfl rfl ev rfl)) (.c (oP rfl rfl (op_callQ cf34 (ct_words_small _ _ hr37) rfl rfl (.cons qe .nil) rfl)) (.c (oP rfl rfl (op_fieldP (off' := 3) uU rfl ti3 (by decide) rfl ev rfl)) (.c (oP rfl rfl (op_load1P uU rfl rfl ev rfl)) (.c (oP rfl rfl (op_callQ cf34 (ct_words_small _ _ hr38) rfl rfl (.cons qe .nil) rfl)) (.c (oP rfl rfl (op_fieldP (off' := 4) uU rfl ti3 (by decide) rfl ev rfl)) (.c (oP rfl rfl (op_load1P uU rfl rfl ev rfl)) (.c (oP rfl rfl (op_callQ cf34 (ct_words_small _ _ hr39) rfl rfl (.cons qe .nil) rfl)) (.c (oP rfl rfl (op_fieldP (off' := 5) uU rfl ti3 (by decide) rfl ev rfl)) (.c (oP rfl rfl (op_load1P uU rfl rfl ev rfl)) (.c (oP rfl rfl (op_callQ cf34 (ct_words_small _ _ hr40) rfl rfl (.cons qe .nil) rfl)) (.c (oP rfl rfl (op_buildSlice (es := List.map encS [r37, r38, r39, r40]) uU ti9 rfl rfl (.cons ev (.cons ev (.cons ev (.cons ev .nil)))) rfl rfl (by simp [encS]) rfl)) (.c (oP rfl rfl (op_callQ cf33 (ct_words_put _ _ _ hr41) rfl rfl (.cons qe (.cons qe .nil)) rfl)) (.c (oP rfl rfl (op_assign ev rfl)) .nil)))))))))))))))) follows rfl rfl rfl ⟨⟨⟨rfl, rfl⟩, trivial⟩, trivial, ⟨rfl, trivial⟩, trivial, ⟨rfl, trivial⟩, ⟨⟨rfl, rfl⟩, trivial⟩, ⟨rfl, trivial⟩, trivial, ⟨rfl, trivial⟩, trivial, ⟨rfl, trivial⟩, ⟨⟨rfl, rfl⟩, trivial⟩, ⟨rfl, trivial⟩, trivial, ⟨rfl, trivial⟩, trivial, ⟨rfl, trivial⟩, ⟨⟨rfl, rfl⟩, trivial⟩, ⟨rfl, trivial⟩, trivial, ⟨rfl, trivial⟩, trivial, ⟨rfl, trivial⟩, ⟨⟨rfl, rfl⟩, trivial⟩, ⟨rfl, trivial⟩, trivial, ⟨rfl, rfl, rfl, rfl, trivial⟩, trivial, ⟨rfl, rfl, trivial⟩, trivial, ⟨rfl, trivial⟩, trivial, trivial⟩ ⟨rfl, trivial⟩ trivial rfl ?_
       refine eB <| ?_
       exact G.arr (J4 r41 hF) z1 trivial rfl
     refine cF hc36 rfl <| sr <| p10 (op_eqI ev (ec rfl) rfl) rfl <| av rfl rfl <| eO <| ?_
     refine ifS hF (fun hc42 hF => ?_) (fun hc42 hF => ?_)
     · refine cT hc42 rfl <| bn hF fun r43 hr43 hF => bn hF fun r44 hr44 hF => bn hF fun r45 hr45 hF => ?_
       refine G.drawnI (deps := [[], [], [1], [1, 2], [], [4], [1, 2, 3, 4, 5], [1, 2, 3, 4, 5, 6], [0, 1, 2, 3, 4, 5, 6, 7], [0, 1, 2, 3, 4, 5, 6, 7, 8]]) (sl' := [(3, oS r45)]) (hp' := []) (.c (oP rfl rfl (op_move ev rfl)) (.c (oP rfl rfl (op_fieldP (off' := 2) uU rfl ti3 (by decide) rfl ev rfl)) (.c (oP rfl rfl (op_load1P uU rfl rfl ev rfl)) (.c (oP rfl rfl (op_callQ cf34 (ct_words_small _ _ hr43) rfl rfl (.cons qe .nil) rfl)) (.c (oP rfl rfl (op_fieldP (off' := 3) uU rfl ti3 (by decide) rfl ev rfl)) (.c (oP rfl rfl (op_load1P uU rfl rfl ev rfl)) (.c (oP rfl rfl (op_callQ cf34 (ct_words_small _ _ hr44) rfl rfl (.cons qe .nil) rfl)) (.c (oP rfl rfl (op_buildSlice (es := List.map encS [r43, r44]) uU ti9 rfl rfl (.cons ev (.cons ev .nil)) rfl rfl (by simp [encS]) rfl)) (.c (oP rfl rfl (op_callQ cf33 (ct_words_put _ _ _ hr45) rfl rfl (.cons qe (.cons qe .nil)) rfl)) (.c (oP rfl rfl (op_assign ev rfl)) .nil)))))))))) follows rfl rfl rfl ⟨⟨⟨rfl, rfl⟩, trivial⟩, trivial, ⟨rfl, trivial⟩, trivial, ⟨rfl, trivial⟩, ⟨⟨rfl, rfl⟩, trivial⟩, ⟨rfl, trivial⟩, trivial, ⟨rfl, trivial⟩, trivial, ⟨rfl, trivial⟩, ⟨⟨rfl, rfl⟩, trivial⟩, ⟨rfl, trivial⟩, trivial, ⟨rfl, rfl, trivial⟩, trivial, ⟨rfl, rfl, trivial⟩, trivial, ⟨rfl, trivial⟩, trivial, trivial⟩ ⟨rfl, trivial⟩ trivial rfl ?_
       refine eB <| ?_
       exact G.arr (J4 r45 hF) z1 trivial rfl
     refine cF hc42 rfl <| sr <| p10 (op_eqI ev (ec rfl) rfl) rfl <| av rfl rfl <| eO <| ?_
     refine ifS hF (fun hc46 hF => ?_) (fun hc46 hF => ?_)
     · refine cT hc46 rfl <| rg <| mv rfl rfl <| p10 (op_fieldP (off' := 2) uU rfl ti3 (by decide) rfl ev rfl) rfl <| p11 (op_load1P uU rfl rfl ev rfl) rfl rfl <| bn hF fun r47 hr47 hF => ?_
       refine p10 (op_callQ cf34 (ct_words_small _ _ hr47) rfl rfl (.cons qe .nil) rfl) rfl <| p10 (op_buildSlice (es := List.map encS [r47]) uU ti9 rfl rfl (.cons ev .nil) rfl rfl (by simp [encS]) rfl) rfl <| bn hF fun r48 hr48 hF => p20 (op_callQ cf33 (ct_words_put _ _ _ hr48) rfl rfl (.cons qe (.cons qe .nil)) rfl) rfl rfl <| av rfl rfl <| eO <| ?_
       refine eB <| ?_
       exact G.arr (J4 r48 hF) z1 trivial rfl
     refine cF hc46 rfl <| sr <| p10 (op_eqI ev (ec rfl) rfl) rfl <| av rfl rfl <| eO <| ?_
     refine ifS hF (fun hc49 hF => ?_) (fun hc49 hF => ?_)
     · refine cT hc49 rfl <| rg <| mv rfl rfl <| p10 (op_fieldP (off' := 9) uU rfl ti28 (by decide) rfl ev rfl) rfl <| p11 (op_loadAP (ds := [.sl 2 (List.map encApi_Range o_0.Row.Ranges), .sl 1 (List.map encI_i64 o_0.Row.Owners), .sl 1 (List.map encI_i64 o_0.Row.Parents)]) uU rfl ti28 rfl ev rfl) rfl rfl <| bn hF fun r50 hr50 hF => ?_
       refine p20 (op_callQ cf36 (ct_words_rowLine _ _ _ hr50) rfl rfl (.cons qe (.cons qe .nil)) rfl) rfl rfl <| av rfl rfl <| eO <| eB <| ?_
       exact G.arr (J4 r50 hF) z1 trivial rfl
     refine cF hc49 rfl <| sk <| eB <| ?_
     exact G.arr (J4 r1 hF) z1 trivial rfl
   refine ifS hF (fun hc52 hF => ?_) (fun hc52 hF => ?_)
   · refine cT hc52 rfl <| sk <| ?_
     exact G.arr (J51 (decide (o_0.Kind = 4)) hF) z4 z1 rfl
   refine cF hc52 rfl <| rg <| p10 (op_eqI ev (ec rfl) rfl) rfl <| av rfl rfl <| eO <| ?_
   exact G.arr (J51 (decide (o_0.Kind = 7)) hF) z4 z1 rfl
 refine ifS hF (fun hc54 hF => ?_) (fun hc54 hF => ?_)
 · refine cT hc54 rfl <| sk <| ?_
   exact G.arr (J53 (decide (o_0.Kind = 2)) hF) z4 z1 rfl
 refine cF hc54 rfl <| rg <| p10 (op_eqI ev (ec rfl) rfl) rfl <| av rfl rfl <| eO <| ?_
 exact G.arr (J53 (decide (o_0.Kind = 3)) hF) z4 z1 rfl

end Go.Ark
