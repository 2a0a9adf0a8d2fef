/- Walks, printed by a program of mine: each function of the program computes the typed function of its name. Conditions: none. -/
import Derived.Test.YtfhlilpkgodilaaDoorFlib
import Derived.Test.YtfhlilpkgodilaaDoorFwords
import Derived.Test.YtfhlilpkgodilaaDoorFkeys
import Derived.Test.YtfhlilpkgodilaaDoorFwire
import Derived.Test.YtfhlilpkgodilaaDoorFvary
import Derived.Test.YtfhlilpkgodilaaDoorFscript
import Derived.Test.YtfhlilpkgodilaaDoorFlaw24
import Derived.Test.YtfhlilpkgodilaaDoorProg
import Derived.KernelRfl
import Derived.Shelf.RegionOpenPlain
import Derived.Lib.Walk
import Derived.Lib.Strings
import Derived.Laws.IdiomCopy
import Derived.Ground.NamesProg
import Derived.Shelf.Strings.SplitShaped
import Derived.Shelf.Strings.SlTrimAscii
import Derived.Shelf.Small.Strs
import Derived.Shelf.Unicode.ValidAny
namespace Go.Ark
open Go Go.Ab Go.RowKit Go.Lib Go.Proofs Go.Shelf



theorem follows : Tryd.prog.follows .mixedOrders = true := by kernel_rfl

def Tryd.lays137_ren : Go.Shelf.Ren := ⟨fun | 137 => 55 | 217 => 77 | 266 => 90 | n => n, fun | 9 => 9 | 5 => 5 | 3 => 3 | n => n, fun | n => n⟩
theorem Tryd.lays137 : Go.Proofs.Lays.n137 Tryd.prog Tryd.lays137_ren := {
  mixed := by kernel_rfl
  f137 := Tryd.func55.trans (congrArg some (by kernel_rfl))
  f217 := Tryd.func77.trans (congrArg some (by kernel_rfl))
  f266 := Tryd.func90.trans (congrArg some (by kernel_rfl))
  t3 := Tryd.underlying3
  a3 := Tryd.isAgg3
  z3 := Tryd.sizeOf3
  v3 := Tryd.zeroValue3
  t5 := Tryd.underlying5
  a5 := Tryd.isAgg5
  z5 := Tryd.sizeOf5
  v5 := Tryd.zeroValue5
  t9 := Tryd.underlying9
  a9 := Tryd.isAgg9
  z9 := Tryd.sizeOf9
  v9 := Tryd.zeroValue9 }

def Tryd.lays161_ren : Go.Shelf.Ren := ⟨fun | 161 => 26 | 231 => 50 | 227 => 51 | 233 => 52 | 235 => 53 | 228 => 73 | 197 => 74 | 151 => 75 | 260 => 88 | 152 => 89 | 137 => 55 | 119 => 98 | 224 => 95 | 225 => 94 | 217 => 77 | 266 => 90 | n => n, fun | 9 => 9 | 4 => 4 | 3 => 3 | 5 => 5 | 117 => 89 | 116 => 88 | 0 => 0 | 124 => 92 | 105 => 108 | 21 => 21 | 119 => 112 | 46 => 116 | 139 => 115 | 138 => 114 | n => n, fun | 3 => 0 | 4 => 1 | n => n⟩
theorem Tryd.lays161 : Go.Proofs.Lays.n161 Tryd.prog Tryd.lays161_ren := {
  mixed := by kernel_rfl
  f119 := Tryd.func98.trans (congrArg some (by kernel_rfl))
  f137 := Tryd.func55.trans (congrArg some (by kernel_rfl))
  f151 := Tryd.func75.trans (congrArg some (by kernel_rfl))
  f152 := Tryd.func89.trans (congrArg some (by kernel_rfl))
  f161 := Tryd.func26.trans (congrArg some (by kernel_rfl))
  f197 := Tryd.func74.trans (congrArg some (by kernel_rfl))
  f217 := Tryd.func77.trans (congrArg some (by kernel_rfl))
  f224 := Tryd.func95.trans (congrArg some (by kernel_rfl))
  f225 := Tryd.func94.trans (congrArg some (by kernel_rfl))
  f227 := Tryd.func51.trans (congrArg some (by kernel_rfl))
  f228 := Tryd.func73.trans (congrArg some (by kernel_rfl))
  f231 := Tryd.func50.trans (congrArg some (by kernel_rfl))
  f233 := Tryd.func52.trans (congrArg some (by kernel_rfl))
  f235 := Tryd.func53.trans (congrArg some (by kernel_rfl))
  f260 := Tryd.func88.trans (congrArg some (by kernel_rfl))
  f266 := Tryd.func90.trans (congrArg some (by kernel_rfl))
  t0 := Tryd.underlying0
  a0 := Tryd.isAgg0
  z0 := Tryd.sizeOf0
  v0 := Tryd.zeroValue0
  t3 := Tryd.underlying3
  a3 := Tryd.isAgg3
  z3 := Tryd.sizeOf3
  v3 := Tryd.zeroValue3
  t4 := Tryd.underlying4
  a4 := Tryd.isAgg4
  z4 := Tryd.sizeOf4
  v4 := Tryd.zeroValue4
  t5 := Tryd.underlying5
  a5 := Tryd.isAgg5
  z5 := Tryd.sizeOf5
  v5 := Tryd.zeroValue5
  t9 := Tryd.underlying9
  a9 := Tryd.isAgg9
  z9 := Tryd.sizeOf9
  v9 := Tryd.zeroValue9
  t21 := Tryd.underlying21
  a21 := Tryd.isAgg21
  z21 := Tryd.sizeOf21
  v21 := Tryd.zeroValue21
  t46 := Tryd.underlying116
  a46 := Tryd.isAgg116
  z46 := Tryd.sizeOf116
  v46 := Tryd.zeroValue116
  t105 := Tryd.underlying108
  a105 := Tryd.isAgg108
  z105 := Tryd.sizeOf108
  v105 := Tryd.zeroValue108
  t116 := Tryd.underlying88
  a116 := Tryd.isAgg88
  z116 := Tryd.sizeOf88
  t117 := Tryd.underlying89
  a117 := Tryd.isAgg89
  z117 := Tryd.sizeOf89
  v117 := Tryd.zeroValue89
  t119 := Tryd.underlying112
  a119 := Tryd.isAgg112
  z119 := Tryd.sizeOf112
  t124 := Tryd.underlying92
  a124 := Tryd.isAgg92
  z124 := Tryd.sizeOf92
  v124 := Tryd.zeroValue92
  t138 := Tryd.underlying114
  a138 := Tryd.isAgg114
  z138 := Tryd.sizeOf114
  v138 := Tryd.zeroValue114
  t139 := Tryd.underlying115
  a139 := Tryd.isAgg115
  z139 := Tryd.sizeOf115
  v139 := Tryd.zeroValue115
  g3 := by kernel_rfl
  g4 := by kernel_rfl }

def Tryd.lays146_ren : Go.Shelf.Ren := ⟨fun | 146 => 21 | 221 => 43 | 268 => 64 | 138 => 65 | 143 => 66 | 195 => 84 | 197 => 74 | 218 => 85 | 219 => 86 | 260 => 88 | 217 => 77 | 225 => 94 | 224 => 95 | 267 => 96 | 266 => 90 | 314 => 102 | n => n, fun | 9 => 9 | 31 => 24 | 3 => 3 | 4 => 4 | 0 => 0 | 105 => 108 | 21 => 21 | 5 => 5 | 46 => 116 | 119 => 112 | 139 => 115 | 138 => 114 | 146 => 128 | 51 => 127 | n => n, fun | 1 => 2 | 3 => 0 | 4 => 1 | n => n⟩
theorem Tryd.lays146 : Go.Proofs.LaysM.n146 Tryd.prog Tryd.lays146_ren := {
  mixed := by kernel_rfl
  f138 := Tryd.func65.trans (congrArg some (by kernel_rfl))
  f143 := Tryd.func66.trans (congrArg some (by kernel_rfl))
  f146 := Tryd.func21.trans (congrArg some (by kernel_rfl))
  f195 := Tryd.func84.trans (congrArg some (by kernel_rfl))
  f197 := Tryd.func74.trans (congrArg some (by kernel_rfl))
  f217 := Tryd.func77.trans (congrArg some (by kernel_rfl))
  f218 := Tryd.func85.trans (congrArg some (by kernel_rfl))
  f219 := Tryd.func86.trans (congrArg some (by kernel_rfl))
  f221 := Tryd.func43.trans (congrArg some (by kernel_rfl))
  f224 := Tryd.func95.trans (congrArg some (by kernel_rfl))
  f225 := Tryd.func94.trans (congrArg some (by kernel_rfl))
  f260 := Tryd.func88.trans (congrArg some (by kernel_rfl))
  f266 := Tryd.func90.trans (congrArg some (by kernel_rfl))
  f267 := Tryd.func96.trans (congrArg some (by kernel_rfl))
  f268 := Tryd.func64.trans (congrArg some (by kernel_rfl))
  f314 := Tryd.func102.trans (congrArg some (by kernel_rfl))
  t0 := Tryd.underlying0
  a0 := Tryd.isAgg0
  z0 := Tryd.sizeOf0
  v0 := Tryd.zeroValue0
  t3 := Tryd.underlying3
  a3 := Tryd.isAgg3
  z3 := Tryd.sizeOf3
  v3 := Tryd.zeroValue3
  t4 := Tryd.underlying4
  a4 := Tryd.isAgg4
  z4 := Tryd.sizeOf4
  v4 := Tryd.zeroValue4
  t5 := Tryd.underlying5
  a5 := Tryd.isAgg5
  z5 := Tryd.sizeOf5
  v5 := Tryd.zeroValue5
  t9 := Tryd.underlying9
  a9 := Tryd.isAgg9
  z9 := Tryd.sizeOf9
  v9 := Tryd.zeroValue9
  t21 := Tryd.underlying21
  a21 := Tryd.isAgg21
  z21 := Tryd.sizeOf21
  v21 := Tryd.zeroValue21
  t31 := Tryd.underlying24
  a31 := Tryd.isAgg24
  z31 := Tryd.sizeOf24
  v31 := Tryd.zeroValue24
  t46 := Tryd.underlying116
  a46 := Tryd.isAgg116
  z46 := Tryd.sizeOf116
  v46 := Tryd.zeroValue116
  t51 := Tryd.underlying127
  a51 := Tryd.isAgg127
  z51 := Tryd.sizeOf127
  v51 := Tryd.zeroValue127
  t105 := Tryd.underlying108
  a105 := Tryd.isAgg108
  z105 := Tryd.sizeOf108
  v105 := Tryd.zeroValue108
  t119 := Tryd.underlying112
  a119 := Tryd.isAgg112
  z119 := Tryd.sizeOf112
  t138 := Tryd.underlying114
  a138 := Tryd.isAgg114
  z138 := Tryd.sizeOf114
  v138 := Tryd.zeroValue114
  t139 := Tryd.underlying115
  a139 := Tryd.isAgg115
  z139 := Tryd.sizeOf115
  v139 := Tryd.zeroValue115
  t146 := Tryd.underlying128
  a146 := Tryd.isAgg128
  z146 := Tryd.sizeOf128
  v146 := Tryd.zeroValue128
  g1 := by kernel_rfl
  g3 := by kernel_rfl
  g4 := by kernel_rfl
  i0 := by kernel_rfl
  i3 := by kernel_rfl
  i4 := by kernel_rfl
  i5 := by kernel_rfl
  i9 := by kernel_rfl
  i21 := by kernel_rfl
  i31 := by kernel_rfl
  i46 := by kernel_rfl
  i51 := by kernel_rfl
  i105 := by kernel_rfl
  i138 := by kernel_rfl
  i139 := by kernel_rfl
  i146 := by kernel_rfl
  m1 := by kernel_rfl
  s1_3 := fun w h => Go.Proofs.cell_of_shapedOpen_int (zero := #[.int .i64 0]) (t := 3) h (of_decide_eq_true (by kernel_rfl)) (by kernel_rfl) rfl (by kernel_rfl) (by kernel_rfl) Tryd.underlying3
  m3 := by kernel_rfl
  m4 := by kernel_rfl }

def Tryd.lays196_ren : Go.Shelf.Ren := ⟨fun | 196 => 54 | 259 => 76 | n => n, fun | 9 => 9 | 4 => 4 | 3 => 3 | 5 => 5 | 12 => 12 | 119 => 112 | 0 => 0 | 46 => 116 | 139 => 115 | 138 => 114 | 53 => 97 | n => n, fun | 3 => 0 | 4 => 1 | n => n⟩
theorem Tryd.lays196 : Go.Proofs.Lays.n196 Tryd.prog Tryd.lays196_ren := {
  mixed := by kernel_rfl
  f196 := Tryd.func54.trans (congrArg some (by kernel_rfl))
  f259 := Tryd.func76.trans (congrArg some (by kernel_rfl))
  t0 := Tryd.underlying0
  a0 := Tryd.isAgg0
  z0 := Tryd.sizeOf0
  v0 := Tryd.zeroValue0
  t3 := Tryd.underlying3
  a3 := Tryd.isAgg3
  z3 := Tryd.sizeOf3
  v3 := Tryd.zeroValue3
  t4 := Tryd.underlying4
  a4 := Tryd.isAgg4
  z4 := Tryd.sizeOf4
  v4 := Tryd.zeroValue4
  t5 := Tryd.underlying5
  a5 := Tryd.isAgg5
  z5 := Tryd.sizeOf5
  v5 := Tryd.zeroValue5
  t9 := Tryd.underlying9
  a9 := Tryd.isAgg9
  z9 := Tryd.sizeOf9
  v9 := Tryd.zeroValue9
  t12 := Tryd.underlying12
  a12 := Tryd.isAgg12
  z12 := Tryd.sizeOf12
  v12 := Tryd.zeroValue12
  t46 := Tryd.underlying116
  a46 := Tryd.isAgg116
  z46 := Tryd.sizeOf116
  v46 := Tryd.zeroValue116
  t53 := Tryd.underlying97
  a53 := Tryd.isAgg97
  z53 := Tryd.sizeOf97
  v53 := Tryd.zeroValue97
  t119 := Tryd.underlying112
  a119 := Tryd.isAgg112
  z119 := Tryd.sizeOf112
  t138 := Tryd.underlying114
  a138 := Tryd.isAgg114
  z138 := Tryd.sizeOf114
  v138 := Tryd.zeroValue114
  t139 := Tryd.underlying115
  a139 := Tryd.isAgg115
  z139 := Tryd.sizeOf115
  v139 := Tryd.zeroValue115
  g3 := by kernel_rfl
  g4 := by kernel_rfl }

abbrev Γ0 : World → Prop := GL 2 0 1

theorem cf10 : CallF Tryd.prog 10 := fun args w => Tryd.call10 args w

theorem cf100 : CallF Tryd.prog 100 := fun args w => Tryd.call100 args w

theorem cf103 : CallF Tryd.prog 103 := fun args w => Tryd.call103 args w

theorem cf11 : CallF Tryd.prog 11 := fun args w => Tryd.call11 args w

theorem cf14 : CallF Tryd.prog 14 := fun args w => Tryd.call14 args w

theorem cf15 : CallF Tryd.prog 15 := fun args w => Tryd.call15 args w

theorem cf16 : CallF Tryd.prog 16 := fun args w => Tryd.call16 args w

theorem cf17 : CallF Tryd.prog 17 := fun args w => Tryd.call17 args w

theorem cf18 : CallF Tryd.prog 18 := fun args w => Tryd.call18 args w

theorem cf19 : CallF Tryd.prog 19 := fun args w => Tryd.call19 args w

theorem cf20 : CallF Tryd.prog 20 := fun args w => Tryd.call20 args w

theorem cf21 : CallF Tryd.prog 21 := fun args w => Tryd.call21 args w

theorem cf22 : CallF Tryd.prog 22 := fun args w => Tryd.call22 args w

theorem cf23 : CallF Tryd.prog 23 := fun args w => Tryd.call23 args w

theorem cf25 : CallF Tryd.prog 25 := fun args w => Tryd.call25 args w

theorem cf26 : CallF Tryd.prog 26 := fun args w => Tryd.call26 args w

theorem cf27 : CallF Tryd.prog 27 := fun args w => Tryd.call27 args w

theorem cf28 : CallF Tryd.prog 28 := fun args w => Tryd.call28 args w

theorem cf29 : CallF Tryd.prog 29 := fun args w => Tryd.call29 args w

theorem cf30 : CallF Tryd.prog 30 := fun args w => Tryd.call30 args w

theorem cf31 : CallF Tryd.prog 31 := fun args w => Tryd.call31 args w

theorem cf32 : CallF Tryd.prog 32 := fun args w => Tryd.call32 args w

theorem cf33 : CallF Tryd.prog 33 := fun args w => Tryd.call33 args w

theorem cf34 : CallF Tryd.prog 34 := fun args w => Tryd.call34 args w

theorem cf35 : CallF Tryd.prog 35 := fun args w => Tryd.call35 args w

theorem cf36 : CallF Tryd.prog 36 := fun args w => Tryd.call36 args w

theorem cf37 : CallF Tryd.prog 37 := fun args w => Tryd.call37 args w

theorem cf38 : CallF Tryd.prog 38 := fun args w => Tryd.call38 args w

theorem cf39 : CallF Tryd.prog 39 := fun args w => Tryd.call39 args w

theorem cf40 : CallF Tryd.prog 40 := fun args w => Tryd.call40 args w

theorem cf41 : CallF Tryd.prog 41 := fun args w => Tryd.call41 args w

theorem cf44 : CallF Tryd.prog 44 := fun args w => Tryd.call44 args w

theorem cf45 : CallF Tryd.prog 45 := fun args w => Tryd.call45 args w

theorem cf46 : CallF Tryd.prog 46 := fun args w => Tryd.call46 args w

theorem cf47 : CallF Tryd.prog 47 := fun args w => Tryd.call47 args w

theorem cf48 : CallF Tryd.prog 48 := fun args w => Tryd.call48 args w

theorem cf54 : CallF Tryd.prog 54 := fun args w => Tryd.call54 args w

theorem cf55 : CallF Tryd.prog 55 := fun args w => Tryd.call55 args w

theorem cf56 : CallF Tryd.prog 56 := fun args w => Tryd.call56 args w

theorem cf57 : CallF Tryd.prog 57 := fun args w => Tryd.call57 args w

theorem cf58 : CallF Tryd.prog 58 := fun args w => Tryd.call58 args w

theorem cf59 : CallF Tryd.prog 59 := fun args w => Tryd.call59 args w

theorem cf60 : CallF Tryd.prog 60 := fun args w => Tryd.call60 args w

theorem cf61 : CallF Tryd.prog 61 := fun args w => Tryd.call61 args w

theorem cf62 : CallF Tryd.prog 62 := fun args w => Tryd.call62 args w

theorem cf67 : CallF Tryd.prog 67 := fun args w => Tryd.call67 args w

theorem cf68 : CallF Tryd.prog 68 := fun args w => Tryd.call68 args w

theorem cf69 : CallF Tryd.prog 69 := fun args w => Tryd.call69 args w

theorem cf7 : CallF Tryd.prog 7 := fun args w => Tryd.call7 args w

theorem cf78 : CallF Tryd.prog 78 := fun args w => Tryd.call78 args w

theorem cf79 : CallF Tryd.prog 79 := fun args w => Tryd.call79 args w

theorem cf80 : CallF Tryd.prog 80 := fun args w => Tryd.call80 args w

theorem cf81 : CallF Tryd.prog 81 := fun args w => Tryd.call81 args w

theorem cf82 : CallF Tryd.prog 82 := fun args w => Tryd.call82 args w

theorem cf83 : CallF Tryd.prog 83 := fun args w => Tryd.call83 args w

theorem cf87 : CallF Tryd.prog 87 := fun args w => Tryd.call87 args w

theorem cf9 : CallF Tryd.prog 9 := fun args w => Tryd.call9 args w

theorem cf91 : CallF Tryd.prog 91 := fun args w => Tryd.call91 args w

theorem cf92 : CallF Tryd.prog 92 := fun args w => Tryd.call92 args w

theorem cf97 : CallF Tryd.prog 97 := fun args w => Tryd.call97 args w

theorem cf99 : CallF Tryd.prog 99 := fun args w => Tryd.call99 args w

theorem ti24 : Info Tryd.prog 24 (.slice none 0 0) 1 24 := Info.of (by kernel_rfl)

theorem ti25 : Info Tryd.prog 25 (.slice none 0 0) 1 24 := Info.of (by kernel_rfl)

theorem ti26 : Info Tryd.prog 26 (.slice none 0 0) 1 24 := Info.of (by kernel_rfl)

theorem ti28 : Info Tryd.prog 28 (.agg #[.slice none 0 0, .slice none 0 0, .slice none 0 0]) 3 72 := Info.of (by kernel_rfl)

theorem ti3 : Info Tryd.prog 3 (.int .i64 0) 1 8 := Info.of (by kernel_rfl)

theorem ti30 : Info Tryd.prog 30 (.agg #[.int .i64 0, .int .i64 0, .int .i64 0, .int .i64 0, .int .i64 0, .int .i64 0, .string ByteArray.empty, .string ByteArray.empty, .slice none 0 0, .slice none 0 0, .slice none 0 0, .slice none 0 0]) 12 176 := Info.of (by kernel_rfl)

theorem ti4 : Info Tryd.prog 4 (.bool false) 1 1 := Info.of (by kernel_rfl)

theorem ti43 : Info Tryd.prog 43 (.agg #[.string ByteArray.empty, .string ByteArray.empty, .string ByteArray.empty, .string ByteArray.empty, .string ByteArray.empty, .string ByteArray.empty, .string ByteArray.empty, .string ByteArray.empty]) 8 128 := Info.of (by kernel_rfl)

theorem ti44 : Info Tryd.prog 44 (.agg #[.string ByteArray.empty, .string ByteArray.empty, .string ByteArray.empty, .string ByteArray.empty]) 4 64 := Info.of (by kernel_rfl)

theorem ti48 : Info Tryd.prog 48 (.agg #[.string ByteArray.empty, .string ByteArray.empty]) 2 32 := Info.of (by kernel_rfl)

theorem ti5 : Info Tryd.prog 5 (.int .u8 0) 1 1 := Info.of (by kernel_rfl)

theorem ti54 : Info Tryd.prog 54 (.agg #[.pointer none, .slice none 0 0]) 2 32 := Info.of (by kernel_rfl)

theorem ti82 : Info Tryd.prog 82 (.agg #[.slice none 0 0, .bool false]) 2 32 := Info.of (by kernel_rfl)

theorem ti9 : Info Tryd.prog 9 (.string ByteArray.empty) 1 16 := Info.of (by kernel_rfl)

theorem ti97 : Info Tryd.prog 97 (.int .u64 0) 1 8 := Info.of (by kernel_rfl)

theorem pl30 (fs : Array Field) (h : Tryd.prog.underlying 30 = some (.struct fs)) : Places Tryd.prog fs #[(0, 1), (1, 1), (2, 1), (3, 1), (4, 1), (5, 1), (6, 1), (7, 1), (8, 1), (9, 3)] := fun w => by rw [Tryd.underlying30] at h; cases h; simp [Tryd.sizeOf24, Tryd.sizeOf28, Tryd.sizeOf3, Tryd.sizeOf9]

theorem pl48 (fs : Array Field) (h : Tryd.prog.underlying 48 = some (.struct fs)) : Places Tryd.prog fs #[(0, 1), (1, 1)] := fun w => by rw [Tryd.underlying48] at h; cases h; simp [Tryd.sizeOf9]

theorem pl82 (fs : Array Field) (h : Tryd.prog.underlying 82 = some (.struct fs)) : Places Tryd.prog fs #[(0, 1), (1, 1)] := fun w => by rw [Tryd.underlying82] at h; cases h; simp [Tryd.sizeOf24, Tryd.sizeOf4]

set_option maxRecDepth 20000 in
set_option maxHeartbeats 2000000 in
theorem ct_strings_Split (s_0 : ByteArray) (sep_1 : ByteArray) (r : (List ByteArray)) (hF : strings_Split s_0 sep_1 = some r) : CtG Tryd.prog Γ0 21 [.g (.d (.v (.string s_0))), .g (.d (.v (.string sep_1)))] (.one (.d (.sl 1 (List.map encS r)))) := by
  unfold strings_Split at hF
  split at hF
  · rename_i hc
    cases hF
    have hlen := Lib.splitB_all sep_1 hc.2 0 _ s_0 rfl
    have hle := Lib.countB_le sep_1 hc.2 s_0.size s_0 (Nat.le_refl _)
    refine CtG.texts (T := 9) (GL.ok _ _ _) [.string s_0, .string sep_1] rfl (by rw [hlen]; unfold maxLen; omega) fun w hg => ?_
    obtain ⟨m, hm⟩ := hg.1
    rw [hlen]
    exact Any.strings_Split { Tryd.lays146 with } Tryd.lays146.i9 s_0 sep_1 m w hc.1 hm hc.2
  · cases hF


set_option maxRecDepth 20000 in
set_option maxHeartbeats 2000000 in
theorem ct_strings_TrimLeft (s_0 : ByteArray) (cutset_1 : ByteArray) (r : ByteArray) (hF : strings_TrimLeft s_0 cutset_1 = some r) : Ct Tryd.prog 26 [.g (.d (.v (.string s_0))), .g (.d (.v (.string cutset_1)))] (.one (.d (.v (.string r)))) := by
  unfold strings_TrimLeft at hF
  split at hF
  · rename_i hc
    cases hF
    exact Ct.pure [.string s_0, .string cutset_1] rfl rfl fun w => Any.strings_TrimLeft_laid Tryd.lays161 (by kernel_rfl) s_0 cutset_1 w hc.1 (fun j b hj => of_decide_eq_true (List.all_eq_true.1 hc.2 b (List.mem_of_getElem? hj)))
  · cases hF


set_option maxRecDepth 20000 in
set_option maxHeartbeats 2000000 in
theorem ct_words_silent (line_0 : ByteArray) (r : Bool) (hF : words_silent line_0 = some r) : Ct Tryd.prog 22 [.g (.d (.v (.string line_0)))] (.one (.d (.v (.bool r)))) := by
  unfold words_silent at hF
  refine Ct.intro Tryd.func22 rfl Tryd.ntmps22 rfl rfl fun M w => ?_
  refine G.seq ?_
  refine G.region ?_
  refine G.op1 (op_assign (Ev.c _ rfl) rfl) rfl trivial trivial ?_
  refine G.endOps ?_
  refine G.seq ?_
  refine G.region ?_
  refine G.op1 (op_move (Ev.t 0 (bS line_0)) rfl) rfl ⟨rfl, trivial⟩ trivial ?_
  obtain ⟨r1, hr1, hF⟩ := bindS hF
  refine G.op1 (op_callQ (sv := .one (bS r1)) cf26 (ct_strings_TrimLeft line_0 (ByteArray.mk #[32, 9]) r1 hr1) rfl rfl (EvQL.cons (EvQ.g (Ev.t 3 (bS line_0))) (EvQL.cons (EvQ.g (Ev.c _ rfl)) EvQL.nil)) rfl) rfl ⟨rfl, trivial⟩ trivial ?_
  refine G.op1 (op_assign (Ev.t 4 (bS r1)) rfl) rfl ⟨rfl, trivial⟩ trivial ?_
  refine G.endOps ?_
  refine G.seq ?_
  refine G.region ?_
  refine G.op1 (op_move (Ev.t 0 (bS r1)) rfl) rfl ⟨rfl, trivial⟩ trivial ?_
  refine G.op1 (op_eqS (Ev.t 5 (bS r1)) (Ev.c _ rfl) rfl) rfl ⟨rfl, trivial⟩ trivial ?_
  refine G.op1 (op_move (Ev.t 6 (bB (seq r1 ByteArray.empty))) rfl) rfl ⟨rfl, trivial⟩ trivial ?_
  refine ifS hF (fun hc2 hF => ?_) (fun hc2 hF => ?_)
  · refine G.known (t := 7) hc2 rfl ?_
    refine G.opN1 rfl rfl rfl rfl rfl ?_
    refine G.opN1 rfl rfl rfl rfl rfl ?_
    refine G.opN1 rfl rfl rfl rfl rfl ?_
    refine G.op1 (op_pickT (Ev.t 7 (bB true)) (Ev.c _ rfl) rfl) rfl ⟨rfl, trivial⟩ trivial ?_
    refine G.op1 (op_assign (Ev.t 11 (bB true)) rfl) rfl ⟨rfl, trivial⟩ trivial ?_
    refine G.endOps ?_
    cases hF
    exact G.ret1 Tryd.results22 (RVar.tmp 2 _) ⟨rfl, trivial⟩ trivial
  · refine G.known (t := 7) hc2 rfl ?_
    refine G.opG1 (op_move (Ev.t 0 (bS r1)) rfl) rfl rfl rfl ⟨rfl, trivial⟩ trivial ?_
    obtain ⟨b3, hb3, hF⟩ := bindS hF
    refine G.opG1 (op_indexS Tryd.underlying9 (sidx_ok hb3).1 (sidx_ok hb3).2 (Ev.t 8 (bS r1)) (Ev.c _ rfl) rfl) rfl rfl rfl ⟨rfl, trivial⟩ trivial ?_
    refine G.opG1 (op_eqI (Ev.t 9 (bI .u8 (b3.toNat : Int))) (Ev.c _ rfl) rfl) rfl rfl rfl ⟨rfl, trivial⟩ trivial ?_
    refine G.op1 (op_pickF (Ev.t 7 (bB false)) (Ev.t 10 (bB (decide ((b3.toNat : Int) = 35)))) rfl) rfl ⟨rfl, rfl, trivial⟩ trivial ?_
    refine G.op1 (op_assign (Ev.t 11 (bB (decide ((b3.toNat : Int) = 35)))) rfl) rfl ⟨rfl, trivial⟩ trivial ?_
    refine G.endOps ?_
    cases hF
    exact G.ret1 Tryd.results22 (RVar.tmp 2 _) ⟨rfl, trivial⟩ trivial


set_option maxRecDepth 20000 in
set_option maxHeartbeats 2000000 in
theorem ct_unicode_utf8_ValidString (s_0 : ByteArray) (r : Bool) (hF : unicode_utf8_ValidString s_0 = some r) : CtG Tryd.prog Γ0 54 [.g (.d (.v (.string s_0)))] (.one (.d (.v (.bool r)))) := by
  unfold unicode_utf8_ValidString at hF
  split at hF
  · rename_i hc
    cases hF
    exact CtG.pure (GL.ok _ _ _) [.string s_0] rfl rfl fun w hg => Any.utf8_ValidString Tryd.lays196 s_0 w hc hg.2
  · cases hF


set_option maxRecDepth 20000 in
set_option maxHeartbeats 2000000 in
theorem ct_words_bare (s_0 : ByteArray) (r : (ByteArray × Int)) (hF : words_bare s_0 = some r) : CtG Tryd.prog Γ0 27 [.g (.d (.v (.string s_0)))] (.tup [.d (.v (.string r.1)), .d (.v (.int .i64 r.2))]) := by
  unfold words_bare at hF
  refine CtG.intro (GL.ok _ _ _) Tryd.func27 rfl Tryd.ntmps27 rfl rfl fun M w hG => ?_
  refine G.seq ?_
  refine G.region ?_
  refine G.op1 (op_assign (Ev.c _ rfl) rfl) rfl trivial trivial ?_
  refine G.op1 (op_assign (Ev.c _ rfl) rfl) rfl trivial trivial ?_
  refine G.endOps ?_
  refine G.scope ?_
  refine G.seq ?_
  refine G.region ?_
  refine G.op1 (op_move (Ev.t 0 (bS s_0)) rfl) rfl ⟨rfl, trivial⟩ trivial ?_
  refine G.op1 (op_lenS Tryd.underlying9 (Ev.t 7 (bS s_0)) rfl) rfl ⟨rfl, trivial⟩ trivial ?_
  refine G.op1 (op_assign (Ev.t 8 (bI .i64 (s_0.size : Int))) rfl) rfl ⟨rfl, trivial⟩ trivial ?_
  refine G.endOps ?_
  refine G.seq ?_
  refine G.label ?_
  refine G.seq ?_
  refine G.seq ?_
  refine G.region ?_
  refine G.op1 (op_move (Ev.t 0 (bS s_0)) rfl) rfl ⟨rfl, trivial⟩ trivial ?_
  refine G.op2 (op_range (k := 1010) Tryd.underlying9 (Ev.t 9 (bS s_0)) rfl) rfl ⟨rfl, trivial⟩ ⟨rfl, trivial⟩ ?_
  refine G.endOps ?_
  refine G.joinC (T := Int) (fun y1 => ⟨[(0, .one (bS s_0)), (4, .one (bI .i64 y1))], []⟩) (fun y1 => words_bare_k1 s_0 y1 = some r) (fun y1 hF => ?_) (fun J6 => ?_)
  · unfold words_bare_k1 at hF
    refine G.seq ?_
    refine G.seq ?_
    refine G.region ?_
    refine G.op1 (op_move (Ev.t 0 (bS s_0)) rfl) rfl ⟨rfl, trivial⟩ trivial ?_
    refine G.op1 (op_move (Ev.t 4 (bI .i64 y1)) rfl) rfl ⟨rfl, trivial⟩ trivial ?_
    obtain ⟨s2, hs2, hF⟩ := bindS hF
    refine G.op1 (OpL.cast (op_sliceS (lo := none) (hi := some y1) Tryd.underlying9 (ssub_ok hs2).1 (ssub_ok hs2).2.1 (ssub_ok hs2).2.2.1 (Ev.t 34 (bS s_0)) EvO.none (EvO.some (Ev.t 35 (bI .i64 y1))) rfl) (congrArg (fun s => bS s) (ssub_ok hs2).2.2.2)) rfl ⟨rfl, rfl, trivial⟩ trivial ?_
    obtain ⟨r3, hr3, hF⟩ := bindS hF
    refine G.op1 (op_callQG (sv := .one (bB r3)) hG cf54 (ct_unicode_utf8_ValidString s2 r3 hr3) rfl rfl (EvQL.cons (EvQ.g (Ev.t 36 (bS s2))) EvQL.nil) rfl) rfl ⟨rfl, trivial⟩ trivial ?_
    refine G.op1 (op_not (Ev.t 37 (bB r3)) rfl) rfl ⟨rfl, trivial⟩ trivial ?_
    refine G.endOps ?_
    refine ifS hF (fun hc4 hF => ?_) (fun hc4 hF => ?_)
    · refine G.cond rfl (fun _ => ?_) (fun hx => Bool.noConfusion (hc4.symm.trans hx))
      refine G.seq ?_
      refine G.region ?_
      refine G.op1 (op_assign (Ev.c _ rfl) rfl) rfl trivial trivial ?_
      refine G.op1 (op_assign (Ev.c _ rfl) rfl) rfl trivial trivial ?_
      refine G.endOps ?_
      cases hF
      exact G.ret2 Tryd.results27 (RVar.tmp 2 _) (RVar.tmp 3 _) ⟨rfl, rfl, trivial⟩ trivial
    · refine G.cond rfl (fun hx => Bool.noConfusion (hc4.symm.trans hx)) (fun _ => ?_)
      refine G.skip ?_
      refine G.seq ?_
      refine G.region ?_
      refine G.op1 (op_move (Ev.t 0 (bS s_0)) rfl) rfl ⟨rfl, trivial⟩ trivial ?_
      refine G.op1 (op_move (Ev.t 4 (bI .i64 y1)) rfl) rfl ⟨rfl, trivial⟩ trivial ?_
      obtain ⟨s5, hs5, hF⟩ := bindS hF
      refine G.op1 (OpL.cast (op_sliceS (lo := none) (hi := some y1) Tryd.underlying9 (ssub_ok hs5).1 (ssub_ok hs5).2.1 (ssub_ok hs5).2.2.1 (Ev.t 39 (bS s_0)) EvO.none (EvO.some (Ev.t 40 (bI .i64 y1))) rfl) (congrArg (fun s => bS s) (ssub_ok hs5).2.2.2)) rfl ⟨rfl, rfl, trivial⟩ trivial ?_
      refine G.op1 (op_move (Ev.t 4 (bI .i64 y1)) rfl) rfl ⟨rfl, trivial⟩ trivial ?_
      refine G.op1 (op_assign (Ev.t 41 (bS s5)) rfl) rfl ⟨rfl, trivial⟩ trivial ?_
      refine G.op1 (op_assign (Ev.t 42 (bI .i64 y1)) rfl) rfl ⟨rfl, trivial⟩ trivial ?_
      refine G.endOps ?_
      cases hF
      exact G.ret2 Tryd.results27 (RVar.tmp 2 _) (RVar.tmp 3 _) ⟨rfl, rfl, trivial⟩ trivial
  refine G.block ?_
  refine G.keep (sl' := [(0, .one (bS s_0)), (4, .one (bI .i64 (s_0.size : Int))), (10, .one (.ptr 1010 0))]) (hp' := [(1010, some (.it s_0 0))]) ⟨rfl, rfl, rfl, trivial⟩ ⟨rfl, trivial⟩ rfl ?_
  refine G.loopF (fun (v7 : Nat) => ⟨[(0, .one (bS s_0)), (4, .one (bI .i64 (s_0.size : Int))), (10, .one (.ptr 1010 0))], [(1010, some (.it s_0 v7))]⟩) hF rfl (fun K10 again9 v7 J8 hF => ?_)
  unfold words_bare_l2 at hF
  refine G.seq ?_
  refine G.region ?_
  refine ifS hF (fun hc11 hF => ?_) (fun hc11 hF => ?_)
  · refine G.op2 (op_nextT hc11 (Ev.t 10 (.ptr 1010 0)) rfl) rfl ⟨rfl, trivial⟩ ⟨rfl, trivial⟩ ?_
    refine G.op1 (op_extract (l := [bB true, bI .i64 (v7 : Int), bI .i32 ((Utf8.decode s_0 v7).1 : Int)]) (c := bB true) rfl rfl) rfl ⟨rfl, trivial⟩ trivial ?_
    refine G.endOps ?_
    refine G.seq ?_
    refine G.condT rfl ?_
    refine G.skip ?_
    refine G.block ?_
    refine G.seq ?_
    refine G.region ?_
    refine G.op1 (op_extract (l := [bB true, bI .i64 (v7 : Int), bI .i32 ((Utf8.decode s_0 v7).1 : Int)]) (c := bI .i64 (v7 : Int)) rfl rfl) rfl ⟨rfl, trivial⟩ trivial ?_
    refine G.op1 (op_extract (l := [bB true, bI .i64 (v7 : Int), bI .i32 ((Utf8.decode s_0 v7).1 : Int)]) (c := bI .i32 ((Utf8.decode s_0 v7).1 : Int)) rfl rfl) rfl ⟨rfl, trivial⟩ trivial ?_
    refine G.op1 (op_assign (Ev.t 13 (bI .i64 (v7 : Int))) rfl) rfl ⟨rfl, trivial⟩ trivial ?_
    refine G.op1 (op_assign (Ev.t 14 (bI .i32 ((Utf8.decode s_0 v7).1 : Int))) rfl) rfl ⟨rfl, trivial⟩ trivial ?_
    refine G.endOps ?_
    refine G.block ?_
    refine G.seq ?_
    refine G.joinC (T := Bool × Nat) (fun y12 => ⟨[(0, .one (bS s_0)), (4, .one (bI .i64 (s_0.size : Int))), (5, .one (bI .i64 (v7 : Int))), (6, .one (bI .i32 ((Utf8.decode s_0 v7).1 : Int))), (10, .one (.ptr 1010 0)), (15, .one (bB y12.1))], [(1010, some (.it s_0 y12.2))]⟩) (fun y12 => words_bare_k3 s_0 again9 v7 y12 = some r) (fun y12 hF => ?_) (fun J17 => ?_)
    · unfold words_bare_k3 at hF
      refine ifS hF (fun hc13 hF => ?_) (fun hc13 hF => ?_)
      · refine G.cond rfl (fun _ => ?_) (fun hx => Bool.noConfusion (hc13.symm.trans hx))
        refine G.seq ?_
        refine G.region ?_
        refine G.op1 (op_move (Ev.t 5 (bI .i64 (v7 : Int))) rfl) rfl ⟨rfl, trivial⟩ trivial ?_
        refine G.op1 (op_assign (Ev.t 22 (bI .i64 (v7 : Int))) rfl) rfl ⟨rfl, trivial⟩ trivial ?_
        refine G.endOps ?_
        refine G.exit ?_
        refine GX.bNo rfl ?_
        refine GX.bNo rfl ?_
        refine GX.q ?_
        refine GX.bYes ?_
        exact G.arr (J6 (v7 : Int) hF) ⟨rfl, rfl, trivial⟩ trivial rfl
      · refine G.cond rfl (fun hx => Bool.noConfusion (hc13.symm.trans hx)) (fun _ => ?_)
        refine G.seq ?_
        refine G.region ?_
        refine G.op1 (op_move (Ev.t 6 (bI .i32 ((Utf8.decode s_0 v7).1 : Int))) rfl) rfl ⟨rfl, trivial⟩ trivial ?_
        refine G.op1 (op_lss (Ev.t 24 (bI .i32 ((Utf8.decode s_0 v7).1 : Int))) (Ev.c _ rfl) rfl) rfl ⟨rfl, trivial⟩ trivial ?_
        refine G.op1 (op_move (Ev.t 25 (bB (decide (((Utf8.decode s_0 v7).1 : Int) < 32)))) rfl) rfl ⟨rfl, trivial⟩ trivial ?_
        refine ifS hF (fun hc14 hF => ?_) (fun hc14 hF => ?_)
        · refine G.known (t := 26) hc14 rfl ?_
          refine G.opN1 rfl rfl rfl rfl rfl ?_
          refine G.opN1 rfl rfl rfl rfl rfl ?_
          refine G.op1 (op_pickT (Ev.t 26 (bB true)) (Ev.c _ rfl) rfl) rfl ⟨rfl, trivial⟩ trivial ?_
          refine G.op1 (op_move (Ev.t 29 (bB true)) rfl) rfl ⟨rfl, trivial⟩ trivial ?_
          refine G.opN1 rfl rfl rfl rfl rfl ?_
          refine G.opN1 rfl rfl rfl rfl rfl ?_
          refine G.op1 (op_pickT (Ev.t 30 (bB true)) (Ev.c _ rfl) rfl) rfl ⟨rfl, trivial⟩ trivial ?_
          refine G.op1 (op_assign (Ev.t 33 (bB true)) rfl) rfl ⟨rfl, trivial⟩ trivial ?_
          refine G.endOps ?_
          refine G.condT rfl ?_
          refine G.seq ?_
          refine G.region ?_
          refine G.op1 (op_assign (Ev.c _ rfl) rfl) rfl trivial trivial ?_
          refine G.op1 (op_assign (Ev.c _ rfl) rfl) rfl trivial trivial ?_
          refine G.endOps ?_
          cases hF
          exact G.ret2 Tryd.results27 (RVar.tmp 2 _) (RVar.tmp 3 _) ⟨rfl, rfl, trivial⟩ trivial
        · refine G.known (t := 26) hc14 rfl ?_
          refine G.opG1 (op_move (Ev.t 6 (bI .i32 ((Utf8.decode s_0 v7).1 : Int))) rfl) rfl rfl rfl ⟨rfl, trivial⟩ trivial ?_
          refine G.opG1 (op_eqI (Ev.t 27 (bI .i32 ((Utf8.decode s_0 v7).1 : Int))) (Ev.c _ rfl) rfl) rfl rfl rfl ⟨rfl, trivial⟩ trivial ?_
          refine G.op1 (op_pickF (Ev.t 26 (bB false)) (Ev.t 28 (bB (decide (((Utf8.decode s_0 v7).1 : Int) = 127)))) rfl) rfl ⟨rfl, rfl, trivial⟩ trivial ?_
          refine G.op1 (op_move (Ev.t 29 (bB (decide (((Utf8.decode s_0 v7).1 : Int) = 127)))) rfl) rfl ⟨rfl, trivial⟩ trivial ?_
          refine ifS hF (fun hc15 hF => ?_) (fun hc15 hF => ?_)
          · refine G.known (t := 30) hc15 rfl ?_
            refine G.opN1 rfl rfl rfl rfl rfl ?_
            refine G.opN1 rfl rfl rfl rfl rfl ?_
            refine G.op1 (op_pickT (Ev.t 30 (bB true)) (Ev.c _ rfl) rfl) rfl ⟨rfl, trivial⟩ trivial ?_
            refine G.op1 (op_assign (Ev.t 33 (bB true)) rfl) rfl ⟨rfl, trivial⟩ trivial ?_
            refine G.endOps ?_
            refine G.condT rfl ?_
            refine G.seq ?_
            refine G.region ?_
            refine G.op1 (op_assign (Ev.c _ rfl) rfl) rfl trivial trivial ?_
            refine G.op1 (op_assign (Ev.c _ rfl) rfl) rfl trivial trivial ?_
            refine G.endOps ?_
            cases hF
            exact G.ret2 Tryd.results27 (RVar.tmp 2 _) (RVar.tmp 3 _) ⟨rfl, rfl, trivial⟩ trivial
          · refine G.known (t := 30) hc15 rfl ?_
            refine G.opG1 (op_move (Ev.t 6 (bI .i32 ((Utf8.decode s_0 v7).1 : Int))) rfl) rfl rfl rfl ⟨rfl, trivial⟩ trivial ?_
            refine G.opG1 (op_eqI (Ev.t 31 (bI .i32 ((Utf8.decode s_0 v7).1 : Int))) (Ev.c _ rfl) rfl) rfl rfl rfl ⟨rfl, trivial⟩ trivial ?_
            refine G.op1 (op_pickF (Ev.t 30 (bB false)) (Ev.t 32 (bB (decide (((Utf8.decode s_0 v7).1 : Int) = 34)))) rfl) rfl ⟨rfl, rfl, trivial⟩ trivial ?_
            refine G.op1 (op_assign (Ev.t 33 (bB (decide (((Utf8.decode s_0 v7).1 : Int) = 34)))) rfl) rfl ⟨rfl, trivial⟩ trivial ?_
            refine G.endOps ?_
            refine ifS hF (fun hc16 hF => ?_) (fun hc16 hF => ?_)
            · refine G.cond rfl (fun _ => ?_) (fun hx => Bool.noConfusion (hc16.symm.trans hx))
              refine G.seq ?_
              refine G.region ?_
              refine G.op1 (op_assign (Ev.c _ rfl) rfl) rfl trivial trivial ?_
              refine G.op1 (op_assign (Ev.c _ rfl) rfl) rfl trivial trivial ?_
              refine G.endOps ?_
              cases hF
              exact G.ret2 Tryd.results27 (RVar.tmp 2 _) (RVar.tmp 3 _) ⟨rfl, rfl, trivial⟩ trivial
            · refine G.cond rfl (fun hx => Bool.noConfusion (hc16.symm.trans hx)) (fun _ => ?_)
              refine G.skip ?_
              refine G.endBlock ?_
              refine G.endBlock ?_
              exact G.arr (J8 y12.2 hF) ⟨rfl, rfl, rfl, trivial⟩ ⟨rfl, trivial⟩ rfl
    refine G.region ?_
    refine G.op1 (op_move (Ev.t 6 (bI .i32 ((Utf8.decode s_0 v7).1 : Int))) rfl) rfl ⟨rfl, trivial⟩ trivial ?_
    refine G.op1 (op_eqI (Ev.t 16 (bI .i32 ((Utf8.decode s_0 v7).1 : Int))) (Ev.c _ rfl) rfl) rfl ⟨rfl, trivial⟩ trivial ?_
    refine G.op1 (op_move (Ev.t 17 (bB (decide (((Utf8.decode s_0 v7).1 : Int) = 32)))) rfl) rfl ⟨rfl, trivial⟩ trivial ?_
    refine ifS hF (fun hc18 hF => ?_) (fun hc18 hF => ?_)
    · refine G.known (t := 18) hc18 rfl ?_
      refine G.opN1 rfl rfl rfl rfl rfl ?_
      refine G.opN1 rfl rfl rfl rfl rfl ?_
      refine G.op1 (op_pickT (Ev.t 18 (bB true)) (Ev.c _ rfl) rfl) rfl ⟨rfl, trivial⟩ trivial ?_
      refine G.op1 (op_assign (Ev.t 21 (bB true)) rfl) rfl ⟨rfl, trivial⟩ trivial ?_
      refine G.endOps ?_
      exact G.arr (J17 (true, v7 + (Utf8.decode s_0 v7).2) hF) ⟨rfl, rfl, rfl, rfl, rfl, rfl, trivial⟩ ⟨rfl, trivial⟩ rfl
    · refine G.known (t := 18) hc18 rfl ?_
      refine G.opG1 (op_move (Ev.t 6 (bI .i32 ((Utf8.decode s_0 v7).1 : Int))) rfl) rfl rfl rfl ⟨rfl, trivial⟩ trivial ?_
      refine G.opG1 (op_eqI (Ev.t 19 (bI .i32 ((Utf8.decode s_0 v7).1 : Int))) (Ev.c _ rfl) rfl) rfl rfl rfl ⟨rfl, trivial⟩ trivial ?_
      refine G.op1 (op_pickF (Ev.t 18 (bB false)) (Ev.t 20 (bB (decide (((Utf8.decode s_0 v7).1 : Int) = 9)))) rfl) rfl ⟨rfl, rfl, trivial⟩ trivial ?_
      refine G.op1 (op_assign (Ev.t 21 (bB (decide (((Utf8.decode s_0 v7).1 : Int) = 9)))) rfl) rfl ⟨rfl, trivial⟩ trivial ?_
      refine G.endOps ?_
      exact G.arr (J17 (decide (((Utf8.decode s_0 v7).1 : Int) = 9), v7 + (Utf8.decode s_0 v7).2) hF) ⟨rfl, rfl, rfl, rfl, rfl, rfl, trivial⟩ ⟨rfl, trivial⟩ rfl
  · refine G.op1 (op_nextF hc11 (Ev.t 10 (.ptr 1010 0)) rfl) rfl ⟨rfl, trivial⟩ ⟨rfl, trivial⟩ ?_
    refine G.op1 (op_extract (l := [bB false]) (c := bB false) rfl rfl) rfl ⟨rfl, trivial⟩ trivial ?_
    refine G.endOps ?_
    refine G.seq ?_
    refine G.condF rfl ?_
    refine G.exit ?_
    refine GX.c ?_
    refine GX.q ?_
    refine GX.bYes ?_
    exact G.arr (J6 (s_0.size : Int) hF) ⟨rfl, rfl, trivial⟩ trivial rfl


set_option maxRecDepth 20000 in
set_option maxHeartbeats 2000000 in
theorem ct_strings_IndexByte (s_0 : ByteArray) (c_1 : Int) (r : Int) (hF : strings_IndexByte s_0 c_1 = some r) : Ct Tryd.prog 55 [.g (.d (.v (.string s_0))), .g (.d (.v (.int .u8 c_1)))] (.one (.d (.v (.int .i64 r)))) := by
  cases hF
  exact Ct.pure [.string s_0, .int .u8 c_1] rfl rfl fun w => (Any.strings_IndexByte Tryd.lays137 s_0 c_1 w).mono fun e w1 ⟨h1, h2⟩ => ⟨h1, h2 ▸ Below.refl _ _⟩


set_option maxRecDepth 20000 in
set_option maxHeartbeats 2000000 in
theorem ct_words_plain (c_0 : Int) (r : Bool) (hF : words_plain c_0 = some r) : Ct Tryd.prog 25 [.g (.d (.v (.int .u8 c_0)))] (.one (.d (.v (.bool r)))) := by
  unfold words_plain at hF
  refine Ct.intro Tryd.func25 rfl Tryd.ntmps25 rfl rfl fun M w => ?_
  refine G.seq ?_
  refine G.region ?_
  refine G.op1 (op_assign (Ev.c _ rfl) rfl) rfl trivial trivial ?_
  refine G.endOps ?_
  refine G.seq ?_
  refine G.region ?_
  refine G.op1 (op_move (Ev.t 0 (bI .u8 c_0)) rfl) rfl ⟨rfl, trivial⟩ trivial ?_
  refine G.op1 (op_geq (Ev.t 3 (bI .u8 c_0)) (Ev.c _ rfl) rfl) rfl ⟨rfl, trivial⟩ trivial ?_
  refine G.op1 (op_move (Ev.t 4 (bB (decide (32 ≤ c_0)))) rfl) rfl ⟨rfl, trivial⟩ trivial ?_
  refine G.joinL (T := Bool) 3 (fun y1 => ⟨[(0, .one (bI .u8 c_0)), (8, .one (bB y1))], []⟩) (fun y1 => words_plain_k1 c_0 y1 = some r) (fun y1 hF => ?_) (fun J4 => ?_)
  · unfold words_plain_k1 at hF
    refine G.op1 (op_move (Ev.t 8 (bB y1)) rfl) rfl ⟨rfl, trivial⟩ trivial ?_
    refine ifS hF (fun hc2 hF => ?_) (fun hc2 hF => ?_)
    · refine G.known (t := 9) hc2 rfl ?_
      refine G.opG1 (op_move (Ev.t 0 (bI .u8 c_0)) rfl) rfl rfl rfl ⟨rfl, trivial⟩ trivial ?_
      refine G.opG1 (op_neI (Ev.t 10 (bI .u8 c_0)) (Ev.c _ rfl) rfl) rfl rfl rfl ⟨rfl, trivial⟩ trivial ?_
      refine G.op1 (op_pickT (Ev.t 9 (bB true)) (Ev.t 11 (bB (!decide (c_0 = 34)))) rfl) rfl ⟨rfl, rfl, trivial⟩ trivial ?_
      refine G.op1 (op_move (Ev.t 12 (bB (!decide (c_0 = 34)))) rfl) rfl ⟨rfl, trivial⟩ trivial ?_
      refine ifS hF (fun hc3 hF => ?_) (fun hc3 hF => ?_)
      · refine G.known (t := 13) hc3 rfl ?_
        refine G.opG1 (op_move (Ev.t 0 (bI .u8 c_0)) rfl) rfl rfl rfl ⟨rfl, trivial⟩ trivial ?_
        refine G.opG1 (op_neI (Ev.t 14 (bI .u8 c_0)) (Ev.c _ rfl) rfl) rfl rfl rfl ⟨rfl, trivial⟩ trivial ?_
        refine G.op1 (op_pickT (Ev.t 13 (bB true)) (Ev.t 15 (bB (!decide (c_0 = 92)))) rfl) rfl ⟨rfl, rfl, trivial⟩ trivial ?_
        refine G.op1 (op_assign (Ev.t 16 (bB (!decide (c_0 = 92)))) rfl) rfl ⟨rfl, trivial⟩ trivial ?_
        refine G.endOps ?_
        cases hF
        exact G.ret1 Tryd.results25 (RVar.tmp 2 _) ⟨rfl, trivial⟩ trivial
      · refine G.known (t := 13) hc3 rfl ?_
        refine G.opN1 rfl rfl rfl rfl rfl ?_
        refine G.opN1 rfl rfl rfl rfl rfl ?_
        refine G.op1 (op_pickF (Ev.t 13 (bB false)) (Ev.c _ rfl) rfl) rfl ⟨rfl, trivial⟩ trivial ?_
        refine G.op1 (op_assign (Ev.t 16 (bB false)) rfl) rfl ⟨rfl, trivial⟩ trivial ?_
        refine G.endOps ?_
        cases hF
        exact G.ret1 Tryd.results25 (RVar.tmp 2 _) ⟨rfl, trivial⟩ trivial
    · refine G.known (t := 9) hc2 rfl ?_
      refine G.opN1 rfl rfl rfl rfl rfl ?_
      refine G.opN1 rfl rfl rfl rfl rfl ?_
      refine G.op1 (op_pickF (Ev.t 9 (bB false)) (Ev.c _ rfl) rfl) rfl ⟨rfl, trivial⟩ trivial ?_
      refine G.op1 (op_move (Ev.t 12 (bB false)) rfl) rfl ⟨rfl, trivial⟩ trivial ?_
      refine G.opN1 rfl rfl rfl rfl rfl ?_
      refine G.opN1 rfl rfl rfl rfl rfl ?_
      refine G.op1 (op_pickF (Ev.t 13 (bB false)) (Ev.c _ rfl) rfl) rfl ⟨rfl, trivial⟩ trivial ?_
      refine G.op1 (op_assign (Ev.t 16 (bB false)) rfl) rfl ⟨rfl, trivial⟩ trivial ?_
      refine G.endOps ?_
      cases hF
      exact G.ret1 Tryd.results25 (RVar.tmp 2 _) ⟨rfl, trivial⟩ trivial
  refine ifS hF (fun hc5 hF => ?_) (fun hc5 hF => ?_)
  · refine G.known (t := 5) hc5 rfl ?_
    refine G.opG1 (op_move (Ev.t 0 (bI .u8 c_0)) rfl) rfl rfl rfl ⟨rfl, trivial⟩ trivial ?_
    refine G.opG1 (op_leq (Ev.t 6 (bI .u8 c_0)) (Ev.c _ rfl) rfl) rfl rfl rfl ⟨rfl, trivial⟩ trivial ?_
    refine G.op1 (op_pickT (Ev.t 5 (bB true)) (Ev.t 7 (bB (decide (c_0 ≤ 126)))) rfl) rfl ⟨rfl, rfl, trivial⟩ trivial ?_
    exact G.arr (J4 (decide (c_0 ≤ 126)) hF) ⟨rfl, rfl, trivial⟩ trivial rfl
  · refine G.known (t := 5) hc5 rfl ?_
    refine G.opN1 rfl rfl rfl rfl rfl ?_
    refine G.opN1 rfl rfl rfl rfl rfl ?_
    refine G.op1 (op_pickF (Ev.t 5 (bB false)) (Ev.c _ rfl) rfl) rfl ⟨rfl, trivial⟩ trivial ?_
    exact G.arr (J4 false hF) ⟨rfl, rfl, trivial⟩ trivial rfl


set_option maxRecDepth 20000 in
set_option maxHeartbeats 2000000 in
theorem ct_words_quoted (s_0 : ByteArray) (r : (ByteArray × Int)) (hF : words_quoted s_0 = some r) : Ct Tryd.prog 28 [.g (.d (.v (.string s_0)))] (.tup [.d (.v (.string r.1)), .d (.v (.int .i64 r.2))]) := by
  unfold words_quoted at hF
  refine Ct.intro Tryd.func28 rfl Tryd.ntmps28 rfl rfl fun M w => ?_
  refine G.seq ?_
  refine G.region ?_
  refine G.op1 (op_assign (Ev.c _ rfl) rfl) rfl trivial trivial ?_
  refine G.op1 (op_assign (Ev.c _ rfl) rfl) rfl trivial trivial ?_
  refine G.endOps ?_
  refine G.seq ?_
  refine G.region ?_
  refine G.op2 (op_buildRowN (kk := 2009) (ex := false) (es := List.map encI_u8 [34]) Tryd.underlying46 ti5 rfl rfl rfl (EvP.cons (Ev.c _ rfl) EvP.nil) rfl rfl (by simp [encI_u8]) rfl) rfl trivial ⟨rfl, trivial⟩ ?_
  refine G.op1 (op_assign (Ev.t 9 (.own 2009 (List.map encI_u8 ([34])))) rfl) rfl ⟨rfl, trivial⟩ trivial ?_
  refine G.endOps ?_
  refine G.seq ?_
  refine G.seq ?_
  refine G.region ?_
  refine G.op1 (op_assign (Ev.c _ rfl) rfl) rfl trivial trivial ?_
  refine G.endOps ?_
  refine G.joinC (T := Unit) (fun y1 => ⟨[], []⟩) (fun y1 => words_quoted_k1 y1 = some r) (fun y1 hF => ?_) (fun J2 => ?_)
  · unfold words_quoted_k1 at hF
    refine G.seq ?_
    refine G.region ?_
    refine G.op1 (op_assign (Ev.c _ rfl) rfl) rfl trivial trivial ?_
    refine G.op1 (op_assign (Ev.c _ rfl) rfl) rfl trivial trivial ?_
    refine G.endOps ?_
    cases hF
    exact G.ret2 Tryd.results28 (RVar.tmp 2 _) (RVar.tmp 3 _) ⟨rfl, rfl, trivial⟩ trivial
  refine G.block ?_
  refine G.keep (sl' := [(0, .one (bS s_0)), (4, .one (.own 2009 (List.map encI_u8 ([34])))), (5, .one (bI .i64 1))]) (hp' := [(2009, some (.row 5 1 (List.map encI_u8 ([34])) false))]) ⟨rfl, rfl, rfl, trivial⟩ ⟨rfl, trivial⟩ rfl ?_
  refine G.loopF (fun (v3 : Int × (List Int)) => ⟨[(0, .one (bS s_0)), (4, .one (.own 2009 (List.map encI_u8 v3.2))), (5, .one (bI .i64 v3.1))], [(2009, some (.row 5 1 (List.map encI_u8 v3.2) false))]⟩) hF rfl (fun K6 again5 v3 J4 hF => ?_)
  unfold words_quoted_l2 at hF
  refine G.seq ?_
  refine G.seq ?_
  refine G.region ?_
  refine G.op1 (op_move (Ev.t 5 (bI .i64 v3.1)) rfl) rfl ⟨rfl, trivial⟩ trivial ?_
  refine G.op1 (op_move (Ev.t 0 (bS s_0)) rfl) rfl ⟨rfl, trivial⟩ trivial ?_
  refine G.op1 (op_lenS Tryd.underlying9 (Ev.t 11 (bS s_0)) rfl) rfl ⟨rfl, trivial⟩ trivial ?_
  refine G.op1 (op_lss (Ev.t 10 (bI .i64 v3.1)) (Ev.t 12 (bI .i64 (s_0.size : Int))) rfl) rfl ⟨rfl, rfl, trivial⟩ trivial ?_
  refine G.endOps ?_
  refine ifS hF (fun hc7 hF => ?_) (fun hc7 hF => ?_)
  · refine G.cond rfl (fun _ => ?_) (fun hx => Bool.noConfusion (hc7.symm.trans hx))
    refine G.skip ?_
    refine G.block ?_
    refine G.seq ?_
    refine G.region ?_
    refine G.op1 (op_move (Ev.t 0 (bS s_0)) rfl) rfl ⟨rfl, trivial⟩ trivial ?_
    refine G.op1 (op_move (Ev.t 5 (bI .i64 v3.1)) rfl) rfl ⟨rfl, trivial⟩ trivial ?_
    obtain ⟨b8, hb8, hF⟩ := bindS hF
    refine G.op1 (op_indexS Tryd.underlying9 (sidx_ok hb8).1 (sidx_ok hb8).2 (Ev.t 14 (bS s_0)) (Ev.t 15 (bI .i64 v3.1)) rfl) rfl ⟨rfl, rfl, trivial⟩ trivial ?_
    refine G.op1 (op_assign (Ev.t 16 (bI .u8 (b8.toNat : Int))) rfl) rfl ⟨rfl, trivial⟩ trivial ?_
    refine G.endOps ?_
    refine G.block ?_
    refine G.seq ?_
    refine G.region ?_
    refine G.op1 (op_move (Ev.t 6 (bI .u8 (b8.toNat : Int))) rfl) rfl ⟨rfl, trivial⟩ trivial ?_
    refine G.op1 (op_eqI (Ev.t 18 (bI .u8 (b8.toNat : Int))) (Ev.c _ rfl) rfl) rfl ⟨rfl, trivial⟩ trivial ?_
    refine G.op1 (op_assign (Ev.t 19 (bB (decide ((b8.toNat : Int) = 34)))) rfl) rfl ⟨rfl, trivial⟩ trivial ?_
    refine G.endOps ?_
    refine ifS hF (fun hc9 hF => ?_) (fun hc9 hF => ?_)
    · refine G.cond rfl (fun _ => ?_) (fun hx => Bool.noConfusion (hc9.symm.trans hx))
      refine G.seq ?_
      refine G.seq ?_
      refine G.joinC (T := Bool) (fun y10 => ⟨[(4, .one (.own 2009 (List.map encI_u8 v3.2))), (5, .one (bI .i64 v3.1)), (32, .one (bB y10))], [(2009, some (.row 5 1 (List.map encI_u8 v3.2) false))]⟩) (fun y10 => words_quoted_k3 v3 y10 = some r) (fun y10 hF => ?_) (fun J12 => ?_)
      · unfold words_quoted_k3 at hF
        refine ifS hF (fun hc11 hF => ?_) (fun hc11 hF => ?_)
        · refine G.cond rfl (fun _ => ?_) (fun hx => Bool.noConfusion (hc11.symm.trans hx))
          refine G.seq ?_
          refine G.region ?_
          refine G.op1 (op_assign (Ev.c _ rfl) rfl) rfl trivial trivial ?_
          refine G.op1 (op_assign (Ev.c _ rfl) rfl) rfl trivial trivial ?_
          refine G.endOps ?_
          cases hF
          exact G.ret2 Tryd.results28 (RVar.tmp 2 _) (RVar.tmp 3 _) ⟨rfl, rfl, trivial⟩ trivial
        · refine G.cond rfl (fun hx => Bool.noConfusion (hc11.symm.trans hx)) (fun _ => ?_)
          refine G.skip ?_
          refine G.seq ?_
          refine G.region ?_
          refine G.op1 (op_move (Ev.t 4 (.own 2009 (List.map encI_u8 v3.2))) rfl) rfl ⟨rfl, trivial⟩ trivial ?_
          refine G.view (t := 33) rfl rfl ?_
          refine G.op1 (op_toText (ns := v3.2) Tryd.underlying46 Tryd.underlying5 Tryd.underlying9 rfl (Ev.t 33 (.g (.d (.sl 1 (List.map encI_u8 v3.2))))) rfl) rfl ⟨rfl, trivial⟩ trivial ?_
          refine G.op1 (op_move (Ev.t 5 (bI .i64 v3.1)) rfl) rfl ⟨rfl, trivial⟩ trivial ?_
          refine G.op1 (op_add (Ev.t 35 (bI .i64 v3.1)) (Ev.c _ rfl) rfl) rfl ⟨rfl, trivial⟩ trivial ?_
          refine G.op1 (op_assign (Ev.t 34 (bS (bytesOf v3.2))) rfl) rfl ⟨rfl, trivial⟩ trivial ?_
          refine G.op1 (op_assign (Ev.t 36 (bI .i64 (IntKind.wrap .i64 (v3.1 + 1)))) rfl) rfl ⟨rfl, trivial⟩ trivial ?_
          refine G.endOps ?_
          cases hF
          exact G.ret2 Tryd.results28 (RVar.tmp 2 _) (RVar.tmp 3 _) ⟨rfl, rfl, trivial⟩ trivial
      refine G.region ?_
      refine G.op1 (op_move (Ev.t 5 (bI .i64 v3.1)) rfl) rfl ⟨rfl, trivial⟩ trivial ?_
      refine G.op1 (op_add (Ev.t 20 (bI .i64 v3.1)) (Ev.c _ rfl) rfl) rfl ⟨rfl, trivial⟩ trivial ?_
      refine G.op1 (op_move (Ev.t 0 (bS s_0)) rfl) rfl ⟨rfl, trivial⟩ trivial ?_
      refine G.op1 (op_lenS Tryd.underlying9 (Ev.t 22 (bS s_0)) rfl) rfl ⟨rfl, trivial⟩ trivial ?_
      refine G.op1 (op_lss (Ev.t 21 (bI .i64 (IntKind.wrap .i64 (v3.1 + 1)))) (Ev.t 23 (bI .i64 (s_0.size : Int))) rfl) rfl ⟨rfl, rfl, trivial⟩ trivial ?_
      refine G.op1 (op_move (Ev.t 24 (bB (decide ((IntKind.wrap .i64 (v3.1 + 1)) < (s_0.size : Int))))) rfl) rfl ⟨rfl, trivial⟩ trivial ?_
      refine ifS hF (fun hc13 hF => ?_) (fun hc13 hF => ?_)
      · refine G.known (t := 25) hc13 rfl ?_
        refine G.opG1 (op_move (Ev.t 0 (bS s_0)) rfl) rfl rfl rfl ⟨rfl, trivial⟩ trivial ?_
        refine G.opG1 (op_move (Ev.t 5 (bI .i64 v3.1)) rfl) rfl rfl rfl ⟨rfl, trivial⟩ trivial ?_
        refine G.opG1 (op_add (Ev.t 27 (bI .i64 v3.1)) (Ev.c _ rfl) rfl) rfl rfl rfl ⟨rfl, trivial⟩ trivial ?_
        obtain ⟨b14, hb14, hF⟩ := bindS hF
        refine G.opG1 (op_indexS Tryd.underlying9 (sidx_ok hb14).1 (sidx_ok hb14).2 (Ev.t 26 (bS s_0)) (Ev.t 28 (bI .i64 (IntKind.wrap .i64 (v3.1 + 1)))) rfl) rfl rfl rfl ⟨rfl, rfl, trivial⟩ trivial ?_
        obtain ⟨r15, hr15, hF⟩ := bindS hF
        refine G.opG1 (op_callQ (sv := .one (bI .i64 r15)) cf55 (ct_strings_IndexByte (ByteArray.mk #[32, 9]) (b14.toNat : Int) r15 hr15) rfl rfl (EvQL.cons (EvQ.g (Ev.c _ rfl)) (EvQL.cons (EvQ.g (Ev.t 29 (bI .u8 (b14.toNat : Int)))) EvQL.nil)) rfl) rfl rfl rfl ⟨rfl, trivial⟩ trivial ?_
        refine G.opG1 (op_lss (Ev.t 30 (bI .i64 r15)) (Ev.c _ rfl) rfl) rfl rfl rfl ⟨rfl, trivial⟩ trivial ?_
        refine G.op1 (op_pickT (Ev.t 25 (bB true)) (Ev.t 31 (bB (decide (r15 < 0)))) rfl) rfl ⟨rfl, rfl, trivial⟩ trivial ?_
        refine G.endOps ?_
        exact G.arr (J12 (decide (r15 < 0)) hF) ⟨rfl, rfl, rfl, trivial⟩ ⟨rfl, trivial⟩ rfl
      · refine G.known (t := 25) hc13 rfl ?_
        refine G.opN1 rfl rfl rfl rfl rfl ?_
        refine G.opN1 rfl rfl rfl rfl rfl ?_
        refine G.opN1 rfl rfl rfl rfl rfl ?_
        refine G.opN1 rfl rfl rfl rfl rfl ?_
        refine G.opN1 rfl rfl rfl rfl rfl ?_
        refine G.opN1 rfl rfl rfl rfl rfl ?_
        refine G.op1 (op_pickF (Ev.t 25 (bB false)) (Ev.c _ rfl) rfl) rfl ⟨rfl, trivial⟩ trivial ?_
        refine G.endOps ?_
        exact G.arr (J12 false hF) ⟨rfl, rfl, rfl, trivial⟩ ⟨rfl, trivial⟩ rfl
    · refine G.cond rfl (fun hx => Bool.noConfusion (hc9.symm.trans hx)) (fun _ => ?_)
      refine G.seq ?_
      refine G.joinC (T := Bool) (fun y16 => ⟨[(0, .one (bS s_0)), (4, .one (.own 2009 (List.map encI_u8 v3.2))), (5, .one (bI .i64 v3.1)), (6, .one (bI .u8 (b8.toNat : Int))), (37, .one (bB y16))], [(2009, some (.row 5 1 (List.map encI_u8 v3.2) false))]⟩) (fun y16 => words_quoted_k4 s_0 again5 v3 b8 y16 = some r) (fun y16 hF => ?_) (fun J30 => ?_)
      · unfold words_quoted_k4 at hF
        refine ifS hF (fun hc17 hF => ?_) (fun hc17 hF => ?_)
        · refine G.cond rfl (fun _ => ?_) (fun hx => Bool.noConfusion (hc17.symm.trans hx))
          refine G.seq ?_
          obtain ⟨b18, hb18, hF⟩ := bindS hF
          obtain ⟨r19, hr19, hF⟩ := bindS hF
          obtain ⟨b20, hb20, hF⟩ := bindS hF
          obtain ⟨r21, hr21, hF⟩ := bindS hF
          refine G.drawnI (deps := [[], [], [1], [0, 1, 2], [0, 1, 2, 3], [], [], [6], [5, 6, 7], [0, 1, 2, 3, 4, 5, 6, 7, 8], [0, 1, 2, 3, 4, 5, 6, 7, 8, 9], [0, 1, 2, 3, 4, 5, 6, 7, 8, 9, 10]]) (sl' := [(0, .one (bS s_0)), (4, .one (.own 2009 (List.map encI_u8 v3.2))), (5, .one (bI .i64 v3.1)), (7, .one (bI .i64 r19)), (8, .one (bI .i64 r21))]) (hp' := [(2009, some (.row 5 1 (List.map encI_u8 v3.2) false))]) (.c (oP rfl rfl (op_move (Ev.t 0 (bS s_0)) rfl)) (.c (oP rfl rfl (op_move (Ev.t 5 (bI .i64 v3.1)) rfl)) (.c (oP rfl rfl (op_add (Ev.t 48 (bI .i64 v3.1)) (Ev.c _ rfl) rfl)) (.c (oP rfl rfl (op_indexS Tryd.underlying9 (sidx_ok hb18).1 (sidx_ok hb18).2 (Ev.t 47 (bS s_0)) (Ev.t 49 (bI .i64 (IntKind.wrap .i64 (v3.1 + 1)))) rfl)) (.c (oP rfl rfl (op_callQ (sv := .one (bI .i64 r19)) cf55 (ct_strings_IndexByte (ByteArray.mk #[48, 49, 50, 51, 52, 53, 54, 55, 56, 57, 97, 98, 99, 100, 101, 102]) (b18.toNat : Int) r19 hr19) rfl rfl (EvQL.cons (EvQ.g (Ev.c _ rfl)) (EvQL.cons (EvQ.g (Ev.t 50 (bI .u8 (b18.toNat : Int)))) EvQL.nil)) rfl)) (.c (oP rfl rfl (op_move (Ev.t 0 (bS s_0)) rfl)) (.c (oP rfl rfl (op_move (Ev.t 5 (bI .i64 v3.1)) rfl)) (.c (oP rfl rfl (op_add (Ev.t 53 (bI .i64 v3.1)) (Ev.c _ rfl) rfl)) (.c (oP rfl rfl (op_indexS Tryd.underlying9 (sidx_ok hb20).1 (sidx_ok hb20).2 (Ev.t 52 (bS s_0)) (Ev.t 54 (bI .i64 (IntKind.wrap .i64 (v3.1 + 2)))) rfl)) (.c (oP rfl rfl (op_callQ (sv := .one (bI .i64 r21)) cf55 (ct_strings_IndexByte (ByteArray.mk #[48, 49, 50, 51, 52, 53, 54, 55, 56, 57, 97, 98, 99, 100, 101, 102]) (b20.toNat : Int) r21 hr21) rfl rfl (EvQL.cons (EvQ.g (Ev.c _ rfl)) (EvQL.cons (EvQ.g (Ev.t 55 (bI .u8 (b20.toNat : Int)))) EvQL.nil)) rfl)) (.c (oP rfl rfl (op_assign (Ev.t 51 (bI .i64 r19)) rfl)) (.c (oP rfl rfl (op_assign (Ev.t 56 (bI .i64 r21)) rfl)) .nil)))))))))))) follows rfl rfl rfl ⟨⟨rfl, trivial⟩, trivial, ⟨rfl, trivial⟩, trivial, ⟨rfl, trivial⟩, trivial, ⟨rfl, rfl, trivial⟩, trivial, ⟨rfl, trivial⟩, trivial, ⟨rfl, trivial⟩, trivial, ⟨rfl, trivial⟩, trivial, ⟨rfl, trivial⟩, trivial, ⟨rfl, rfl, trivial⟩, trivial, ⟨rfl, trivial⟩, trivial, ⟨rfl, trivial⟩, trivial, ⟨rfl, trivial⟩, trivial, trivial⟩ ⟨rfl, rfl, rfl, rfl, rfl, trivial⟩ ⟨rfl, trivial⟩ rfl ?_
          refine G.seq ?_
          refine G.seq ?_
          refine G.joinC (T := Bool) (fun y22 => ⟨[(0, .one (bS s_0)), (4, .one (.own 2009 (List.map encI_u8 v3.2))), (5, .one (bI .i64 v3.1)), (7, .one (bI .i64 r19)), (8, .one (bI .i64 r21)), (62, .one (bB y22))], [(2009, some (.row 5 1 (List.map encI_u8 v3.2) false))]⟩) (fun y22 => words_quoted_k5 again5 v3 r19 r21 y22 = some r) (fun y22 hF => ?_) (fun J25 => ?_)
          · unfold words_quoted_k5 at hF
            refine ifS hF (fun hc23 hF => ?_) (fun hc23 hF => ?_)
            · refine G.cond rfl (fun _ => ?_) (fun hx => Bool.noConfusion (hc23.symm.trans hx))
              refine G.seq ?_
              refine G.region ?_
              refine G.op1 (op_assign (Ev.c _ rfl) rfl) rfl trivial trivial ?_
              refine G.op1 (op_assign (Ev.c _ rfl) rfl) rfl trivial trivial ?_
              refine G.endOps ?_
              cases hF
              exact G.ret2 Tryd.results28 (RVar.tmp 2 _) (RVar.tmp 3 _) ⟨rfl, rfl, trivial⟩ trivial
            · refine G.cond rfl (fun hx => Bool.noConfusion (hc23.symm.trans hx)) (fun _ => ?_)
              refine G.skip ?_
              refine G.seq ?_
              refine G.region ?_
              refine G.op1 (op_move (Ev.t 4 (.own 2009 (List.map encI_u8 v3.2))) rfl) rfl ⟨rfl, trivial⟩ trivial ?_
              refine G.op1 (op_move (Ev.t 7 (bI .i64 r19)) rfl) rfl ⟨rfl, trivial⟩ trivial ?_
              refine G.op1 (op_mul (Ev.t 64 (bI .i64 r19)) (Ev.c _ rfl) rfl) rfl ⟨rfl, trivial⟩ trivial ?_
              refine G.op1 (op_move (Ev.t 8 (bI .i64 r21)) rfl) rfl ⟨rfl, trivial⟩ trivial ?_
              refine G.op1 (op_add (Ev.t 65 (bI .i64 (IntKind.wrap .i64 (r19 * 16)))) (Ev.t 66 (bI .i64 r21)) rfl) rfl ⟨rfl, rfl, trivial⟩ trivial ?_
              refine G.op1 (op_convI Tryd.underlying3 Tryd.underlying5 (Ev.t 67 (bI .i64 (IntKind.wrap .i64 ((IntKind.wrap .i64 (r19 * 16)) + r21)))) rfl) rfl ⟨rfl, trivial⟩ trivial ?_
              refine G.op1 (op_buildSlice (es := List.map encI_u8 [IntKind.wrap .u8 (IntKind.wrap .i64 ((IntKind.wrap .i64 (r19 * 16)) + r21))]) Tryd.underlying46 ti5 rfl rfl (EvP.cons (Ev.t 68 (bI .u8 (IntKind.wrap .u8 (IntKind.wrap .i64 ((IntKind.wrap .i64 (r19 * 16)) + r21))))) EvP.nil) rfl rfl (by simp [encI_u8]) rfl) rfl ⟨rfl, trivial⟩ trivial ?_
              obtain ⟨l24, hl24, hF⟩ := bindS hF
              refine G.op2 (op_appendO Tryd.underlying46 ti5 rfl (app_map hl24 encI_u8) (app_b1 hl24 encI_u8) (app_b2 hl24 encI_u8) (Ev.t 63 (.own 2009 (List.map encI_u8 v3.2))) (Ev.t 69 (.g (.d (.sl 1 (List.map encI_u8 ([IntKind.wrap .u8 (IntKind.wrap .i64 ((IntKind.wrap .i64 (r19 * 16)) + r21))])))))) rfl) rfl ⟨rfl, rfl, trivial⟩ ⟨rfl, trivial⟩ ?_
              refine G.op1 (op_assign (Ev.t 70 (.own 2009 (List.map encI_u8 l24))) rfl) rfl ⟨rfl, trivial⟩ trivial ?_
              refine G.endOps ?_
              refine G.region ?_
              refine G.op1 (op_move (Ev.t 5 (bI .i64 v3.1)) rfl) rfl ⟨rfl, trivial⟩ trivial ?_
              refine G.op1 (op_add (Ev.t 71 (bI .i64 v3.1)) (Ev.c _ rfl) rfl) rfl ⟨rfl, trivial⟩ trivial ?_
              refine G.op1 (op_assign (Ev.t 72 (bI .i64 (IntKind.wrap .i64 (v3.1 + 3)))) rfl) rfl ⟨rfl, trivial⟩ trivial ?_
              refine G.endOps ?_
              refine G.endBlock ?_
              refine G.endBlock ?_
              exact G.arr (J4 (IntKind.wrap .i64 (v3.1 + 3), l24) hF) ⟨rfl, rfl, rfl, trivial⟩ ⟨rfl, trivial⟩ rfl
          refine G.region ?_
          refine G.op1 (op_move (Ev.t 7 (bI .i64 r19)) rfl) rfl ⟨rfl, trivial⟩ trivial ?_
          refine G.op1 (op_lss (Ev.t 57 (bI .i64 r19)) (Ev.c _ rfl) rfl) rfl ⟨rfl, trivial⟩ trivial ?_
          refine G.op1 (op_move (Ev.t 58 (bB (decide (r19 < 0)))) rfl) rfl ⟨rfl, trivial⟩ trivial ?_
          refine ifS hF (fun hc26 hF => ?_) (fun hc26 hF => ?_)
          · refine G.known (t := 59) hc26 rfl ?_
            refine G.opN1 rfl rfl rfl rfl rfl ?_
            refine G.opN1 rfl rfl rfl rfl rfl ?_
            refine G.op1 (op_pickT (Ev.t 59 (bB true)) (Ev.c _ rfl) rfl) rfl ⟨rfl, trivial⟩ trivial ?_
            refine G.endOps ?_
            exact G.arr (J25 true hF) ⟨rfl, rfl, rfl, rfl, rfl, rfl, trivial⟩ ⟨rfl, trivial⟩ rfl
          · refine G.known (t := 59) hc26 rfl ?_
            refine G.opG1 (op_move (Ev.t 8 (bI .i64 r21)) rfl) rfl rfl rfl ⟨rfl, trivial⟩ trivial ?_
            refine G.opG1 (op_lss (Ev.t 60 (bI .i64 r21)) (Ev.c _ rfl) rfl) rfl rfl rfl ⟨rfl, trivial⟩ trivial ?_
            refine G.op1 (op_pickF (Ev.t 59 (bB false)) (Ev.t 61 (bB (decide (r21 < 0)))) rfl) rfl ⟨rfl, rfl, trivial⟩ trivial ?_
            refine G.endOps ?_
            exact G.arr (J25 (decide (r21 < 0)) hF) ⟨rfl, rfl, rfl, rfl, rfl, rfl, trivial⟩ ⟨rfl, trivial⟩ rfl
        · refine G.cond rfl (fun hx => Bool.noConfusion (hc17.symm.trans hx)) (fun _ => ?_)
          refine G.seq ?_
          refine G.region ?_
          refine G.op1 (op_move (Ev.t 6 (bI .u8 (b8.toNat : Int))) rfl) rfl ⟨rfl, trivial⟩ trivial ?_
          obtain ⟨r27, hr27, hF⟩ := bindS hF
          refine G.op1 (op_callQ (sv := .one (bB r27)) cf25 (ct_words_plain (b8.toNat : Int) r27 hr27) rfl rfl (EvQL.cons (EvQ.g (Ev.t 74 (bI .u8 (b8.toNat : Int)))) EvQL.nil) rfl) rfl ⟨rfl, trivial⟩ trivial ?_
          refine G.op1 (op_assign (Ev.t 75 (bB r27)) rfl) rfl ⟨rfl, trivial⟩ trivial ?_
          refine G.endOps ?_
          refine ifS hF (fun hc28 hF => ?_) (fun hc28 hF => ?_)
          · refine G.cond rfl (fun _ => ?_) (fun hx => Bool.noConfusion (hc28.symm.trans hx))
            refine G.seq ?_
            refine G.region ?_
            refine G.op1 (op_move (Ev.t 4 (.own 2009 (List.map encI_u8 v3.2))) rfl) rfl ⟨rfl, trivial⟩ trivial ?_
            refine G.op1 (op_move (Ev.t 6 (bI .u8 (b8.toNat : Int))) rfl) rfl ⟨rfl, trivial⟩ trivial ?_
            refine G.op1 (op_buildSlice (es := List.map encI_u8 [(b8.toNat : Int)]) Tryd.underlying46 ti5 rfl rfl (EvP.cons (Ev.t 77 (bI .u8 (b8.toNat : Int))) EvP.nil) rfl rfl (by simp [encI_u8]) rfl) rfl ⟨rfl, trivial⟩ trivial ?_
            obtain ⟨l29, hl29, hF⟩ := bindS hF
            refine G.op2 (op_appendO Tryd.underlying46 ti5 rfl (app_map hl29 encI_u8) (app_b1 hl29 encI_u8) (app_b2 hl29 encI_u8) (Ev.t 76 (.own 2009 (List.map encI_u8 v3.2))) (Ev.t 78 (.g (.d (.sl 1 (List.map encI_u8 ([(b8.toNat : Int)])))))) rfl) rfl ⟨rfl, rfl, trivial⟩ ⟨rfl, trivial⟩ ?_
            refine G.op1 (op_assign (Ev.t 79 (.own 2009 (List.map encI_u8 l29))) rfl) rfl ⟨rfl, trivial⟩ trivial ?_
            refine G.endOps ?_
            refine G.region ?_
            refine G.op1 (op_move (Ev.t 5 (bI .i64 v3.1)) rfl) rfl ⟨rfl, trivial⟩ trivial ?_
            refine G.op1 (op_add (Ev.t 80 (bI .i64 v3.1)) (Ev.c _ rfl) rfl) rfl ⟨rfl, trivial⟩ trivial ?_
            refine G.op1 (op_assign (Ev.t 81 (bI .i64 (IntKind.wrap .i64 (v3.1 + 1)))) rfl) rfl ⟨rfl, trivial⟩ trivial ?_
            refine G.endOps ?_
            refine G.endBlock ?_
            refine G.endBlock ?_
            exact G.arr (J4 (IntKind.wrap .i64 (v3.1 + 1), l29) hF) ⟨rfl, rfl, rfl, trivial⟩ ⟨rfl, trivial⟩ rfl
          · refine G.cond rfl (fun hx => Bool.noConfusion (hc28.symm.trans hx)) (fun _ => ?_)
            refine G.seq ?_
            refine G.region ?_
            refine G.op1 (op_assign (Ev.c _ rfl) rfl) rfl trivial trivial ?_
            refine G.op1 (op_assign (Ev.c _ rfl) rfl) rfl trivial trivial ?_
            refine G.endOps ?_
            cases hF
            exact G.ret2 Tryd.results28 (RVar.tmp 2 _) (RVar.tmp 3 _) ⟨rfl, rfl, trivial⟩ trivial
      refine G.region ?_
      refine G.op1 (op_move (Ev.t 6 (bI .u8 (b8.toNat : Int))) rfl) rfl ⟨rfl, trivial⟩ trivial ?_
      refine G.op1 (op_eqI (Ev.t 38 (bI .u8 (b8.toNat : Int))) (Ev.c _ rfl) rfl) rfl ⟨rfl, trivial⟩ trivial ?_
      refine G.op1 (op_move (Ev.t 39 (bB (decide ((b8.toNat : Int) = 92)))) rfl) rfl ⟨rfl, trivial⟩ trivial ?_
      refine ifS hF (fun hc31 hF => ?_) (fun hc31 hF => ?_)
      · refine G.known (t := 40) hc31 rfl ?_
        refine G.opG1 (op_move (Ev.t 0 (bS s_0)) rfl) rfl rfl rfl ⟨rfl, trivial⟩ trivial ?_
        refine G.opG1 (op_lenS Tryd.underlying9 (Ev.t 41 (bS s_0)) rfl) rfl rfl rfl ⟨rfl, trivial⟩ trivial ?_
        refine G.opG1 (op_move (Ev.t 5 (bI .i64 v3.1)) rfl) rfl rfl rfl ⟨rfl, trivial⟩ trivial ?_
        refine G.opG1 (op_sub (Ev.t 42 (bI .i64 (s_0.size : Int))) (Ev.t 43 (bI .i64 v3.1)) rfl) rfl rfl rfl ⟨rfl, rfl, trivial⟩ trivial ?_
        refine G.opG1 (op_geq (Ev.t 44 (bI .i64 (IntKind.wrap .i64 ((s_0.size : Int) - v3.1)))) (Ev.c _ rfl) rfl) rfl rfl rfl ⟨rfl, trivial⟩ trivial ?_
        refine G.op1 (op_pickT (Ev.t 40 (bB true)) (Ev.t 45 (bB (decide (3 ≤ (IntKind.wrap .i64 ((s_0.size : Int) - v3.1)))))) rfl) rfl ⟨rfl, rfl, trivial⟩ trivial ?_
        refine G.op1 (op_assign (Ev.t 46 (bB (decide (3 ≤ (IntKind.wrap .i64 ((s_0.size : Int) - v3.1)))))) rfl) rfl ⟨rfl, trivial⟩ trivial ?_
        refine G.endOps ?_
        exact G.arr (J30 (decide (3 ≤ (IntKind.wrap .i64 ((s_0.size : Int) - v3.1)))) hF) ⟨rfl, rfl, rfl, rfl, rfl, trivial⟩ ⟨rfl, trivial⟩ rfl
      · refine G.known (t := 40) hc31 rfl ?_
        refine G.opN1 rfl rfl rfl rfl rfl ?_
        refine G.opN1 rfl rfl rfl rfl rfl ?_
        refine G.opN1 rfl rfl rfl rfl rfl ?_
        refine G.opN1 rfl rfl rfl rfl rfl ?_
        refine G.opN1 rfl rfl rfl rfl rfl ?_
        refine G.op1 (op_pickF (Ev.t 40 (bB false)) (Ev.c _ rfl) rfl) rfl ⟨rfl, trivial⟩ trivial ?_
        refine G.op1 (op_assign (Ev.t 46 (bB false)) rfl) rfl ⟨rfl, trivial⟩ trivial ?_
        refine G.endOps ?_
        exact G.arr (J30 false hF) ⟨rfl, rfl, rfl, rfl, rfl, trivial⟩ ⟨rfl, trivial⟩ rfl
  · refine G.cond rfl (fun hx => Bool.noConfusion (hc7.symm.trans hx)) (fun _ => ?_)
    refine G.exit ?_
    refine GX.c ?_
    refine GX.q ?_
    refine GX.bYes ?_
    exact G.arr (J2 () hF) trivial trivial rfl


set_option maxRecDepth 20000 in
set_option maxHeartbeats 2000000 in
theorem ct_words_Words (line_0 : ByteArray) (r : ((List ByteArray) × Bool)) (hF : words_Words line_0 = some r) : CtG Tryd.prog Γ0 15 [.g (.d (.v (.string line_0)))] (.tup [.d (.sl 1 (List.map encS r.1)), .d (.v (.bool r.2))]) := by
  unfold words_Words at hF
  refine CtG.intro (GL.ok _ _ _) Tryd.func15 rfl Tryd.ntmps15 rfl rfl fun M w hG => ?_
  refine G.seq ?_
  refine G.region ?_
  refine G.op1 (op_assign (Ev.n 1) rfl) rfl trivial trivial ?_
  refine G.op1 (op_assign (Ev.c _ rfl) rfl) rfl trivial trivial ?_
  refine G.endOps ?_
  refine G.seq ?_
  refine G.region ?_
  refine G.op2 (op_assignRow (E := 9) (size := 1) (k := 2004) (ex := false) rfl rfl) rfl trivial ⟨rfl, trivial⟩ ?_
  refine G.endOps ?_
  refine G.block ?_
  refine G.keep (sl' := [(0, .one (bS line_0)), (4, .one (.own 2004 (List.map encS ([] : (List ByteArray)))))]) (hp' := [(2004, some (.row 9 1 (List.map encS ([] : (List ByteArray))) false))]) ⟨rfl, rfl, trivial⟩ ⟨rfl, trivial⟩ rfl ?_
  refine G.loopF (fun (v1 : ByteArray × (List ByteArray)) => ⟨[(0, .one (bS v1.1)), (4, .one (.own 2004 (List.map encS v1.2)))], [(2004, some (.row 9 1 (List.map encS v1.2) false))]⟩) hF rfl (fun K4 again3 v1 J2 hF => ?_)
  unfold words_Words_l1 at hF
  refine G.block ?_
  refine G.seq ?_
  refine G.region ?_
  refine G.op1 (op_move (Ev.t 0 (bS v1.1)) rfl) rfl ⟨rfl, trivial⟩ trivial ?_
  obtain ⟨r5, hr5, hF⟩ := bindS hF
  refine G.op1 (op_callQ (sv := .one (bS r5)) cf26 (ct_strings_TrimLeft v1.1 (ByteArray.mk #[32, 9]) r5 hr5) rfl rfl (EvQL.cons (EvQ.g (Ev.t 8 (bS v1.1))) (EvQL.cons (EvQ.g (Ev.c _ rfl)) EvQL.nil)) rfl) rfl ⟨rfl, trivial⟩ trivial ?_
  refine G.op1 (op_assign (Ev.t 9 (bS r5)) rfl) rfl ⟨rfl, trivial⟩ trivial ?_
  refine G.endOps ?_
  refine G.seq ?_
  refine G.seq ?_
  refine G.region ?_
  refine G.op1 (op_move (Ev.t 0 (bS r5)) rfl) rfl ⟨rfl, trivial⟩ trivial ?_
  refine G.op1 (op_eqS (Ev.t 10 (bS r5)) (Ev.c _ rfl) rfl) rfl ⟨rfl, trivial⟩ trivial ?_
  refine G.endOps ?_
  refine ifS hF (fun hc6 hF => ?_) (fun hc6 hF => ?_)
  · refine G.cond rfl (fun _ => ?_) (fun hx => Bool.noConfusion (hc6.symm.trans hx))
    refine G.seq ?_
    refine G.region ?_
    refine G.op1 (op_move (Ev.t 4 (.own 2004 (List.map encS v1.2))) rfl) rfl ⟨rfl, trivial⟩ trivial ?_
    refine G.op1 (op_assign (Ev.t 12 (.own 2004 (List.map encS v1.2))) rfl) rfl ⟨rfl, trivial⟩ trivial ?_
    refine G.op1 (op_assign (Ev.c _ rfl) rfl) rfl trivial trivial ?_
    refine G.endOps ?_
    refine G.view (t := 2) rfl rfl ?_
    cases hF
    exact G.ret2 Tryd.results15 (RVar.tmp 2 _) (RVar.tmp 3 _) ⟨rfl, rfl, trivial⟩ trivial
  · refine G.cond rfl (fun hx => Bool.noConfusion (hc6.symm.trans hx)) (fun _ => ?_)
    refine G.skip ?_
    refine G.seq ?_
    refine G.region ?_
    refine G.op1 (op_assign (Ev.f 27) rfl) rfl trivial trivial ?_
    refine G.endOps ?_
    refine G.seq ?_
    refine G.seq ?_
    refine G.region ?_
    refine G.op1 (op_move (Ev.t 0 (bS r5)) rfl) rfl ⟨rfl, trivial⟩ trivial ?_
    obtain ⟨b7, hb7, hF⟩ := bindS hF
    refine G.op1 (op_indexS Tryd.underlying9 (sidx_ok hb7).1 (sidx_ok hb7).2 (Ev.t 13 (bS r5)) (Ev.c _ rfl) rfl) rfl ⟨rfl, trivial⟩ trivial ?_
    refine G.op1 (op_eqI (Ev.t 14 (bI .u8 (b7.toNat : Int))) (Ev.c _ rfl) rfl) rfl ⟨rfl, trivial⟩ trivial ?_
    refine G.endOps ?_
    refine ifS hF (fun hc8 hF => ?_) (fun hc8 hF => ?_)
    · refine G.cond rfl (fun _ => ?_) (fun hx => Bool.noConfusion (hc8.symm.trans hx))
      refine G.region ?_
      refine G.op1 (op_assign (Ev.f 28) rfl) rfl trivial trivial ?_
      refine G.endOps ?_
      refine G.seq ?_
      refine G.region ?_
      refine G.op1 (op_move (Ev.t 5 (.clo 28 [])) rfl) rfl ⟨rfl, trivial⟩ trivial ?_
      refine G.op1 (op_move (Ev.t 0 (bS r5)) rfl) rfl ⟨rfl, trivial⟩ trivial ?_
      obtain ⟨r9, hr9, hF⟩ := bindS hF
      refine G.op1 (op_callClo (sv := .tup [bS r9.1, bI .i64 r9.2]) (args := _) (gs := _) cf28 (ct_words_quoted r5 r9 hr9) rfl rfl EvC.nil (EvQL.cons (EvQ.g (Ev.t 18 (bS r5))) EvQL.nil) rfl) rfl ⟨rfl, rfl, trivial⟩ trivial ?_
      refine G.op1 (op_moveS (t := 19) (sv := .tup [bS r9.1, bI .i64 r9.2]) rfl) rfl ⟨rfl, trivial⟩ trivial ?_
      refine G.op1 (op_extract (l := [bS r9.1, bI .i64 r9.2]) (c := bS r9.1) rfl rfl) rfl ⟨rfl, trivial⟩ trivial ?_
      refine G.op1 (op_extract (l := [bS r9.1, bI .i64 r9.2]) (c := bI .i64 r9.2) rfl rfl) rfl ⟨rfl, trivial⟩ trivial ?_
      refine G.op1 (op_assign (Ev.t 20 (bS r9.1)) rfl) rfl ⟨rfl, trivial⟩ trivial ?_
      refine G.op1 (op_assign (Ev.t 21 (bI .i64 r9.2)) rfl) rfl ⟨rfl, trivial⟩ trivial ?_
      refine G.endOps ?_
      refine G.seq ?_
      refine G.seq ?_
      refine G.region ?_
      refine G.op1 (op_move (Ev.t 7 (bI .i64 r9.2)) rfl) rfl ⟨rfl, trivial⟩ trivial ?_
      refine G.op1 (op_eqI (Ev.t 22 (bI .i64 r9.2)) (Ev.c _ rfl) rfl) rfl ⟨rfl, trivial⟩ trivial ?_
      refine G.endOps ?_
      refine ifS hF (fun hc10 hF => ?_) (fun hc10 hF => ?_)
      · refine G.cond rfl (fun _ => ?_) (fun hx => Bool.noConfusion (hc10.symm.trans hx))
        refine G.seq ?_
        refine G.region ?_
        refine G.op1 (op_assign (Ev.n 1) rfl) rfl trivial trivial ?_
        refine G.op1 (op_assign (Ev.c _ rfl) rfl) rfl trivial trivial ?_
        refine G.endOps ?_
        cases hF
        exact G.ret2 Tryd.results15 (RVar.tmp 2 _) (RVar.tmp 3 _) ⟨rfl, rfl, trivial⟩ trivial
      · refine G.cond rfl (fun hx => Bool.noConfusion (hc10.symm.trans hx)) (fun _ => ?_)
        refine G.skip ?_
        refine G.seq ?_
        refine G.region ?_
        refine G.op1 (op_move (Ev.t 4 (.own 2004 (List.map encS v1.2))) rfl) rfl ⟨rfl, trivial⟩ trivial ?_
        refine G.op1 (op_move (Ev.t 6 (bS r9.1)) rfl) rfl ⟨rfl, trivial⟩ trivial ?_
        refine G.op1 (op_buildSlice (es := List.map encS [r9.1]) Tryd.underlying24 ti9 rfl rfl (EvP.cons (Ev.t 25 (bS r9.1)) EvP.nil) rfl rfl (by simp [encS]) rfl) rfl ⟨rfl, trivial⟩ trivial ?_
        obtain ⟨l11, hl11, hF⟩ := bindS hF
        refine G.op2 (op_appendO Tryd.underlying24 ti9 rfl (app_map hl11 encS) (app_b1 hl11 encS) (app_b2 hl11 encS) (Ev.t 24 (.own 2004 (List.map encS v1.2))) (Ev.t 26 (.g (.d (.sl 1 (List.map encS ([r9.1])))))) rfl) rfl ⟨rfl, rfl, trivial⟩ ⟨rfl, trivial⟩ ?_
        refine G.op1 (op_assign (Ev.t 27 (.own 2004 (List.map encS l11))) rfl) rfl ⟨rfl, trivial⟩ trivial ?_
        refine G.endOps ?_
        refine G.region ?_
        refine G.op1 (op_move (Ev.t 0 (bS r5)) rfl) rfl ⟨rfl, trivial⟩ trivial ?_
        refine G.op1 (op_move (Ev.t 7 (bI .i64 r9.2)) rfl) rfl ⟨rfl, trivial⟩ trivial ?_
        obtain ⟨s12, hs12, hF⟩ := bindS hF
        refine G.op1 (OpL.cast (op_sliceS (lo := some r9.2) (hi := none) Tryd.underlying9 (ssub_ok hs12).1 (ssub_ok hs12).2.1 (ssub_ok hs12).2.2.1 (Ev.t 28 (bS r5)) (EvO.some (Ev.t 29 (bI .i64 r9.2))) EvO.none rfl) (congrArg (fun s => bS s) (ssub_ok hs12).2.2.2)) rfl ⟨rfl, rfl, trivial⟩ trivial ?_
        refine G.op1 (op_assign (Ev.t 30 (bS s12)) rfl) rfl ⟨rfl, trivial⟩ trivial ?_
        refine G.endOps ?_
        refine G.endBlock ?_
        exact G.arr (J2 (s12, l11) hF) ⟨rfl, rfl, trivial⟩ ⟨rfl, trivial⟩ rfl
    · refine G.cond rfl (fun hx => Bool.noConfusion (hc8.symm.trans hx)) (fun _ => ?_)
      refine G.skip ?_
      refine G.seq ?_
      refine G.region ?_
      refine G.op1 (op_move (Ev.t 5 (.clo 27 [])) rfl) rfl ⟨rfl, trivial⟩ trivial ?_
      refine G.op1 (op_move (Ev.t 0 (bS r5)) rfl) rfl ⟨rfl, trivial⟩ trivial ?_
      obtain ⟨r13, hr13, hF⟩ := bindS hF
      refine G.op1 (op_callCloG (sv := .tup [bS r13.1, bI .i64 r13.2]) (args := _) hG cf27 (ct_words_bare r5 r13 hr13) rfl rfl (EvQL.cons (EvQ.g (Ev.t 18 (bS r5))) EvQL.nil) rfl) rfl ⟨rfl, rfl, trivial⟩ trivial ?_
      refine G.op1 (op_moveS (t := 19) (sv := .tup [bS r13.1, bI .i64 r13.2]) rfl) rfl ⟨rfl, trivial⟩ trivial ?_
      refine G.op1 (op_extract (l := [bS r13.1, bI .i64 r13.2]) (c := bS r13.1) rfl rfl) rfl ⟨rfl, trivial⟩ trivial ?_
      refine G.op1 (op_extract (l := [bS r13.1, bI .i64 r13.2]) (c := bI .i64 r13.2) rfl rfl) rfl ⟨rfl, trivial⟩ trivial ?_
      refine G.op1 (op_assign (Ev.t 20 (bS r13.1)) rfl) rfl ⟨rfl, trivial⟩ trivial ?_
      refine G.op1 (op_assign (Ev.t 21 (bI .i64 r13.2)) rfl) rfl ⟨rfl, trivial⟩ trivial ?_
      refine G.endOps ?_
      refine G.seq ?_
      refine G.seq ?_
      refine G.region ?_
      refine G.op1 (op_move (Ev.t 7 (bI .i64 r13.2)) rfl) rfl ⟨rfl, trivial⟩ trivial ?_
      refine G.op1 (op_eqI (Ev.t 22 (bI .i64 r13.2)) (Ev.c _ rfl) rfl) rfl ⟨rfl, trivial⟩ trivial ?_
      refine G.endOps ?_
      refine ifS hF (fun hc14 hF => ?_) (fun hc14 hF => ?_)
      · refine G.cond rfl (fun _ => ?_) (fun hx => Bool.noConfusion (hc14.symm.trans hx))
        refine G.seq ?_
        refine G.region ?_
        refine G.op1 (op_assign (Ev.n 1) rfl) rfl trivial trivial ?_
        refine G.op1 (op_assign (Ev.c _ rfl) rfl) rfl trivial trivial ?_
        refine G.endOps ?_
        cases hF
        exact G.ret2 Tryd.results15 (RVar.tmp 2 _) (RVar.tmp 3 _) ⟨rfl, rfl, trivial⟩ trivial
      · refine G.cond rfl (fun hx => Bool.noConfusion (hc14.symm.trans hx)) (fun _ => ?_)
        refine G.skip ?_
        refine G.seq ?_
        refine G.region ?_
        refine G.op1 (op_move (Ev.t 4 (.own 2004 (List.map encS v1.2))) rfl) rfl ⟨rfl, trivial⟩ trivial ?_
        refine G.op1 (op_move (Ev.t 6 (bS r13.1)) rfl) rfl ⟨rfl, trivial⟩ trivial ?_
        refine G.op1 (op_buildSlice (es := List.map encS [r13.1]) Tryd.underlying24 ti9 rfl rfl (EvP.cons (Ev.t 25 (bS r13.1)) EvP.nil) rfl rfl (by simp [encS]) rfl) rfl ⟨rfl, trivial⟩ trivial ?_
        obtain ⟨l15, hl15, hF⟩ := bindS hF
        refine G.op2 (op_appendO Tryd.underlying24 ti9 rfl (app_map hl15 encS) (app_b1 hl15 encS) (app_b2 hl15 encS) (Ev.t 24 (.own 2004 (List.map encS v1.2))) (Ev.t 26 (.g (.d (.sl 1 (List.map encS ([r13.1])))))) rfl) rfl ⟨rfl, rfl, trivial⟩ ⟨rfl, trivial⟩ ?_
        refine G.op1 (op_assign (Ev.t 27 (.own 2004 (List.map encS l15))) rfl) rfl ⟨rfl, trivial⟩ trivial ?_
        refine G.endOps ?_
        refine G.region ?_
        refine G.op1 (op_move (Ev.t 0 (bS r5)) rfl) rfl ⟨rfl, trivial⟩ trivial ?_
        refine G.op1 (op_move (Ev.t 7 (bI .i64 r13.2)) rfl) rfl ⟨rfl, trivial⟩ trivial ?_
        obtain ⟨s16, hs16, hF⟩ := bindS hF
        refine G.op1 (OpL.cast (op_sliceS (lo := some r13.2) (hi := none) Tryd.underlying9 (ssub_ok hs16).1 (ssub_ok hs16).2.1 (ssub_ok hs16).2.2.1 (Ev.t 28 (bS r5)) (EvO.some (Ev.t 29 (bI .i64 r13.2))) EvO.none rfl) (congrArg (fun s => bS s) (ssub_ok hs16).2.2.2)) rfl ⟨rfl, rfl, trivial⟩ trivial ?_
        refine G.op1 (op_assign (Ev.t 30 (bS s16)) rfl) rfl ⟨rfl, trivial⟩ trivial ?_
        refine G.endOps ?_
        refine G.endBlock ?_
        exact G.arr (J2 (s16, l15) hF) ⟨rfl, rfl, trivial⟩ ⟨rfl, trivial⟩ rfl


set_option maxRecDepth 20000 in
set_option maxHeartbeats 2000000 in
theorem ct_words_name (kind_0 : Int) (r : ByteArray) (hF : words_name kind_0 = some r) : Ct Tryd.prog 36 [.g (.d (.v (.int .i64 kind_0)))] (.one (.d (.v (.string r)))) := by
  unfold words_name at hF
  refine Ct.intro Tryd.func36 rfl Tryd.ntmps36 rfl rfl fun M w => ?_
  refine G.seq ?_
  refine G.region ?_
  refine G.op1 (op_assign (Ev.c _ rfl) rfl) rfl trivial trivial ?_
  refine G.endOps ?_
  refine G.seq ?_
  refine G.seq ?_
  refine G.region ?_
  refine G.op1 (op_move (Ev.t 0 (bI .i64 kind_0)) rfl) rfl ⟨rfl, trivial⟩ trivial ?_
  refine G.endOps ?_
  refine G.block ?_
  refine G.seq ?_
  refine G.region ?_
  refine G.op1 (op_eqI (Ev.t 3 (bI .i64 kind_0)) (Ev.c _ rfl) rfl) rfl ⟨rfl, trivial⟩ trivial ?_
  refine G.op1 (op_assign (Ev.t 5 (bB (decide (kind_0 = 1)))) rfl) rfl ⟨rfl, trivial⟩ trivial ?_
  refine G.endOps ?_
  refine ifS hF (fun hc1 hF => ?_) (fun hc1 hF => ?_)
  · refine G.cond rfl (fun _ => ?_) (fun hx => Bool.noConfusion (hc1.symm.trans hx))
    refine G.seq ?_
    refine G.region ?_
    refine G.op1 (op_assign (Ev.c _ rfl) rfl) rfl trivial trivial ?_
    refine G.endOps ?_
    cases hF
    exact G.ret1 Tryd.results36 (RVar.tmp 2 _) ⟨rfl, trivial⟩ trivial
  · refine G.cond rfl (fun hx => Bool.noConfusion (hc1.symm.trans hx)) (fun _ => ?_)
    refine G.seq ?_
    refine G.region ?_
    refine G.op1 (op_eqI (Ev.t 3 (bI .i64 kind_0)) (Ev.c _ rfl) rfl) rfl ⟨rfl, trivial⟩ trivial ?_
    refine G.op1 (op_assign (Ev.t 7 (bB (decide (kind_0 = 2)))) rfl) rfl ⟨rfl, trivial⟩ trivial ?_
    refine G.endOps ?_
    refine ifS hF (fun hc2 hF => ?_) (fun hc2 hF => ?_)
    · refine G.cond rfl (fun _ => ?_) (fun hx => Bool.noConfusion (hc2.symm.trans hx))
      refine G.seq ?_
      refine G.region ?_
      refine G.op1 (op_assign (Ev.c _ rfl) rfl) rfl trivial trivial ?_
      refine G.endOps ?_
      cases hF
      exact G.ret1 Tryd.results36 (RVar.tmp 2 _) ⟨rfl, trivial⟩ trivial
    · refine G.cond rfl (fun hx => Bool.noConfusion (hc2.symm.trans hx)) (fun _ => ?_)
      refine G.seq ?_
      refine G.region ?_
      refine G.op1 (op_eqI (Ev.t 3 (bI .i64 kind_0)) (Ev.c _ rfl) rfl) rfl ⟨rfl, trivial⟩ trivial ?_
      refine G.op1 (op_assign (Ev.t 9 (bB (decide (kind_0 = 3)))) rfl) rfl ⟨rfl, trivial⟩ trivial ?_
      refine G.endOps ?_
      refine ifS hF (fun hc3 hF => ?_) (fun hc3 hF => ?_)
      · refine G.cond rfl (fun _ => ?_) (fun hx => Bool.noConfusion (hc3.symm.trans hx))
        refine G.seq ?_
        refine G.region ?_
        refine G.op1 (op_assign (Ev.c _ rfl) rfl) rfl trivial trivial ?_
        refine G.endOps ?_
        cases hF
        exact G.ret1 Tryd.results36 (RVar.tmp 2 _) ⟨rfl, trivial⟩ trivial
      · refine G.cond rfl (fun hx => Bool.noConfusion (hc3.symm.trans hx)) (fun _ => ?_)
        refine G.seq ?_
        refine G.region ?_
        refine G.op1 (op_eqI (Ev.t 3 (bI .i64 kind_0)) (Ev.c _ rfl) rfl) rfl ⟨rfl, trivial⟩ trivial ?_
        refine G.op1 (op_assign (Ev.t 11 (bB (decide (kind_0 = 4)))) rfl) rfl ⟨rfl, trivial⟩ trivial ?_
        refine G.endOps ?_
        refine ifS hF (fun hc4 hF => ?_) (fun hc4 hF => ?_)
        · refine G.cond rfl (fun _ => ?_) (fun hx => Bool.noConfusion (hc4.symm.trans hx))
          refine G.seq ?_
          refine G.region ?_
          refine G.op1 (op_assign (Ev.c _ rfl) rfl) rfl trivial trivial ?_
          refine G.endOps ?_
          cases hF
          exact G.ret1 Tryd.results36 (RVar.tmp 2 _) ⟨rfl, trivial⟩ trivial
        · refine G.cond rfl (fun hx => Bool.noConfusion (hc4.symm.trans hx)) (fun _ => ?_)
          refine G.seq ?_
          refine G.region ?_
          refine G.op1 (op_eqI (Ev.t 3 (bI .i64 kind_0)) (Ev.c _ rfl) rfl) rfl ⟨rfl, trivial⟩ trivial ?_
          refine G.op1 (op_assign (Ev.t 13 (bB (decide (kind_0 = 5)))) rfl) rfl ⟨rfl, trivial⟩ trivial ?_
          refine G.endOps ?_
          refine ifS hF (fun hc5 hF => ?_) (fun hc5 hF => ?_)
          · refine G.cond rfl (fun _ => ?_) (fun hx => Bool.noConfusion (hc5.symm.trans hx))
            refine G.seq ?_
            refine G.region ?_
            refine G.op1 (op_assign (Ev.c _ rfl) rfl) rfl trivial trivial ?_
            refine G.endOps ?_
            cases hF
            exact G.ret1 Tryd.results36 (RVar.tmp 2 _) ⟨rfl, trivial⟩ trivial
          · refine G.cond rfl (fun hx => Bool.noConfusion (hc5.symm.trans hx)) (fun _ => ?_)
            refine G.seq ?_
            refine G.region ?_
            refine G.op1 (op_eqI (Ev.t 3 (bI .i64 kind_0)) (Ev.c _ rfl) rfl) rfl ⟨rfl, trivial⟩ trivial ?_
            refine G.op1 (op_assign (Ev.t 15 (bB (decide (kind_0 = 6)))) rfl) rfl ⟨rfl, trivial⟩ trivial ?_
            refine G.endOps ?_
            refine ifS hF (fun hc6 hF => ?_) (fun hc6 hF => ?_)
            · refine G.cond rfl (fun _ => ?_) (fun hx => Bool.noConfusion (hc6.symm.trans hx))
              refine G.seq ?_
              refine G.region ?_
              refine G.op1 (op_assign (Ev.c _ rfl) rfl) rfl trivial trivial ?_
              refine G.endOps ?_
              cases hF
              exact G.ret1 Tryd.results36 (RVar.tmp 2 _) ⟨rfl, trivial⟩ trivial
            · refine G.cond rfl (fun hx => Bool.noConfusion (hc6.symm.trans hx)) (fun _ => ?_)
              refine G.seq ?_
              refine G.region ?_
              refine G.op1 (op_eqI (Ev.t 3 (bI .i64 kind_0)) (Ev.c _ rfl) rfl) rfl ⟨rfl, trivial⟩ trivial ?_
              refine G.op1 (op_assign (Ev.t 17 (bB (decide (kind_0 = 7)))) rfl) rfl ⟨rfl, trivial⟩ trivial ?_
              refine G.endOps ?_
              refine ifS hF (fun hc7 hF => ?_) (fun hc7 hF => ?_)
              · refine G.cond rfl (fun _ => ?_) (fun hx => Bool.noConfusion (hc7.symm.trans hx))
                refine G.seq ?_
                refine G.region ?_
                refine G.op1 (op_assign (Ev.c _ rfl) rfl) rfl trivial trivial ?_
                refine G.endOps ?_
                cases hF
                exact G.ret1 Tryd.results36 (RVar.tmp 2 _) ⟨rfl, trivial⟩ trivial
              · refine G.cond rfl (fun hx => Bool.noConfusion (hc7.symm.trans hx)) (fun _ => ?_)
                refine G.seq ?_
                refine G.region ?_
                refine G.op1 (op_eqI (Ev.t 3 (bI .i64 kind_0)) (Ev.c _ rfl) rfl) rfl ⟨rfl, trivial⟩ trivial ?_
                refine G.op1 (op_assign (Ev.t 19 (bB (decide (kind_0 = 8)))) rfl) rfl ⟨rfl, trivial⟩ trivial ?_
                refine G.endOps ?_
                refine ifS hF (fun hc8 hF => ?_) (fun hc8 hF => ?_)
                · refine G.cond rfl (fun _ => ?_) (fun hx => Bool.noConfusion (hc8.symm.trans hx))
                  refine G.seq ?_
                  refine G.region ?_
                  refine G.op1 (op_assign (Ev.c _ rfl) rfl) rfl trivial trivial ?_
                  refine G.endOps ?_
                  cases hF
                  exact G.ret1 Tryd.results36 (RVar.tmp 2 _) ⟨rfl, trivial⟩ trivial
                · refine G.cond rfl (fun hx => Bool.noConfusion (hc8.symm.trans hx)) (fun _ => ?_)
                  refine G.seq ?_
                  refine G.region ?_
                  refine G.op1 (op_eqI (Ev.t 3 (bI .i64 kind_0)) (Ev.c _ rfl) rfl) rfl ⟨rfl, trivial⟩ trivial ?_
                  refine G.op1 (op_assign (Ev.t 21 (bB (decide (kind_0 = 9)))) rfl) rfl ⟨rfl, trivial⟩ trivial ?_
                  refine G.endOps ?_
                  refine ifS hF (fun hc9 hF => ?_) (fun hc9 hF => ?_)
                  · refine G.cond rfl (fun _ => ?_) (fun hx => Bool.noConfusion (hc9.symm.trans hx))
                    refine G.seq ?_
                    refine G.region ?_
                    refine G.op1 (op_assign (Ev.c _ rfl) rfl) rfl trivial trivial ?_
                    refine G.endOps ?_
                    cases hF
                    exact G.ret1 Tryd.results36 (RVar.tmp 2 _) ⟨rfl, trivial⟩ trivial
                  · refine G.cond rfl (fun hx => Bool.noConfusion (hc9.symm.trans hx)) (fun _ => ?_)
                    refine G.seq ?_
                    refine G.region ?_
                    refine G.op1 (op_eqI (Ev.t 3 (bI .i64 kind_0)) (Ev.c _ rfl) rfl) rfl ⟨rfl, trivial⟩ trivial ?_
                    refine G.op1 (op_assign (Ev.t 23 (bB (decide (kind_0 = 10)))) rfl) rfl ⟨rfl, trivial⟩ trivial ?_
                    refine G.endOps ?_
                    refine ifS hF (fun hc10 hF => ?_) (fun hc10 hF => ?_)
                    · refine G.cond rfl (fun _ => ?_) (fun hx => Bool.noConfusion (hc10.symm.trans hx))
                      refine G.seq ?_
                      refine G.region ?_
                      refine G.op1 (op_assign (Ev.c _ rfl) rfl) rfl trivial trivial ?_
                      refine G.endOps ?_
                      cases hF
                      exact G.ret1 Tryd.results36 (RVar.tmp 2 _) ⟨rfl, trivial⟩ trivial
                    · refine G.cond rfl (fun hx => Bool.noConfusion (hc10.symm.trans hx)) (fun _ => ?_)
                      refine G.seq ?_
                      refine G.region ?_
                      refine G.op1 (op_eqI (Ev.t 3 (bI .i64 kind_0)) (Ev.c _ rfl) rfl) rfl ⟨rfl, trivial⟩ trivial ?_
                      refine G.op1 (op_assign (Ev.t 25 (bB (decide (kind_0 = 11)))) rfl) rfl ⟨rfl, trivial⟩ trivial ?_
                      refine G.endOps ?_
                      refine ifS hF (fun hc11 hF => ?_) (fun hc11 hF => ?_)
                      · refine G.cond rfl (fun _ => ?_) (fun hx => Bool.noConfusion (hc11.symm.trans hx))
                        refine G.seq ?_
                        refine G.region ?_
                        refine G.op1 (op_assign (Ev.c _ rfl) rfl) rfl trivial trivial ?_
                        refine G.endOps ?_
                        cases hF
                        exact G.ret1 Tryd.results36 (RVar.tmp 2 _) ⟨rfl, trivial⟩ trivial
                      · refine G.cond rfl (fun hx => Bool.noConfusion (hc11.symm.trans hx)) (fun _ => ?_)
                        refine G.seq ?_
                        refine G.region ?_
                        refine G.op1 (op_eqI (Ev.t 3 (bI .i64 kind_0)) (Ev.c _ rfl) rfl) rfl ⟨rfl, trivial⟩ trivial ?_
                        refine G.op1 (op_assign (Ev.t 27 (bB (decide (kind_0 = 12)))) rfl) rfl ⟨rfl, trivial⟩ trivial ?_
                        refine G.endOps ?_
                        refine ifS hF (fun hc12 hF => ?_) (fun hc12 hF => ?_)
                        · refine G.cond rfl (fun _ => ?_) (fun hx => Bool.noConfusion (hc12.symm.trans hx))
                          refine G.seq ?_
                          refine G.region ?_
                          refine G.op1 (op_assign (Ev.c _ rfl) rfl) rfl trivial trivial ?_
                          refine G.endOps ?_
                          cases hF
                          exact G.ret1 Tryd.results36 (RVar.tmp 2 _) ⟨rfl, trivial⟩ trivial
                        · refine G.cond rfl (fun hx => Bool.noConfusion (hc12.symm.trans hx)) (fun _ => ?_)
                          refine G.skip ?_
                          refine G.endBlock ?_
                          refine G.seq ?_
                          refine G.region ?_
                          refine G.op1 (op_assign (Ev.c _ rfl) rfl) rfl trivial trivial ?_
                          refine G.endOps ?_
                          cases hF
                          exact G.ret1 Tryd.results36 (RVar.tmp 2 _) ⟨rfl, trivial⟩ trivial


set_option maxRecDepth 20000 in
set_option maxHeartbeats 2000000 in
theorem ct_words_kind (word_0 : ByteArray) (r : Int) (hF : words_kind word_0 = some r) : Ct Tryd.prog 44 [.g (.d (.v (.string word_0)))] (.one (.d (.v (.int .i64 r)))) := by
  unfold words_kind at hF
  refine Ct.intro Tryd.func44 rfl Tryd.ntmps44 rfl rfl fun M w => ?_
  refine G.seq ?_
  refine G.region ?_
  refine G.op1 (op_assign (Ev.c _ rfl) rfl) rfl trivial trivial ?_
  refine G.endOps ?_
  refine G.seq ?_
  refine G.seq ?_
  refine G.region ?_
  refine G.op1 (op_assign (Ev.c _ rfl) rfl) rfl trivial trivial ?_
  refine G.endOps ?_
  refine G.joinC (T := Unit) (fun y1 => ⟨[], []⟩) (fun y1 => words_kind_k1 y1 = some r) (fun y1 hF => ?_) (fun J2 => ?_)
  · unfold words_kind_k1 at hF
    refine G.seq ?_
    refine G.region ?_
    refine G.op1 (op_assign (Ev.c _ rfl) rfl) rfl trivial trivial ?_
    refine G.endOps ?_
    cases hF
    exact G.ret1 Tryd.results44 (RVar.tmp 2 _) ⟨rfl, trivial⟩ trivial
  refine G.block ?_
  refine G.keep (sl' := [(0, .one (bS word_0)), (3, .one (bI .i64 1))]) (hp' := []) ⟨rfl, rfl, trivial⟩ trivial rfl ?_
  refine G.loopF (fun (v3 : Int) => ⟨[(0, .one (bS word_0)), (3, .one (bI .i64 v3))], []⟩) hF rfl (fun K6 again5 v3 J4 hF => ?_)
  unfold words_kind_l2 at hF
  refine G.seq ?_
  refine G.seq ?_
  refine G.region ?_
  refine G.op1 (op_move (Ev.t 3 (bI .i64 v3)) rfl) rfl ⟨rfl, trivial⟩ trivial ?_
  refine G.op1 (op_leq (Ev.t 4 (bI .i64 v3)) (Ev.c _ rfl) rfl) rfl ⟨rfl, trivial⟩ trivial ?_
  refine G.endOps ?_
  refine ifS hF (fun hc7 hF => ?_) (fun hc7 hF => ?_)
  · refine G.cond rfl (fun _ => ?_) (fun hx => Bool.noConfusion (hc7.symm.trans hx))
    refine G.skip ?_
    refine G.seq ?_
    refine G.block ?_
    refine G.seq ?_
    refine G.region ?_
    refine G.op1 (op_move (Ev.t 3 (bI .i64 v3)) rfl) rfl ⟨rfl, trivial⟩ trivial ?_
    obtain ⟨r8, hr8, hF⟩ := bindS hF
    refine G.op1 (op_callQ (sv := .one (bS r8)) cf36 (ct_words_name v3 r8 hr8) rfl rfl (EvQL.cons (EvQ.g (Ev.t 8 (bI .i64 v3))) EvQL.nil) rfl) rfl ⟨rfl, trivial⟩ trivial ?_
    refine G.op1 (op_move (Ev.t 0 (bS word_0)) rfl) rfl ⟨rfl, trivial⟩ trivial ?_
    refine G.op1 (op_eqS (Ev.t 9 (bS r8)) (Ev.t 10 (bS word_0)) rfl) rfl ⟨rfl, rfl, trivial⟩ trivial ?_
    refine G.endOps ?_
    refine ifS hF (fun hc9 hF => ?_) (fun hc9 hF => ?_)
    · refine G.cond rfl (fun _ => ?_) (fun hx => Bool.noConfusion (hc9.symm.trans hx))
      refine G.seq ?_
      refine G.region ?_
      refine G.op1 (op_move (Ev.t 3 (bI .i64 v3)) rfl) rfl ⟨rfl, trivial⟩ trivial ?_
      refine G.op1 (op_assign (Ev.t 12 (bI .i64 v3)) rfl) rfl ⟨rfl, trivial⟩ trivial ?_
      refine G.endOps ?_
      cases hF
      exact G.ret1 Tryd.results44 (RVar.tmp 2 _) ⟨rfl, trivial⟩ trivial
    · refine G.cond rfl (fun hx => Bool.noConfusion (hc9.symm.trans hx)) (fun _ => ?_)
      refine G.skip ?_
      refine G.endBlock ?_
      refine G.region ?_
      refine G.op1 (op_move (Ev.t 3 (bI .i64 v3)) rfl) rfl ⟨rfl, trivial⟩ trivial ?_
      refine G.op1 (op_add (Ev.t 6 (bI .i64 v3)) (Ev.c _ rfl) rfl) rfl ⟨rfl, trivial⟩ trivial ?_
      refine G.op1 (op_assign (Ev.t 7 (bI .i64 (IntKind.wrap .i64 (v3 + 1)))) rfl) rfl ⟨rfl, trivial⟩ trivial ?_
      refine G.endOps ?_
      exact G.arr (J4 (IntKind.wrap .i64 (v3 + 1)) hF) ⟨rfl, rfl, trivial⟩ trivial rfl
  · refine G.cond rfl (fun hx => Bool.noConfusion (hc7.symm.trans hx)) (fun _ => ?_)
    refine G.exit ?_
    refine GX.c ?_
    refine GX.q ?_
    refine GX.bYes ?_
    exact G.arr (J2 () hF) trivial trivial rfl


set_option maxRecDepth 20000 in
set_option maxHeartbeats 2000000 in
theorem ct_words_reader_next (r_0 : Words_reader) (r : (Words_reader × ByteArray)) (hF : words_reader_next r_0 = some r) : CtM Tryd.prog 68 [.pt (.dat 82 (encWords_reader r_0))] (.dat 82 (encWords_reader r.1)) (.one (.d (.v (.string r.2)))) := by
  unfold words_reader_next at hF
  refine CtM.intro (h := .dat 82 (encWords_reader r_0)) 0 Tryd.func68 rfl Tryd.ntmps68 rfl rfl rfl rfl (fun M w b go => ?_)
  refine G.seq ?_
  refine G.region ?_
  refine G.op1 (op_assign (Ev.c _ rfl) rfl) rfl trivial trivial ?_
  refine G.endOps ?_
  refine G.seq ?_
  refine G.seq ?_
  refine G.region ?_
  refine G.op1 (op_move (Ev.t 0 (.ptr 0 0)) rfl) rfl ⟨rfl, trivial⟩ trivial ?_
  refine G.op1 (op_nilCheckP (Ev.t 4 (.ptr 0 0)) rfl) rfl ⟨rfl, trivial⟩ trivial ?_
  refine G.op1 (op_fieldP (off' := 0) Tryd.underlying82 rfl ti24 (by decide) rfl (Ev.t 5 (.ptr 0 0)) rfl) rfl ⟨rfl, trivial⟩ trivial ?_
  refine G.op1 (op_load1P (c := .g (.d (.sl 1 (List.map encS r_0.words)))) Tryd.underlying24 rfl rfl (Ev.t 6 (.ptr 0 0)) rfl) rfl ⟨rfl, trivial⟩ ⟨rfl, trivial⟩ ?_
  refine G.op1 (OpL.cast (op_lenD Tryd.underlying24 (Ev.t 7 (.g (.d (.sl 1 (List.map encS r_0.words))))) rfl) (by rw [List.length_map])) rfl ⟨rfl, trivial⟩ trivial ?_
  refine G.op1 (op_eqI (Ev.t 8 (bI .i64 (r_0.words.length : Int))) (Ev.c _ rfl) rfl) rfl ⟨rfl, trivial⟩ trivial ?_
  refine G.endOps ?_
  refine ifS hF (fun hc1 hF => ?_) (fun hc1 hF => ?_)
  · refine G.cond rfl (fun _ => ?_) (fun hx => Bool.noConfusion (hc1.symm.trans hx))
    refine G.seq ?_
    refine G.region ?_
    refine G.op1 (op_move (Ev.t 0 (.ptr 0 0)) rfl) rfl ⟨rfl, trivial⟩ trivial ?_
    refine G.op1 (op_nilCheckP (Ev.t 10 (.ptr 0 0)) rfl) rfl ⟨rfl, trivial⟩ trivial ?_
    refine G.op1 (op_fieldP (off' := 1) Tryd.underlying82 rfl ti4 (by decide) rfl (Ev.t 11 (.ptr 0 0)) rfl) rfl ⟨rfl, trivial⟩ trivial ?_
    refine G.op3 (op_store1 (cs' := [.g (.d (.sl 1 (List.map encS r_0.words))), bB true]) (c := bB true) trivial ti4 rfl rfl (Ev.t 12 (.ptr 0 1)) (Ev.c _ rfl)) rfl ⟨rfl, trivial⟩ ⟨rfl, trivial⟩ ?_
    refine G.endOps ?_
    refine G.seq ?_
    refine G.region ?_
    refine G.op1 (op_assign (Ev.c _ rfl) rfl) rfl trivial trivial ?_
    refine G.endOps ?_
    have hF := Option.some.inj hF; subst hF
    exact G.retM (retOK1 Tryd.results68 (RVar.tmp 2 _)) ⟨rfl, trivial⟩ trivial ⟨rfl, trivial⟩
  · refine G.cond rfl (fun hx => Bool.noConfusion (hc1.symm.trans hx)) (fun _ => ?_)
    refine G.skip ?_
    refine G.seq ?_
    refine G.region ?_
    refine G.op1 (op_move (Ev.t 0 (.ptr 0 0)) rfl) rfl ⟨rfl, trivial⟩ trivial ?_
    refine G.op1 (op_nilCheckP (Ev.t 13 (.ptr 0 0)) rfl) rfl ⟨rfl, trivial⟩ trivial ?_
    refine G.op1 (op_fieldP (off' := 0) Tryd.underlying82 rfl ti24 (by decide) rfl (Ev.t 14 (.ptr 0 0)) rfl) rfl ⟨rfl, trivial⟩ trivial ?_
    refine G.op1 (op_load1P (c := .g (.d (.sl 1 (List.map encS r_0.words)))) Tryd.underlying24 rfl rfl (Ev.t 15 (.ptr 0 0)) rfl) rfl ⟨rfl, trivial⟩ ⟨rfl, trivial⟩ ?_
    obtain ⟨x2, hx2, hF⟩ := bindS hF
    refine G.op1 (op_index (cs := [.v (.string x2)]) Tryd.underlying24 ti9 (idx_ok hx2).1 (idx_get hx2 encS) (Ev.t 16 (.g (.d (.sl 1 (List.map encS r_0.words))))) (Ev.c _ rfl) rfl) rfl ⟨rfl, trivial⟩ trivial ?_
    refine G.op1 (op_load1E (c := .v (.string x2)) Tryd.underlying9 rfl rfl (Ev.t 17 (.ep [.v (.string x2)])) rfl) rfl ⟨rfl, trivial⟩ trivial ?_
    refine G.op1 (op_assign (Ev.t 18 (bS x2)) rfl) rfl ⟨rfl, trivial⟩ trivial ?_
    refine G.endOps ?_
    refine G.seq ?_
    refine G.region ?_
    refine G.op1 (op_move (Ev.t 0 (.ptr 0 0)) rfl) rfl ⟨rfl, trivial⟩ trivial ?_
    refine G.op1 (op_move (Ev.t 0 (.ptr 0 0)) rfl) rfl ⟨rfl, trivial⟩ trivial ?_
    refine G.op1 (op_nilCheckP (Ev.t 20 (.ptr 0 0)) rfl) rfl ⟨rfl, trivial⟩ trivial ?_
    refine G.op1 (op_fieldP (off' := 0) Tryd.underlying82 rfl ti24 (by decide) rfl (Ev.t 21 (.ptr 0 0)) rfl) rfl ⟨rfl, trivial⟩ trivial ?_
    refine G.op1 (op_load1P (c := .g (.d (.sl 1 (List.map encS r_0.words)))) Tryd.underlying24 rfl rfl (Ev.t 22 (.ptr 0 0)) rfl) rfl ⟨rfl, trivial⟩ ⟨rfl, trivial⟩ ?_
    obtain ⟨l3, hl3, hF⟩ := bindS hF
    refine G.op1 (op_sliceD (lo := some 1) (hi := none) Tryd.underlying24 ti9 (sub_okE hl3 encS).1 (sub_okE hl3 encS).2.1 (Int.le_refl _) (sub_okE hl3 encS).2.2 (Ev.t 23 (.g (.d (.sl 1 (List.map encS r_0.words))))) (EvO.some (Ev.c _ rfl)) EvO.none rfl) rfl ⟨rfl, trivial⟩ trivial ?_
    refine G.op1 (op_nilCheckP (Ev.t 19 (.ptr 0 0)) rfl) rfl ⟨rfl, trivial⟩ trivial ?_
    refine G.op1 (op_fieldP (off' := 0) Tryd.underlying82 rfl ti24 (by decide) rfl (Ev.t 25 (.ptr 0 0)) rfl) rfl ⟨rfl, trivial⟩ trivial ?_
    refine G.op3 (op_store1 (cs' := [.g (.d (.sl 1 (List.map encS l3))), bB r_0.bad]) (c := .g (.d (.sl 1 (List.map encS l3)))) trivial ti24 rfl rfl (Ev.t 26 (.ptr 0 0)) (Ev.t 24 (.g (.d (.sl 1 (List.map encS l3)))))) rfl ⟨rfl, rfl, trivial⟩ ⟨rfl, trivial⟩ ?_
    refine G.endOps ?_
    refine G.seq ?_
    refine G.region ?_
    refine G.op1 (op_move (Ev.t 3 (bS x2)) rfl) rfl ⟨rfl, trivial⟩ trivial ?_
    refine G.op1 (op_assign (Ev.t 27 (bS x2)) rfl) rfl ⟨rfl, trivial⟩ trivial ?_
    refine G.endOps ?_
    have hF := Option.some.inj hF; subst hF
    exact G.retM (retOK1 Tryd.results68 (RVar.tmp 2 _)) ⟨rfl, trivial⟩ trivial ⟨rfl, trivial⟩


set_option maxRecDepth 20000 in
set_option maxHeartbeats 2000000 in
theorem ct_words_decimal (s_0 : ByteArray) (r : (Int × Bool)) (hF : words_decimal s_0 = some r) : Ct Tryd.prog 67 [.g (.d (.v (.string s_0)))] (.tup [.d (.v (.int .i64 r.1)), .d (.v (.bool r.2))]) := by
  unfold words_decimal at hF
  refine Ct.intro Tryd.func67 rfl Tryd.ntmps67 rfl rfl fun M w => ?_
  refine G.seq ?_
  refine G.region ?_
  refine G.op1 (op_assign (Ev.c _ rfl) rfl) rfl trivial trivial ?_
  refine G.op1 (op_assign (Ev.c _ rfl) rfl) rfl trivial trivial ?_
  refine G.endOps ?_
  refine G.seq ?_
  refine G.seq ?_
  refine G.joinC (T := Bool) (fun y1 => ⟨[(0, .one (bS s_0)), (22, .one (bB y1))], []⟩) (fun y1 => words_decimal_k1 s_0 y1 = some r) (fun y1 hF => ?_) (fun J17 => ?_)
  · unfold words_decimal_k1 at hF
    refine ifS hF (fun hc2 hF => ?_) (fun hc2 hF => ?_)
    · refine G.cond rfl (fun _ => ?_) (fun hx => Bool.noConfusion (hc2.symm.trans hx))
      refine G.seq ?_
      refine G.region ?_
      refine G.op1 (op_assign (Ev.c _ rfl) rfl) rfl trivial trivial ?_
      refine G.op1 (op_assign (Ev.c _ rfl) rfl) rfl trivial trivial ?_
      refine G.endOps ?_
      cases hF
      exact G.ret2 Tryd.results67 (RVar.tmp 2 _) (RVar.tmp 3 _) ⟨rfl, rfl, trivial⟩ trivial
    · refine G.cond rfl (fun hx => Bool.noConfusion (hc2.symm.trans hx)) (fun _ => ?_)
      refine G.skip ?_
      refine G.seq ?_
      refine G.region ?_
      refine G.op1 (op_assign (Ev.c _ rfl) rfl) rfl trivial trivial ?_
      refine G.endOps ?_
      refine G.seq ?_
      refine G.seq ?_
      refine G.region ?_
      refine G.op1 (op_move (Ev.t 0 (bS s_0)) rfl) rfl ⟨rfl, trivial⟩ trivial ?_
      refine G.op1 (op_lenS Tryd.underlying9 (Ev.t 23 (bS s_0)) rfl) rfl ⟨rfl, trivial⟩ trivial ?_
      refine G.op1 (op_move (Ev.c _ rfl) rfl) rfl trivial trivial ?_
      refine G.endOps ?_
      refine G.joinC (T := Int) (fun y3 => ⟨[(4, .one (bI .i64 y3))], []⟩) (fun y3 => words_decimal_k2 y3 = some r) (fun y3 hF => ?_) (fun J4 => ?_)
      · unfold words_decimal_k2 at hF
        refine G.seq ?_
        refine G.region ?_
        refine G.op1 (op_move (Ev.t 4 (bI .i64 y3)) rfl) rfl ⟨rfl, trivial⟩ trivial ?_
        refine G.op1 (op_move (Ev.t 4 (bI .i64 y3)) rfl) rfl ⟨rfl, trivial⟩ trivial ?_
        refine G.op1 (op_leq (Ev.t 48 (bI .i64 y3)) (Ev.c _ rfl) rfl) rfl ⟨rfl, trivial⟩ trivial ?_
        refine G.op1 (op_assign (Ev.t 47 (bI .i64 y3)) rfl) rfl ⟨rfl, trivial⟩ trivial ?_
        refine G.op1 (op_assign (Ev.t 49 (bB (decide (y3 ≤ 63)))) rfl) rfl ⟨rfl, trivial⟩ trivial ?_
        refine G.endOps ?_
        cases hF
        exact G.ret2 Tryd.results67 (RVar.tmp 2 _) (RVar.tmp 3 _) ⟨rfl, rfl, trivial⟩ trivial
      refine G.block ?_
      refine G.keep (sl' := [(0, .one (bS s_0)), (4, .one (bI .i64 0)), (24, .one (bI .i64 (s_0.size : Int))), (25, .one (bI .i64 0))]) (hp' := []) ⟨rfl, rfl, rfl, rfl, trivial⟩ trivial rfl ?_
      refine G.loopF (fun (v5 : Int × Int) => ⟨[(0, .one (bS s_0)), (4, .one (bI .i64 v5.1)), (24, .one (bI .i64 (s_0.size : Int))), (25, .one (bI .i64 v5.2))], []⟩) hF rfl (fun K8 again7 v5 J6 hF => ?_)
      unfold words_decimal_l3 at hF
      refine G.seq ?_
      refine G.region ?_
      refine G.op1 (op_lss (Ev.t 25 (bI .i64 v5.2)) (Ev.t 24 (bI .i64 (s_0.size : Int))) rfl) rfl ⟨rfl, rfl, trivial⟩ trivial ?_
      refine G.endOps ?_
      refine G.seq ?_
      refine ifS hF (fun hc9 hF => ?_) (fun hc9 hF => ?_)
      · refine G.cond rfl (fun _ => ?_) (fun hx => Bool.noConfusion (hc9.symm.trans hx))
        refine G.skip ?_
        refine G.seq ?_
        refine G.block ?_
        refine G.seq ?_
        refine G.region ?_
        refine G.op1 (op_move (Ev.t 25 (bI .i64 v5.2)) rfl) rfl ⟨rfl, trivial⟩ trivial ?_
        refine G.op1 (op_assign (Ev.t 27 (bI .i64 v5.2)) rfl) rfl ⟨rfl, trivial⟩ trivial ?_
        refine G.endOps ?_
        refine G.seq ?_
        refine G.seq ?_
        refine G.joinC (T := Bool) (fun y10 => ⟨[(0, .one (bS s_0)), (4, .one (bI .i64 v5.1)), (5, .one (bI .i64 v5.2)), (24, .one (bI .i64 (s_0.size : Int))), (25, .one (bI .i64 v5.2)), (37, .one (bB y10))], []⟩) (fun y10 => words_decimal_k4 s_0 again7 v5 y10 = some r) (fun y10 hF => ?_) (fun J13 => ?_)
        · unfold words_decimal_k4 at hF
          refine ifS hF (fun hc11 hF => ?_) (fun hc11 hF => ?_)
          · refine G.cond rfl (fun _ => ?_) (fun hx => Bool.noConfusion (hc11.symm.trans hx))
            refine G.seq ?_
            refine G.region ?_
            refine G.op1 (op_assign (Ev.c _ rfl) rfl) rfl trivial trivial ?_
            refine G.op1 (op_assign (Ev.c _ rfl) rfl) rfl trivial trivial ?_
            refine G.endOps ?_
            cases hF
            exact G.ret2 Tryd.results67 (RVar.tmp 2 _) (RVar.tmp 3 _) ⟨rfl, rfl, trivial⟩ trivial
          · refine G.cond rfl (fun hx => Bool.noConfusion (hc11.symm.trans hx)) (fun _ => ?_)
            refine G.skip ?_
            refine G.region ?_
            refine G.op1 (op_move (Ev.t 4 (bI .i64 v5.1)) rfl) rfl ⟨rfl, trivial⟩ trivial ?_
            refine G.op1 (op_mul (Ev.t 38 (bI .i64 v5.1)) (Ev.c _ rfl) rfl) rfl ⟨rfl, trivial⟩ trivial ?_
            refine G.op1 (op_move (Ev.t 0 (bS s_0)) rfl) rfl ⟨rfl, trivial⟩ trivial ?_
            refine G.op1 (op_move (Ev.t 5 (bI .i64 v5.2)) rfl) rfl ⟨rfl, trivial⟩ trivial ?_
            obtain ⟨b12, hb12, hF⟩ := bindS hF
            refine G.op1 (op_indexS Tryd.underlying9 (sidx_ok hb12).1 (sidx_ok hb12).2 (Ev.t 40 (bS s_0)) (Ev.t 41 (bI .i64 v5.2)) rfl) rfl ⟨rfl, rfl, trivial⟩ trivial ?_
            refine G.op1 (op_sub (Ev.t 42 (bI .u8 (b12.toNat : Int))) (Ev.c _ rfl) rfl) rfl ⟨rfl, trivial⟩ trivial ?_
            refine G.op1 (op_convI Tryd.underlying5 Tryd.underlying3 (Ev.t 43 (bI .u8 (IntKind.wrap .u8 ((b12.toNat : Int) - 48)))) rfl) rfl ⟨rfl, trivial⟩ trivial ?_
            refine G.op1 (op_add (Ev.t 39 (bI .i64 (IntKind.wrap .i64 (v5.1 * 10)))) (Ev.t 44 (bI .i64 (IntKind.wrap .i64 (IntKind.wrap .u8 ((b12.toNat : Int) - 48))))) rfl) rfl ⟨rfl, rfl, trivial⟩ trivial ?_
            refine G.op1 (op_assign (Ev.t 45 (bI .i64 (IntKind.wrap .i64 ((IntKind.wrap .i64 (v5.1 * 10)) + (IntKind.wrap .i64 (IntKind.wrap .u8 ((b12.toNat : Int) - 48))))))) rfl) rfl ⟨rfl, trivial⟩ trivial ?_
            refine G.endOps ?_
            refine G.endBlock ?_
            refine G.region ?_
            refine G.op1 (op_add (Ev.t 25 (bI .i64 v5.2)) (Ev.c _ rfl) rfl) rfl ⟨rfl, trivial⟩ trivial ?_
            refine G.op1 (op_move (Ev.t 46 (bI .i64 (IntKind.wrap .i64 (v5.2 + 1)))) rfl) rfl ⟨rfl, trivial⟩ trivial ?_
            refine G.endOps ?_
            exact G.arr (J6 (IntKind.wrap .i64 ((IntKind.wrap .i64 (v5.1 * 10)) + (IntKind.wrap .i64 (IntKind.wrap .u8 ((b12.toNat : Int) - 48)))), IntKind.wrap .i64 (v5.2 + 1)) hF) ⟨rfl, rfl, rfl, rfl, trivial⟩ trivial rfl
        refine G.region ?_
        refine G.op1 (op_move (Ev.t 0 (bS s_0)) rfl) rfl ⟨rfl, trivial⟩ trivial ?_
        refine G.op1 (op_move (Ev.t 5 (bI .i64 v5.2)) rfl) rfl ⟨rfl, trivial⟩ trivial ?_
        obtain ⟨b14, hb14, hF⟩ := bindS hF
        refine G.op1 (op_indexS Tryd.underlying9 (sidx_ok hb14).1 (sidx_ok hb14).2 (Ev.t 28 (bS s_0)) (Ev.t 29 (bI .i64 v5.2)) rfl) rfl ⟨rfl, rfl, trivial⟩ trivial ?_
        refine G.op1 (op_lss (Ev.t 30 (bI .u8 (b14.toNat : Int))) (Ev.c _ rfl) rfl) rfl ⟨rfl, trivial⟩ trivial ?_
        refine G.op1 (op_move (Ev.t 31 (bB (decide ((b14.toNat : Int) < 48)))) rfl) rfl ⟨rfl, trivial⟩ trivial ?_
        refine ifS hF (fun hc15 hF => ?_) (fun hc15 hF => ?_)
        · refine G.known (t := 32) hc15 rfl ?_
          refine G.opN1 rfl rfl rfl rfl rfl ?_
          refine G.opN1 rfl rfl rfl rfl rfl ?_
          refine G.opN1 rfl rfl rfl rfl rfl ?_
          refine G.opN1 rfl rfl rfl rfl rfl ?_
          refine G.op1 (op_pickT (Ev.t 32 (bB true)) (Ev.c _ rfl) rfl) rfl ⟨rfl, trivial⟩ trivial ?_
          refine G.endOps ?_
          exact G.arr (J13 true hF) ⟨rfl, rfl, rfl, rfl, rfl, rfl, trivial⟩ trivial rfl
        · refine G.known (t := 32) hc15 rfl ?_
          refine G.opG1 (op_move (Ev.t 0 (bS s_0)) rfl) rfl rfl rfl ⟨rfl, trivial⟩ trivial ?_
          refine G.opG1 (op_move (Ev.t 5 (bI .i64 v5.2)) rfl) rfl rfl rfl ⟨rfl, trivial⟩ trivial ?_
          obtain ⟨b16, hb16, hF⟩ := bindS hF
          refine G.opG1 (op_indexS Tryd.underlying9 (sidx_ok hb16).1 (sidx_ok hb16).2 (Ev.t 33 (bS s_0)) (Ev.t 34 (bI .i64 v5.2)) rfl) rfl rfl rfl ⟨rfl, rfl, trivial⟩ trivial ?_
          refine G.opG1 (op_gtr (Ev.t 35 (bI .u8 (b16.toNat : Int))) (Ev.c _ rfl) rfl) rfl rfl rfl ⟨rfl, trivial⟩ trivial ?_
          refine G.op1 (op_pickF (Ev.t 32 (bB false)) (Ev.t 36 (bB (decide (57 < (b16.toNat : Int))))) rfl) rfl ⟨rfl, rfl, trivial⟩ trivial ?_
          refine G.endOps ?_
          exact G.arr (J13 (decide (57 < (b16.toNat : Int))) hF) ⟨rfl, rfl, rfl, rfl, rfl, rfl, trivial⟩ trivial rfl
      · refine G.cond rfl (fun hx => Bool.noConfusion (hc9.symm.trans hx)) (fun _ => ?_)
        refine G.exit ?_
        refine GX.c ?_
        refine GX.q ?_
        refine GX.bYes ?_
        exact G.arr (J4 v5.1 hF) ⟨rfl, trivial⟩ trivial rfl
  refine G.region ?_
  refine G.op1 (op_move (Ev.t 0 (bS s_0)) rfl) rfl ⟨rfl, trivial⟩ trivial ?_
  refine G.op1 (op_eqS (Ev.t 6 (bS s_0)) (Ev.c _ rfl) rfl) rfl ⟨rfl, trivial⟩ trivial ?_
  refine G.op1 (op_move (Ev.t 7 (bB (seq s_0 ByteArray.empty))) rfl) rfl ⟨rfl, trivial⟩ trivial ?_
  refine G.joinL (T := Bool) 4 (fun y18 => ⟨[(0, .one (bS s_0)), (12, .one (bB y18))], []⟩) (fun y18 => words_decimal_k5 s_0 y18 = some r) (fun y18 hF => ?_) (fun J22 => ?_)
  · unfold words_decimal_k5 at hF
    refine G.op1 (op_move (Ev.t 12 (bB y18)) rfl) rfl ⟨rfl, trivial⟩ trivial ?_
    refine ifS hF (fun hc19 hF => ?_) (fun hc19 hF => ?_)
    · refine G.known (t := 13) hc19 rfl ?_
      refine G.opN1 rfl rfl rfl rfl rfl ?_
      refine G.opN1 rfl rfl rfl rfl rfl ?_
      refine G.opN1 rfl rfl rfl rfl rfl ?_
      refine G.opN1 rfl rfl rfl rfl rfl ?_
      refine G.opU rfl rfl rfl rfl ?_
      refine G.opU rfl rfl rfl rfl ?_
      refine G.opU rfl rfl rfl rfl ?_
      refine G.opN1 rfl rfl rfl rfl rfl ?_
      refine G.op1 (op_pickT (Ev.t 13 (bB true)) (Ev.c _ rfl) rfl) rfl ⟨rfl, trivial⟩ trivial ?_
      refine G.endOps ?_
      exact G.arr (J17 true hF) ⟨rfl, rfl, trivial⟩ trivial rfl
    · refine G.known (t := 13) hc19 rfl ?_
      refine G.opG1 (op_move (Ev.t 0 (bS s_0)) rfl) rfl rfl rfl ⟨rfl, trivial⟩ trivial ?_
      refine G.opG1 (op_lenS Tryd.underlying9 (Ev.t 14 (bS s_0)) rfl) rfl rfl rfl ⟨rfl, trivial⟩ trivial ?_
      refine G.opG1 (op_eqI (Ev.t 15 (bI .i64 (s_0.size : Int))) (Ev.c _ rfl) rfl) rfl rfl rfl ⟨rfl, trivial⟩ trivial ?_
      refine G.opG1 (op_move (Ev.t 16 (bB (decide ((s_0.size : Int) = 2)))) rfl) rfl rfl rfl ⟨rfl, trivial⟩ trivial ?_
      refine ifS hF (fun hc20 hF => ?_) (fun hc20 hF => ?_)
      · refine G.known (t := 17) hc20 rfl ?_
        refine G.opG1 (op_move (Ev.t 0 (bS s_0)) rfl) rfl rfl rfl ⟨rfl, trivial⟩ trivial ?_
        obtain ⟨b21, hb21, hF⟩ := bindS hF
        refine G.opG1 (op_indexS Tryd.underlying9 (sidx_ok hb21).1 (sidx_ok hb21).2 (Ev.t 18 (bS s_0)) (Ev.c _ rfl) rfl) rfl rfl rfl ⟨rfl, trivial⟩ trivial ?_
        refine G.opG1 (op_eqI (Ev.t 19 (bI .u8 (b21.toNat : Int))) (Ev.c _ rfl) rfl) rfl rfl rfl ⟨rfl, trivial⟩ trivial ?_
        refine G.opG1 (op_pickT (Ev.t 17 (bB true)) (Ev.t 20 (bB (decide ((b21.toNat : Int) = 48)))) rfl) rfl rfl rfl ⟨rfl, rfl, trivial⟩ trivial ?_
        refine G.op1 (op_pickF (Ev.t 13 (bB false)) (Ev.t 21 (bB (decide ((b21.toNat : Int) = 48)))) rfl) rfl ⟨rfl, rfl, trivial⟩ trivial ?_
        refine G.endOps ?_
        exact G.arr (J17 (decide ((b21.toNat : Int) = 48)) hF) ⟨rfl, rfl, trivial⟩ trivial rfl
      · refine G.known (t := 17) hc20 rfl ?_
        refine G.opN1 rfl rfl rfl rfl rfl ?_
        refine G.opN1 rfl rfl rfl rfl rfl ?_
        refine G.opN1 rfl rfl rfl rfl rfl ?_
        refine G.opG1 (op_pickF (Ev.t 17 (bB false)) (Ev.c _ rfl) rfl) rfl rfl rfl ⟨rfl, trivial⟩ trivial ?_
        refine G.op1 (op_pickF (Ev.t 13 (bB false)) (Ev.t 21 (bB false)) rfl) rfl ⟨rfl, rfl, trivial⟩ trivial ?_
        refine G.endOps ?_
        exact G.arr (J17 false hF) ⟨rfl, rfl, trivial⟩ trivial rfl
  refine ifS hF (fun hc23 hF => ?_) (fun hc23 hF => ?_)
  · refine G.known (t := 8) hc23 rfl ?_
    refine G.opN1 rfl rfl rfl rfl rfl ?_
    refine G.opN1 rfl rfl rfl rfl rfl ?_
    refine G.opN1 rfl rfl rfl rfl rfl ?_
    refine G.op1 (op_pickT (Ev.t 8 (bB true)) (Ev.c _ rfl) rfl) rfl ⟨rfl, trivial⟩ trivial ?_
    exact G.arr (J22 true hF) ⟨rfl, rfl, trivial⟩ trivial rfl
  · refine G.known (t := 8) hc23 rfl ?_
    refine G.opG1 (op_move (Ev.t 0 (bS s_0)) rfl) rfl rfl rfl ⟨rfl, trivial⟩ trivial ?_
    refine G.opG1 (op_lenS Tryd.underlying9 (Ev.t 9 (bS s_0)) rfl) rfl rfl rfl ⟨rfl, trivial⟩ trivial ?_
    refine G.opG1 (op_gtr (Ev.t 10 (bI .i64 (s_0.size : Int))) (Ev.c _ rfl) rfl) rfl rfl rfl ⟨rfl, trivial⟩ trivial ?_
    refine G.op1 (op_pickF (Ev.t 8 (bB false)) (Ev.t 11 (bB (decide (2 < (s_0.size : Int))))) rfl) rfl ⟨rfl, rfl, trivial⟩ trivial ?_
    exact G.arr (J22 (decide (2 < (s_0.size : Int))) hF) ⟨rfl, rfl, trivial⟩ trivial rfl


set_option maxRecDepth 20000 in
set_option maxHeartbeats 2000000 in
theorem ct_words_reader_number (r_0 : Words_reader) (r : (Words_reader × Int)) (hF : words_reader_number r_0 = some r) : CtM Tryd.prog 45 [.pt (.dat 82 (encWords_reader r_0))] (.dat 82 (encWords_reader r.1)) (.one (.d (.v (.int .i64 r.2)))) := by
  unfold words_reader_number at hF
  refine CtM.intro (h := .dat 82 (encWords_reader r_0)) 0 Tryd.func45 rfl Tryd.ntmps45 rfl rfl rfl rfl (fun M w b go => ?_)
  refine G.seq ?_
  refine G.region ?_
  refine G.op1 (op_assign (Ev.c _ rfl) rfl) rfl trivial trivial ?_
  refine G.endOps ?_
  refine G.seq ?_
  refine G.region ?_
  refine G.op1 (op_move (Ev.t 0 (.ptr 0 0)) rfl) rfl ⟨rfl, trivial⟩ trivial ?_
  obtain ⟨r1, hr1, hF⟩ := bindS hF
  refine G.opM (op_callM (k := 0) (h := .dat 82 (encWords_reader r_0)) (h' := .dat 82 (encWords_reader r1.1)) 0 (sv := .one (bS r1.2)) cf68 (ct_words_reader_next r_0 r1 hr1) rfl rfl (EvM.pt (Ev.t 6 (.ptr 0 0)) EvM.nil) rfl) rfl ⟨rfl, trivial⟩ ⟨rfl, trivial⟩ ?_
  obtain ⟨r2, hr2, hF⟩ := bindS hF
  refine G.op1 (op_callQ (sv := .tup [bI .i64 r2.1, bB r2.2]) cf67 (ct_words_decimal r1.2 r2 hr2) rfl rfl (EvQL.cons (EvQ.g (Ev.t 7 (bS r1.2))) EvQL.nil) rfl) rfl ⟨rfl, trivial⟩ trivial ?_
  refine G.op1 (op_moveS (t := 8) (sv := .tup [bI .i64 r2.1, bB r2.2]) rfl) rfl ⟨rfl, trivial⟩ trivial ?_
  refine G.op1 (op_extract (l := [bI .i64 r2.1, bB r2.2]) (c := bI .i64 r2.1) rfl rfl) rfl ⟨rfl, trivial⟩ trivial ?_
  refine G.op1 (op_extract (l := [bI .i64 r2.1, bB r2.2]) (c := bB r2.2) rfl rfl) rfl ⟨rfl, trivial⟩ trivial ?_
  refine G.op1 (op_assign (Ev.t 9 (bI .i64 r2.1)) rfl) rfl ⟨rfl, trivial⟩ trivial ?_
  refine G.op1 (op_assign (Ev.t 10 (bB r2.2)) rfl) rfl ⟨rfl, trivial⟩ trivial ?_
  refine G.endOps ?_
  refine G.seq ?_
  refine G.region ?_
  refine G.op1 (op_move (Ev.t 0 (.ptr 0 0)) rfl) rfl ⟨rfl, trivial⟩ trivial ?_
  refine G.op1 (op_move (Ev.t 0 (.ptr 0 0)) rfl) rfl ⟨rfl, trivial⟩ trivial ?_
  refine G.op1 (op_nilCheckP (Ev.t 12 (.ptr 0 0)) rfl) rfl ⟨rfl, trivial⟩ trivial ?_
  refine G.op1 (op_fieldP (off' := 1) Tryd.underlying82 rfl ti4 (by decide) rfl (Ev.t 13 (.ptr 0 0)) rfl) rfl ⟨rfl, trivial⟩ trivial ?_
  refine G.op1 (op_load1P (c := bB r1.1.bad) Tryd.underlying4 rfl rfl (Ev.t 14 (.ptr 0 1)) rfl) rfl ⟨rfl, trivial⟩ ⟨rfl, trivial⟩ ?_
  refine G.op1 (op_move (Ev.t 15 (bB r1.1.bad)) rfl) rfl ⟨rfl, trivial⟩ trivial ?_
  refine ifS hF (fun hc3 hF => ?_) (fun hc3 hF => ?_)
  · refine G.known (t := 16) hc3 rfl ?_
    refine G.opN1 rfl rfl rfl rfl rfl ?_
    refine G.opN1 rfl rfl rfl rfl rfl ?_
    refine G.op1 (op_pickT (Ev.t 16 (bB true)) (Ev.c _ rfl) rfl) rfl ⟨rfl, trivial⟩ trivial ?_
    refine G.op1 (op_nilCheckP (Ev.t 11 (.ptr 0 0)) rfl) rfl ⟨rfl, trivial⟩ trivial ?_
    refine G.op1 (op_fieldP (off' := 1) Tryd.underlying82 rfl ti4 (by decide) rfl (Ev.t 20 (.ptr 0 0)) rfl) rfl ⟨rfl, trivial⟩ trivial ?_
    refine G.op3 (op_store1 (cs' := [.g (.d (.sl 1 (List.map encS r1.1.words))), bB true]) (c := bB true) trivial ti4 rfl rfl (Ev.t 21 (.ptr 0 1)) (Ev.t 19 (bB true))) rfl ⟨rfl, rfl, trivial⟩ ⟨rfl, trivial⟩ ?_
    refine G.endOps ?_
    refine G.seq ?_
    refine G.region ?_
    refine G.op1 (op_move (Ev.t 3 (bI .i64 r2.1)) rfl) rfl ⟨rfl, trivial⟩ trivial ?_
    refine G.op1 (op_assign (Ev.t 22 (bI .i64 r2.1)) rfl) rfl ⟨rfl, trivial⟩ trivial ?_
    refine G.endOps ?_
    have hF := Option.some.inj hF; subst hF
    exact G.retM (retOK1 Tryd.results45 (RVar.tmp 2 _)) ⟨rfl, trivial⟩ trivial ⟨rfl, trivial⟩
  · refine G.known (t := 16) hc3 rfl ?_
    refine G.opG1 (op_move (Ev.t 4 (bB r2.2)) rfl) rfl rfl rfl ⟨rfl, trivial⟩ trivial ?_
    refine G.opG1 (op_not (Ev.t 17 (bB r2.2)) rfl) rfl rfl rfl ⟨rfl, trivial⟩ trivial ?_
    refine G.op1 (op_pickF (Ev.t 16 (bB false)) (Ev.t 18 (bB (!r2.2))) rfl) rfl ⟨rfl, rfl, trivial⟩ trivial ?_
    refine G.op1 (op_nilCheckP (Ev.t 11 (.ptr 0 0)) rfl) rfl ⟨rfl, trivial⟩ trivial ?_
    refine G.op1 (op_fieldP (off' := 1) Tryd.underlying82 rfl ti4 (by decide) rfl (Ev.t 20 (.ptr 0 0)) rfl) rfl ⟨rfl, trivial⟩ trivial ?_
    refine G.op3 (op_store1 (cs' := [.g (.d (.sl 1 (List.map encS r1.1.words))), bB (!r2.2)]) (c := bB (!r2.2)) trivial ti4 rfl rfl (Ev.t 21 (.ptr 0 1)) (Ev.t 19 (bB (!r2.2)))) rfl ⟨rfl, rfl, trivial⟩ ⟨rfl, trivial⟩ ?_
    refine G.endOps ?_
    refine G.seq ?_
    refine G.region ?_
    refine G.op1 (op_move (Ev.t 3 (bI .i64 r2.1)) rfl) rfl ⟨rfl, trivial⟩ trivial ?_
    refine G.op1 (op_assign (Ev.t 22 (bI .i64 r2.1)) rfl) rfl ⟨rfl, trivial⟩ trivial ?_
    refine G.endOps ?_
    have hF := Option.some.inj hF; subst hF
    exact G.retM (retOK1 Tryd.results45 (RVar.tmp 2 _)) ⟨rfl, trivial⟩ trivial ⟨rfl, trivial⟩


set_option maxRecDepth 20000 in
set_option maxHeartbeats 2000000 in
theorem ct_internal_stringslite_HasPrefix (s_0 : ByteArray) (prefix_1 : ByteArray) (r : Bool) (hF : internal_stringslite_HasPrefix s_0 prefix_1 = some r) : Ct Tryd.prog 97 [.g (.d (.v (.string s_0))), .g (.d (.v (.string prefix_1)))] (.one (.d (.v (.bool r)))) := by
  unfold internal_stringslite_HasPrefix at hF
  refine Ct.intro Tryd.func97 rfl Tryd.ntmps97 rfl rfl fun M w => ?_
  refine G.seq ?_
  refine G.region ?_
  refine G.op1 (op_assign (Ev.c _ rfl) rfl) rfl trivial trivial ?_
  refine G.endOps ?_
  refine G.seq ?_
  refine G.region ?_
  refine G.op1 (op_move (Ev.t 0 (bS s_0)) rfl) rfl ⟨rfl, trivial⟩ trivial ?_
  refine G.op1 (op_lenS Tryd.underlying9 (Ev.t 5 (bS s_0)) rfl) rfl ⟨rfl, trivial⟩ trivial ?_
  refine G.op1 (op_move (Ev.t 1 (bS prefix_1)) rfl) rfl ⟨rfl, trivial⟩ trivial ?_
  refine G.op1 (op_lenS Tryd.underlying9 (Ev.t 7 (bS prefix_1)) rfl) rfl ⟨rfl, trivial⟩ trivial ?_
  refine G.op1 (op_geq (Ev.t 6 (bI .i64 (s_0.size : Int))) (Ev.t 8 (bI .i64 (prefix_1.size : Int))) rfl) rfl ⟨rfl, rfl, trivial⟩ trivial ?_
  refine G.op1 (op_move (Ev.t 9 (bB (decide ((prefix_1.size : Int) ≤ (s_0.size : Int))))) rfl) rfl ⟨rfl, trivial⟩ trivial ?_
  refine ifS hF (fun hc1 hF => ?_) (fun hc1 hF => ?_)
  · refine G.known (t := 10) hc1 rfl ?_
    refine G.opG1 (op_move (Ev.t 0 (bS s_0)) rfl) rfl rfl rfl ⟨rfl, trivial⟩ trivial ?_
    refine G.opG1 (op_move (Ev.t 1 (bS prefix_1)) rfl) rfl rfl rfl ⟨rfl, trivial⟩ trivial ?_
    refine G.opG1 (op_lenS Tryd.underlying9 (Ev.t 12 (bS prefix_1)) rfl) rfl rfl rfl ⟨rfl, trivial⟩ trivial ?_
    obtain ⟨s2, hs2, hF⟩ := bindS hF
    refine G.opG1 (OpL.cast (op_sliceS (lo := none) (hi := some (prefix_1.size : Int)) Tryd.underlying9 (ssub_ok hs2).1 (ssub_ok hs2).2.1 (ssub_ok hs2).2.2.1 (Ev.t 11 (bS s_0)) EvO.none (EvO.some (Ev.t 13 (bI .i64 (prefix_1.size : Int)))) rfl) (congrArg (fun s => bS s) (ssub_ok hs2).2.2.2)) rfl rfl rfl ⟨rfl, rfl, trivial⟩ trivial ?_
    refine G.opG1 (op_move (Ev.t 1 (bS prefix_1)) rfl) rfl rfl rfl ⟨rfl, trivial⟩ trivial ?_
    refine G.opG1 (op_eqS (Ev.t 14 (bS s2)) (Ev.t 15 (bS prefix_1)) rfl) rfl rfl rfl ⟨rfl, rfl, trivial⟩ trivial ?_
    refine G.op1 (op_pickT (Ev.t 10 (bB true)) (Ev.t 16 (bB (seq s2 prefix_1))) rfl) rfl ⟨rfl, rfl, trivial⟩ trivial ?_
    refine G.op1 (op_assign (Ev.t 17 (bB (seq s2 prefix_1))) rfl) rfl ⟨rfl, trivial⟩ trivial ?_
    refine G.endOps ?_
    cases hF
    exact G.ret1 Tryd.results97 (RVar.tmp 4 _) ⟨rfl, trivial⟩ trivial
  · refine G.known (t := 10) hc1 rfl ?_
    refine G.opN1 rfl rfl rfl rfl rfl ?_
    refine G.opN1 rfl rfl rfl rfl rfl ?_
    refine G.opN1 rfl rfl rfl rfl rfl ?_
    refine G.opN1 rfl rfl rfl rfl rfl ?_
    refine G.opN1 rfl rfl rfl rfl rfl ?_
    refine G.opN1 rfl rfl rfl rfl rfl ?_
    refine G.op1 (op_pickF (Ev.t 10 (bB false)) (Ev.c _ rfl) rfl) rfl ⟨rfl, trivial⟩ trivial ?_
    refine G.op1 (op_assign (Ev.t 17 (bB false)) rfl) rfl ⟨rfl, trivial⟩ trivial ?_
    refine G.endOps ?_
    cases hF
    exact G.ret1 Tryd.results97 (RVar.tmp 4 _) ⟨rfl, trivial⟩ trivial


set_option maxRecDepth 20000 in
set_option maxHeartbeats 2000000 in
theorem ct_internal_stringslite_TrimPrefix (s_0 : ByteArray) (prefix_1 : ByteArray) (r : ByteArray) (hF : internal_stringslite_TrimPrefix s_0 prefix_1 = some r) : Ct Tryd.prog 87 [.g (.d (.v (.string s_0))), .g (.d (.v (.string prefix_1)))] (.one (.d (.v (.string r)))) := by
  unfold internal_stringslite_TrimPrefix at hF
  refine Ct.intro Tryd.func87 rfl Tryd.ntmps87 rfl rfl fun M w => ?_
  refine G.seq ?_
  refine G.region ?_
  refine G.op1 (op_assign (Ev.c _ rfl) rfl) rfl trivial trivial ?_
  refine G.endOps ?_
  refine G.seq ?_
  refine G.seq ?_
  refine G.region ?_
  refine G.op1 (op_move (Ev.t 0 (bS s_0)) rfl) rfl ⟨rfl, trivial⟩ trivial ?_
  refine G.op1 (op_move (Ev.t 1 (bS prefix_1)) rfl) rfl ⟨rfl, trivial⟩ trivial ?_
  obtain ⟨r1, hr1, hF⟩ := bindS hF
  refine G.op1 (op_callQ (sv := .one (bB r1)) cf97 (ct_internal_stringslite_HasPrefix s_0 prefix_1 r1 hr1) rfl rfl (EvQL.cons (EvQ.g (Ev.t 5 (bS s_0))) (EvQL.cons (EvQ.g (Ev.t 6 (bS prefix_1))) EvQL.nil)) rfl) rfl ⟨rfl, rfl, trivial⟩ trivial ?_
  refine G.endOps ?_
  refine ifS hF (fun hc2 hF => ?_) (fun hc2 hF => ?_)
  · refine G.cond rfl (fun _ => ?_) (fun hx => Bool.noConfusion (hc2.symm.trans hx))
    refine G.seq ?_
    refine G.region ?_
    refine G.op1 (op_move (Ev.t 0 (bS s_0)) rfl) rfl ⟨rfl, trivial⟩ trivial ?_
    refine G.op1 (op_move (Ev.t 1 (bS prefix_1)) rfl) rfl ⟨rfl, trivial⟩ trivial ?_
    refine G.op1 (op_lenS Tryd.underlying9 (Ev.t 9 (bS prefix_1)) rfl) rfl ⟨rfl, trivial⟩ trivial ?_
    obtain ⟨s3, hs3, hF⟩ := bindS hF
    refine G.op1 (OpL.cast (op_sliceS (lo := some (prefix_1.size : Int)) (hi := none) Tryd.underlying9 (ssub_ok hs3).1 (ssub_ok hs3).2.1 (ssub_ok hs3).2.2.1 (Ev.t 8 (bS s_0)) (EvO.some (Ev.t 10 (bI .i64 (prefix_1.size : Int)))) EvO.none rfl) (congrArg (fun s => bS s) (ssub_ok hs3).2.2.2)) rfl ⟨rfl, rfl, trivial⟩ trivial ?_
    refine G.op1 (op_assign (Ev.t 11 (bS s3)) rfl) rfl ⟨rfl, trivial⟩ trivial ?_
    refine G.endOps ?_
    cases hF
    exact G.ret1 Tryd.results87 (RVar.tmp 4 _) ⟨rfl, trivial⟩ trivial
  · refine G.cond rfl (fun hx => Bool.noConfusion (hc2.symm.trans hx)) (fun _ => ?_)
    refine G.skip ?_
    refine G.seq ?_
    refine G.region ?_
    refine G.op1 (op_move (Ev.t 0 (bS s_0)) rfl) rfl ⟨rfl, trivial⟩ trivial ?_
    refine G.op1 (op_assign (Ev.t 12 (bS s_0)) rfl) rfl ⟨rfl, trivial⟩ trivial ?_
    refine G.endOps ?_
    cases hF
    exact G.ret1 Tryd.results87 (RVar.tmp 4 _) ⟨rfl, trivial⟩ trivial


set_option maxRecDepth 20000 in
set_option maxHeartbeats 2000000 in
theorem ct_strings_TrimPrefix (s_0 : ByteArray) (prefix_1 : ByteArray) (r : ByteArray) (hF : strings_TrimPrefix s_0 prefix_1 = some r) : Ct Tryd.prog 69 [.g (.d (.v (.string s_0))), .g (.d (.v (.string prefix_1)))] (.one (.d (.v (.string r)))) := by
  unfold strings_TrimPrefix at hF
  refine Ct.intro Tryd.func69 rfl Tryd.ntmps69 rfl rfl fun M w => ?_
  refine G.seq ?_
  refine G.region ?_
  refine G.op1 (op_assign (Ev.c _ rfl) rfl) rfl trivial trivial ?_
  refine G.endOps ?_
  refine G.seq ?_
  refine G.region ?_
  refine G.op1 (op_move (Ev.t 0 (bS s_0)) rfl) rfl ⟨rfl, trivial⟩ trivial ?_
  refine G.op1 (op_move (Ev.t 1 (bS prefix_1)) rfl) rfl ⟨rfl, trivial⟩ trivial ?_
  obtain ⟨r1, hr1, hF⟩ := bindS hF
  refine G.op1 (op_callQ (sv := .one (bS r1)) cf87 (ct_internal_stringslite_TrimPrefix s_0 prefix_1 r1 hr1) rfl rfl (EvQL.cons (EvQ.g (Ev.t 5 (bS s_0))) (EvQL.cons (EvQ.g (Ev.t 6 (bS prefix_1))) EvQL.nil)) rfl) rfl ⟨rfl, rfl, trivial⟩ trivial ?_
  refine G.op1 (op_assign (Ev.t 7 (bS r1)) rfl) rfl ⟨rfl, trivial⟩ trivial ?_
  refine G.endOps ?_
  cases hF
  exact G.ret1 Tryd.results69 (RVar.tmp 4 _) ⟨rfl, trivial⟩ trivial


set_option maxRecDepth 20000 in
set_option maxHeartbeats 2000000 in
theorem ct_words_reader_text (r_0 : Words_reader) (r : (Words_reader × ByteArray)) (hF : words_reader_text r_0 = some r) : CtM Tryd.prog 46 [.pt (.dat 82 (encWords_reader r_0))] (.dat 82 (encWords_reader r.1)) (.one (.d (.v (.string r.2)))) := by
  unfold words_reader_text at hF
  refine CtM.intro (h := .dat 82 (encWords_reader r_0)) 0 Tryd.func46 rfl Tryd.ntmps46 rfl rfl rfl rfl (fun M w b go => ?_)
  refine G.seq ?_
  refine G.region ?_
  refine G.op1 (op_assign (Ev.c _ rfl) rfl) rfl trivial trivial ?_
  refine G.endOps ?_
  refine G.seq ?_
  refine G.region ?_
  refine G.op1 (op_move (Ev.t 0 (.ptr 0 0)) rfl) rfl ⟨rfl, trivial⟩ trivial ?_
  obtain ⟨r1, hr1, hF⟩ := bindS hF
  refine G.opM (op_callM (k := 0) (h := .dat 82 (encWords_reader r_0)) (h' := .dat 82 (encWords_reader r1.1)) 0 (sv := .one (bS r1.2)) cf68 (ct_words_reader_next r_0 r1 hr1) rfl rfl (EvM.pt (Ev.t 4 (.ptr 0 0)) EvM.nil) rfl) rfl ⟨rfl, trivial⟩ ⟨rfl, trivial⟩ ?_
  obtain ⟨r2, hr2, hF⟩ := bindS hF
  refine G.op1 (op_callQ (sv := .one (bS r2)) cf69 (ct_strings_TrimPrefix r1.2 (ByteArray.mk #[34]) r2 hr2) rfl rfl (EvQL.cons (EvQ.g (Ev.t 5 (bS r1.2))) (EvQL.cons (EvQ.g (Ev.c _ rfl)) EvQL.nil)) rfl) rfl ⟨rfl, trivial⟩ trivial ?_
  refine G.op1 (op_assign (Ev.t 6 (bS r2)) rfl) rfl ⟨rfl, trivial⟩ trivial ?_
  refine G.endOps ?_
  refine G.seq ?_
  refine G.region ?_
  refine G.op1 (op_move (Ev.t 0 (.ptr 0 0)) rfl) rfl ⟨rfl, trivial⟩ trivial ?_
  refine G.op1 (op_move (Ev.t 0 (.ptr 0 0)) rfl) rfl ⟨rfl, trivial⟩ trivial ?_
  refine G.op1 (op_nilCheckP (Ev.t 8 (.ptr 0 0)) rfl) rfl ⟨rfl, trivial⟩ trivial ?_
  refine G.op1 (op_fieldP (off' := 1) Tryd.underlying82 rfl ti4 (by decide) rfl (Ev.t 9 (.ptr 0 0)) rfl) rfl ⟨rfl, trivial⟩ trivial ?_
  refine G.op1 (op_load1P (c := bB r1.1.bad) Tryd.underlying4 rfl rfl (Ev.t 10 (.ptr 0 1)) rfl) rfl ⟨rfl, trivial⟩ ⟨rfl, trivial⟩ ?_
  refine G.op1 (op_move (Ev.t 11 (bB r1.1.bad)) rfl) rfl ⟨rfl, trivial⟩ trivial ?_
  refine ifS hF (fun hc3 hF => ?_) (fun hc3 hF => ?_)
  · refine G.known (t := 12) hc3 rfl ?_
    refine G.opN1 rfl rfl rfl rfl rfl ?_
    refine G.opN1 rfl rfl rfl rfl rfl ?_
    refine G.opN1 rfl rfl rfl rfl rfl ?_
    refine G.op1 (op_pickT (Ev.t 12 (bB true)) (Ev.c _ rfl) rfl) rfl ⟨rfl, trivial⟩ trivial ?_
    refine G.op1 (op_nilCheckP (Ev.t 7 (.ptr 0 0)) rfl) rfl ⟨rfl, trivial⟩ trivial ?_
    refine G.op1 (op_fieldP (off' := 1) Tryd.underlying82 rfl ti4 (by decide) rfl (Ev.t 17 (.ptr 0 0)) rfl) rfl ⟨rfl, trivial⟩ trivial ?_
    refine G.op3 (op_store1 (cs' := [.g (.d (.sl 1 (List.map encS r1.1.words))), bB true]) (c := bB true) trivial ti4 rfl rfl (Ev.t 18 (.ptr 0 1)) (Ev.t 16 (bB true))) rfl ⟨rfl, rfl, trivial⟩ ⟨rfl, trivial⟩ ?_
    refine G.endOps ?_
    refine G.seq ?_
    refine G.region ?_
    refine G.op1 (op_move (Ev.t 3 (bS r2)) rfl) rfl ⟨rfl, trivial⟩ trivial ?_
    refine G.op1 (op_assign (Ev.t 19 (bS r2)) rfl) rfl ⟨rfl, trivial⟩ trivial ?_
    refine G.endOps ?_
    have hF := Option.some.inj hF; subst hF
    exact G.retM (retOK1 Tryd.results46 (RVar.tmp 2 _)) ⟨rfl, trivial⟩ trivial ⟨rfl, trivial⟩
  · refine G.known (t := 12) hc3 rfl ?_
    refine G.opG1 (op_move (Ev.t 3 (bS r2)) rfl) rfl rfl rfl ⟨rfl, trivial⟩ trivial ?_
    refine G.opG1 (op_lenS Tryd.underlying9 (Ev.t 13 (bS r2)) rfl) rfl rfl rfl ⟨rfl, trivial⟩ trivial ?_
    refine G.opG1 (op_gtr (Ev.t 14 (bI .i64 (r2.size : Int))) (Ev.c _ rfl) rfl) rfl rfl rfl ⟨rfl, trivial⟩ trivial ?_
    refine G.op1 (op_pickF (Ev.t 12 (bB false)) (Ev.t 15 (bB (decide (32 < (r2.size : Int))))) rfl) rfl ⟨rfl, rfl, trivial⟩ trivial ?_
    refine G.op1 (op_nilCheckP (Ev.t 7 (.ptr 0 0)) rfl) rfl ⟨rfl, trivial⟩ trivial ?_
    refine G.op1 (op_fieldP (off' := 1) Tryd.underlying82 rfl ti4 (by decide) rfl (Ev.t 17 (.ptr 0 0)) rfl) rfl ⟨rfl, trivial⟩ trivial ?_
    refine G.op3 (op_store1 (cs' := [.g (.d (.sl 1 (List.map encS r1.1.words))), bB (decide (32 < (r2.size : Int)))]) (c := bB (decide (32 < (r2.size : Int)))) trivial ti4 rfl rfl (Ev.t 18 (.ptr 0 1)) (Ev.t 16 (bB (decide (32 < (r2.size : Int)))))) rfl ⟨rfl, rfl, trivial⟩ ⟨rfl, trivial⟩ ?_
    refine G.endOps ?_
    refine G.seq ?_
    refine G.region ?_
    refine G.op1 (op_move (Ev.t 3 (bS r2)) rfl) rfl ⟨rfl, trivial⟩ trivial ?_
    refine G.op1 (op_assign (Ev.t 19 (bS r2)) rfl) rfl ⟨rfl, trivial⟩ trivial ?_
    refine G.endOps ?_
    have hF := Option.some.inj hF; subst hF
    exact G.retM (retOK1 Tryd.results46 (RVar.tmp 2 _)) ⟨rfl, trivial⟩ trivial ⟨rfl, trivial⟩


set_option maxRecDepth 20000 in
set_option maxHeartbeats 2000000 in
theorem ct_words_reader_more (r_0 : Words_reader) (r : (Words_reader × Bool)) (hF : words_reader_more r_0 = some r) : CtM Tryd.prog 47 [.pt (.dat 82 (encWords_reader r_0))] (.dat 82 (encWords_reader r.1)) (.one (.d (.v (.bool r.2)))) := by
  unfold words_reader_more at hF
  refine CtM.intro (h := .dat 82 (encWords_reader r_0)) 0 Tryd.func47 rfl Tryd.ntmps47 rfl rfl rfl rfl (fun M w b go => ?_)
  refine G.seq ?_
  refine G.region ?_
  refine G.op1 (op_assign (Ev.c _ rfl) rfl) rfl trivial trivial ?_
  refine G.endOps ?_
  refine G.seq ?_
  refine G.region ?_
  refine G.op1 (op_move (Ev.t 0 (.ptr 0 0)) rfl) rfl ⟨rfl, trivial⟩ trivial ?_
  refine G.op1 (op_nilCheckP (Ev.t 3 (.ptr 0 0)) rfl) rfl ⟨rfl, trivial⟩ trivial ?_
  refine G.op1 (op_fieldP (off' := 0) Tryd.underlying82 rfl ti24 (by decide) rfl (Ev.t 4 (.ptr 0 0)) rfl) rfl ⟨rfl, trivial⟩ trivial ?_
  refine G.op1 (op_load1P (c := .g (.d (.sl 1 (List.map encS r_0.words)))) Tryd.underlying24 rfl rfl (Ev.t 5 (.ptr 0 0)) rfl) rfl ⟨rfl, trivial⟩ ⟨rfl, trivial⟩ ?_
  refine G.op1 (OpL.cast (op_lenD Tryd.underlying24 (Ev.t 6 (.g (.d (.sl 1 (List.map encS r_0.words))))) rfl) (by rw [List.length_map])) rfl ⟨rfl, trivial⟩ trivial ?_
  refine G.op1 (op_gtr (Ev.t 7 (bI .i64 (r_0.words.length : Int))) (Ev.c _ rfl) rfl) rfl ⟨rfl, trivial⟩ trivial ?_
  refine G.op1 (op_move (Ev.t 8 (bB (decide (0 < (r_0.words.length : Int))))) rfl) rfl ⟨rfl, trivial⟩ trivial ?_
  refine ifS hF (fun hc1 hF => ?_) (fun hc1 hF => ?_)
  · refine G.known (t := 9) hc1 rfl ?_
    refine G.opG1 (op_move (Ev.t 0 (.ptr 0 0)) rfl) rfl rfl rfl ⟨rfl, trivial⟩ trivial ?_
    refine G.opG1 (op_nilCheckP (Ev.t 10 (.ptr 0 0)) rfl) rfl rfl rfl ⟨rfl, trivial⟩ trivial ?_
    refine G.opG1 (op_fieldP (off' := 1) Tryd.underlying82 rfl ti4 (by decide) rfl (Ev.t 11 (.ptr 0 0)) rfl) rfl rfl rfl ⟨rfl, trivial⟩ trivial ?_
    refine G.opG1 (op_load1P (c := bB r_0.bad) Tryd.underlying4 rfl rfl (Ev.t 12 (.ptr 0 1)) rfl) rfl rfl rfl ⟨rfl, trivial⟩ ⟨rfl, trivial⟩ ?_
    refine G.opG1 (op_not (Ev.t 13 (bB r_0.bad)) rfl) rfl rfl rfl ⟨rfl, trivial⟩ trivial ?_
    refine G.op1 (op_pickT (Ev.t 9 (bB true)) (Ev.t 14 (bB (!r_0.bad))) rfl) rfl ⟨rfl, rfl, trivial⟩ trivial ?_
    refine G.op1 (op_assign (Ev.t 15 (bB (!r_0.bad))) rfl) rfl ⟨rfl, trivial⟩ trivial ?_
    refine G.endOps ?_
    have hF := Option.some.inj hF; subst hF
    exact G.retM (retOK1 Tryd.results47 (RVar.tmp 2 _)) ⟨rfl, trivial⟩ trivial ⟨rfl, trivial⟩
  · refine G.known (t := 9) hc1 rfl ?_
    refine G.opN1 rfl rfl rfl rfl rfl ?_
    refine G.opN1 rfl rfl rfl rfl rfl ?_
    refine G.opN1 rfl rfl rfl rfl rfl ?_
    refine G.opN1 rfl rfl rfl rfl rfl ?_
    refine G.opN1 rfl rfl rfl rfl rfl ?_
    refine G.op1 (op_pickF (Ev.t 9 (bB false)) (Ev.c _ rfl) rfl) rfl ⟨rfl, trivial⟩ trivial ?_
    refine G.op1 (op_assign (Ev.t 15 (bB false)) rfl) rfl ⟨rfl, trivial⟩ trivial ?_
    refine G.endOps ?_
    have hF := Option.some.inj hF; subst hF
    exact G.retM (retOK1 Tryd.results47 (RVar.tmp 2 _)) ⟨rfl, trivial⟩ trivial ⟨rfl, trivial⟩


set_option maxRecDepth 20000 in
set_option maxHeartbeats 2000000 in
theorem ct_keys_Runes (s_0 : ByteArray) (r : Int) (hF : keys_Runes s_0 = some r) : Ct Tryd.prog 103 [.g (.d (.v (.string s_0)))] (.one (.d (.v (.int .i64 r)))) := by
  unfold keys_Runes at hF
  refine Ct.intro Tryd.func103 rfl Tryd.ntmps103 rfl rfl fun M w => ?_
  refine G.seq ?_
  refine G.region ?_
  refine G.op1 (op_assign (Ev.c _ rfl) rfl) rfl trivial trivial ?_
  refine G.endOps ?_
  refine G.seq ?_
  refine G.region ?_
  refine G.op1 (op_assign (Ev.c _ rfl) rfl) rfl trivial trivial ?_
  refine G.endOps ?_
  refine G.seq ?_
  refine G.seq ?_
  refine G.region ?_
  refine G.op1 (op_move (Ev.t 0 (bS s_0)) rfl) rfl ⟨rfl, trivial⟩ trivial ?_
  refine G.op2 (op_range (k := 1007) Tryd.underlying9 (Ev.t 6 (bS s_0)) rfl) rfl ⟨rfl, trivial⟩ ⟨rfl, trivial⟩ ?_
  refine G.endOps ?_
  refine G.joinC (T := Int) (fun y1 => ⟨[(3, .one (bI .i64 y1))], []⟩) (fun y1 => keys_Runes_k1 y1 = some r) (fun y1 hF => ?_) (fun J2 => ?_)
  · unfold keys_Runes_k1 at hF
    refine G.seq ?_
    refine G.region ?_
    refine G.op1 (op_move (Ev.t 3 (bI .i64 y1)) rfl) rfl ⟨rfl, trivial⟩ trivial ?_
    refine G.op1 (op_assign (Ev.t 40 (bI .i64 y1)) rfl) rfl ⟨rfl, trivial⟩ trivial ?_
    refine G.endOps ?_
    cases hF
    exact G.ret1 Tryd.results103 (RVar.tmp 2 _) ⟨rfl, trivial⟩ trivial
  refine G.block ?_
  refine G.keep (sl' := [(0, .one (bS s_0)), (3, .one (bI .i64 0)), (7, .one (.ptr 1007 0))]) (hp' := [(1007, some (.it s_0 0))]) ⟨rfl, rfl, rfl, trivial⟩ ⟨rfl, trivial⟩ rfl ?_
  refine G.loopF (fun (v3 : Int × Nat) => ⟨[(0, .one (bS s_0)), (3, .one (bI .i64 v3.1)), (7, .one (.ptr 1007 0))], [(1007, some (.it s_0 v3.2))]⟩) hF rfl (fun K6 again5 v3 J4 hF => ?_)
  unfold keys_Runes_l2 at hF
  refine G.seq ?_
  refine G.region ?_
  refine ifS hF (fun hc7 hF => ?_) (fun hc7 hF => ?_)
  · refine G.op2 (op_nextT hc7 (Ev.t 7 (.ptr 1007 0)) rfl) rfl ⟨rfl, trivial⟩ ⟨rfl, trivial⟩ ?_
    refine G.op1 (op_extract (l := [bB true, bI .i64 (v3.2 : Int), bI .i32 ((Utf8.decode s_0 v3.2).1 : Int)]) (c := bB true) rfl rfl) rfl ⟨rfl, trivial⟩ trivial ?_
    refine G.endOps ?_
    refine G.seq ?_
    refine G.condT rfl ?_
    refine G.skip ?_
    refine G.block ?_
    refine G.seq ?_
    refine G.region ?_
    refine G.op1 (op_extract (l := [bB true, bI .i64 (v3.2 : Int), bI .i32 ((Utf8.decode s_0 v3.2).1 : Int)]) (c := bI .i64 (v3.2 : Int)) rfl rfl) rfl ⟨rfl, trivial⟩ trivial ?_
    refine G.op1 (op_extract (l := [bB true, bI .i64 (v3.2 : Int), bI .i32 ((Utf8.decode s_0 v3.2).1 : Int)]) (c := bI .i32 ((Utf8.decode s_0 v3.2).1 : Int)) rfl rfl) rfl ⟨rfl, trivial⟩ trivial ?_
    refine G.op1 (op_assign (Ev.t 10 (bI .i64 (v3.2 : Int))) rfl) rfl ⟨rfl, trivial⟩ trivial ?_
    refine G.op1 (op_assign (Ev.t 11 (bI .i32 ((Utf8.decode s_0 v3.2).1 : Int))) rfl) rfl ⟨rfl, trivial⟩ trivial ?_
    refine G.endOps ?_
    refine G.seq ?_
    refine G.seq ?_
    refine G.joinC (T := Bool × Nat) (fun y8 => ⟨[(0, .one (bS s_0)), (3, .one (bI .i64 v3.1)), (4, .one (bI .i64 (v3.2 : Int))), (5, .one (bI .i32 ((Utf8.decode s_0 v3.2).1 : Int))), (7, .one (.ptr 1007 0)), (20, .one (bB y8.1))], [(1007, some (.it s_0 y8.2))]⟩) (fun y8 => keys_Runes_k3 s_0 again5 v3 y8 = some r) (fun y8 hF => ?_) (fun J14 => ?_)
    · unfold keys_Runes_k3 at hF
      refine ifS hF (fun hc9 hF => ?_) (fun hc9 hF => ?_)
      · refine G.cond rfl (fun _ => ?_) (fun hx => Bool.noConfusion (hc9.symm.trans hx))
        refine G.seq ?_
        refine G.region ?_
        refine G.op1 (op_assign (Ev.c _ rfl) rfl) rfl trivial trivial ?_
        refine G.endOps ?_
        cases hF
        exact G.ret1 Tryd.results103 (RVar.tmp 2 _) ⟨rfl, trivial⟩ trivial
      · refine G.cond rfl (fun hx => Bool.noConfusion (hc9.symm.trans hx)) (fun _ => ?_)
        refine G.skip ?_
        refine G.seq ?_
        refine G.seq ?_
        refine G.region ?_
        refine G.op1 (op_move (Ev.t 5 (bI .i32 ((Utf8.decode s_0 v3.2).1 : Int))) rfl) rfl ⟨rfl, trivial⟩ trivial ?_
        refine G.op1 (op_eqI (Ev.t 21 (bI .i32 ((Utf8.decode s_0 v3.2).1 : Int))) (Ev.c _ rfl) rfl) rfl ⟨rfl, trivial⟩ trivial ?_
        refine G.op1 (op_move (Ev.t 22 (bB (decide (((Utf8.decode s_0 v3.2).1 : Int) = 65533)))) rfl) rfl ⟨rfl, trivial⟩ trivial ?_
        refine ifS hF (fun hc10 hF => ?_) (fun hc10 hF => ?_)
        · refine G.known (t := 23) hc10 rfl ?_
          refine G.opG1 (op_move (Ev.t 0 (bS s_0)) rfl) rfl rfl rfl ⟨rfl, trivial⟩ trivial ?_
          refine G.opG1 (op_lenS Tryd.underlying9 (Ev.t 24 (bS s_0)) rfl) rfl rfl rfl ⟨rfl, trivial⟩ trivial ?_
          refine G.opG1 (op_move (Ev.t 4 (bI .i64 (v3.2 : Int))) rfl) rfl rfl rfl ⟨rfl, trivial⟩ trivial ?_
          refine G.opG1 (op_sub (Ev.t 25 (bI .i64 (s_0.size : Int))) (Ev.t 26 (bI .i64 (v3.2 : Int))) rfl) rfl rfl rfl ⟨rfl, rfl, trivial⟩ trivial ?_
          refine G.opG1 (op_lss (Ev.t 27 (bI .i64 (IntKind.wrap .i64 ((s_0.size : Int) - (v3.2 : Int))))) (Ev.c _ rfl) rfl) rfl rfl rfl ⟨rfl, trivial⟩ trivial ?_
          refine G.opG1 (op_move (Ev.t 28 (bB (decide ((IntKind.wrap .i64 ((s_0.size : Int) - (v3.2 : Int))) < 3)))) rfl) rfl rfl rfl ⟨rfl, trivial⟩ trivial ?_
          refine ifS hF (fun hc11 hF => ?_) (fun hc11 hF => ?_)
          · refine G.known (t := 29) hc11 rfl ?_
            refine G.opN1 rfl rfl rfl rfl rfl ?_
            refine G.opN1 rfl rfl rfl rfl rfl ?_
            refine G.opN1 rfl rfl rfl rfl rfl ?_
            refine G.opN1 rfl rfl rfl rfl rfl ?_
            refine G.opN1 rfl rfl rfl rfl rfl ?_
            refine G.opN1 rfl rfl rfl rfl rfl ?_
            refine G.opG1 (op_pickT (Ev.t 29 (bB true)) (Ev.c _ rfl) rfl) rfl rfl rfl ⟨rfl, trivial⟩ trivial ?_
            refine G.op1 (op_pickT (Ev.t 23 (bB true)) (Ev.t 36 (bB true)) rfl) rfl ⟨rfl, rfl, trivial⟩ trivial ?_
            refine G.endOps ?_
            refine G.condT rfl ?_
            refine G.seq ?_
            refine G.region ?_
            refine G.op1 (op_assign (Ev.c _ rfl) rfl) rfl trivial trivial ?_
            refine G.endOps ?_
            cases hF
            exact G.ret1 Tryd.results103 (RVar.tmp 2 _) ⟨rfl, trivial⟩ trivial
          · refine G.known (t := 29) hc11 rfl ?_
            refine G.opG1 (op_move (Ev.t 0 (bS s_0)) rfl) rfl rfl rfl ⟨rfl, trivial⟩ trivial ?_
            refine G.opG1 (op_move (Ev.t 4 (bI .i64 (v3.2 : Int))) rfl) rfl rfl rfl ⟨rfl, trivial⟩ trivial ?_
            refine G.opG1 (op_move (Ev.t 4 (bI .i64 (v3.2 : Int))) rfl) rfl rfl rfl ⟨rfl, trivial⟩ trivial ?_
            refine G.opG1 (op_add (Ev.t 32 (bI .i64 (v3.2 : Int))) (Ev.c _ rfl) rfl) rfl rfl rfl ⟨rfl, trivial⟩ trivial ?_
            obtain ⟨s12, hs12, hF⟩ := bindS hF
            refine G.opG1 (OpL.cast (op_sliceS (lo := some (v3.2 : Int)) (hi := some (IntKind.wrap .i64 ((v3.2 : Int) + 3))) Tryd.underlying9 (ssub_ok hs12).1 (ssub_ok hs12).2.1 (ssub_ok hs12).2.2.1 (Ev.t 30 (bS s_0)) (EvO.some (Ev.t 31 (bI .i64 (v3.2 : Int)))) (EvO.some (Ev.t 33 (bI .i64 (IntKind.wrap .i64 ((v3.2 : Int) + 3))))) rfl) (congrArg (fun s => bS s) (ssub_ok hs12).2.2.2)) rfl rfl rfl ⟨rfl, rfl, rfl, trivial⟩ trivial ?_
            refine G.opG1 (op_neS (Ev.t 34 (bS s12)) (Ev.c _ rfl) rfl) rfl rfl rfl ⟨rfl, trivial⟩ trivial ?_
            refine G.opG1 (op_pickF (Ev.t 29 (bB false)) (Ev.t 35 (bB (!seq s12 (ByteArray.mk #[239, 191, 189])))) rfl) rfl rfl rfl ⟨rfl, rfl, trivial⟩ trivial ?_
            refine G.op1 (op_pickT (Ev.t 23 (bB true)) (Ev.t 36 (bB (!seq s12 (ByteArray.mk #[239, 191, 189])))) rfl) rfl ⟨rfl, rfl, trivial⟩ trivial ?_
            refine G.endOps ?_
            refine ifS hF (fun hc13 hF => ?_) (fun hc13 hF => ?_)
            · refine G.cond rfl (fun _ => ?_) (fun hx => Bool.noConfusion (hc13.symm.trans hx))
              refine G.seq ?_
              refine G.region ?_
              refine G.op1 (op_assign (Ev.c _ rfl) rfl) rfl trivial trivial ?_
              refine G.endOps ?_
              cases hF
              exact G.ret1 Tryd.results103 (RVar.tmp 2 _) ⟨rfl, trivial⟩ trivial
            · refine G.cond rfl (fun hx => Bool.noConfusion (hc13.symm.trans hx)) (fun _ => ?_)
              refine G.skip ?_
              refine G.region ?_
              refine G.op1 (op_move (Ev.t 3 (bI .i64 v3.1)) rfl) rfl ⟨rfl, trivial⟩ trivial ?_
              refine G.op1 (op_add (Ev.t 38 (bI .i64 v3.1)) (Ev.c _ rfl) rfl) rfl ⟨rfl, trivial⟩ trivial ?_
              refine G.op1 (op_assign (Ev.t 39 (bI .i64 (IntKind.wrap .i64 (v3.1 + 1)))) rfl) rfl ⟨rfl, trivial⟩ trivial ?_
              refine G.endOps ?_
              refine G.endBlock ?_
              exact G.arr (J4 (IntKind.wrap .i64 (v3.1 + 1), y8.2) hF) ⟨rfl, rfl, rfl, trivial⟩ ⟨rfl, trivial⟩ rfl
        · refine G.known (t := 23) hc10 rfl ?_
          refine G.opN1 rfl rfl rfl rfl rfl ?_
          refine G.opN1 rfl rfl rfl rfl rfl ?_
          refine G.opN1 rfl rfl rfl rfl rfl ?_
          refine G.opN1 rfl rfl rfl rfl rfl ?_
          refine G.opN1 rfl rfl rfl rfl rfl ?_
          refine G.opN1 rfl rfl rfl rfl rfl ?_
          refine G.opU rfl rfl rfl rfl ?_
          refine G.opU rfl rfl rfl rfl ?_
          refine G.opU rfl rfl rfl rfl ?_
          refine G.opU rfl rfl rfl rfl ?_
          refine G.opU rfl rfl rfl rfl ?_
          refine G.opU rfl rfl rfl rfl ?_
          refine G.opN1 rfl rfl rfl rfl rfl ?_
          refine G.op1 (op_pickF (Ev.t 23 (bB false)) (Ev.c _ rfl) rfl) rfl ⟨rfl, trivial⟩ trivial ?_
          refine G.endOps ?_
          refine G.condF rfl ?_
          refine G.skip ?_
          refine G.region ?_
          refine G.op1 (op_move (Ev.t 3 (bI .i64 v3.1)) rfl) rfl ⟨rfl, trivial⟩ trivial ?_
          refine G.op1 (op_add (Ev.t 38 (bI .i64 v3.1)) (Ev.c _ rfl) rfl) rfl ⟨rfl, trivial⟩ trivial ?_
          refine G.op1 (op_assign (Ev.t 39 (bI .i64 (IntKind.wrap .i64 (v3.1 + 1)))) rfl) rfl ⟨rfl, trivial⟩ trivial ?_
          refine G.endOps ?_
          refine G.endBlock ?_
          exact G.arr (J4 (IntKind.wrap .i64 (v3.1 + 1), y8.2) hF) ⟨rfl, rfl, rfl, trivial⟩ ⟨rfl, trivial⟩ rfl
    refine ifS hF (fun hc15 hF => ?_) (fun hc15 hF => ?_)
    · obtain ⟨b16, hb16, hF⟩ := bindS hF
      obtain ⟨b17, hb17, hF⟩ := bindS hF
      refine G.drawnI (deps := [[], [0], [0, 1], [0, 1, 2], [0, 1, 2], [0, 1, 2, 3, 4], [0, 1, 2], [0, 1, 2, 3, 4, 5, 6], [0, 1, 2, 3, 4, 5, 6, 7]]) (sl' := [(0, .one (bS s_0)), (3, .one (bI .i64 v3.1)), (4, .one (bI .i64 (v3.2 : Int))), (5, .one (bI .i32 ((Utf8.decode s_0 v3.2).1 : Int))), (7, .one (.ptr 1007 0)), (20, .one (bB (!decide ((b16.toNat : Int) = (b17.toNat : Int)))))]) (hp' := [(1007, some (.it s_0 (v3.2 + (Utf8.decode s_0 v3.2).2)))]) (.c (oP rfl rfl (op_move (Ev.t 5 (bI .i32 ((Utf8.decode s_0 v3.2).1 : Int))) rfl)) (.c (oP rfl rfl (OpL.cast (op_eqI (Ev.t 12 (bI .i32 ((Utf8.decode s_0 v3.2).1 : Int))) (Ev.c _ rfl) rfl) (congrArg (fun b => bB b) hc15))) (.c (oP rfl rfl (op_move (Ev.t 13 (bB true)) rfl)) (.c (oY rfl rfl rfl (op_move (Ev.t 0 (bS s_0)) rfl)) (.c (oY rfl rfl rfl (op_move (Ev.t 4 (bI .i64 (v3.2 : Int))) rfl)) (.c (oY rfl rfl rfl (op_indexS Tryd.underlying9 (sidx_ok hb16).1 (sidx_ok hb16).2 (Ev.t 15 (bS s_0)) (Ev.t 16 (bI .i64 (v3.2 : Int))) rfl)) (.c (oY rfl rfl rfl (op_indexS Tryd.underlying9 (sidx_ok hb17).1 (sidx_ok hb17).2 (Ev.c _ rfl) (Ev.c _ rfl) rfl)) (.c (oY rfl rfl rfl (op_neI (Ev.t 17 (bI .u8 (b16.toNat : Int))) (Ev.t 18 (bI .u8 (b17.toNat : Int))) rfl)) (.c (oP rfl rfl (op_pickT (Ev.t 14 (bB true)) (Ev.t 19 (bB (!decide ((b16.toNat : Int) = (b17.toNat : Int))))) rfl)) .nil))))))))) follows rfl rfl rfl ⟨⟨rfl, trivial⟩, trivial, ⟨rfl, trivial⟩, trivial, ⟨rfl, trivial⟩, trivial, ⟨rfl, rfl, trivial⟩, trivial, ⟨rfl, rfl, trivial⟩, trivial, ⟨rfl, rfl, rfl, trivial⟩, trivial, ⟨rfl, trivial⟩, trivial, ⟨rfl, rfl, rfl, trivial⟩, trivial, ⟨rfl, rfl, trivial⟩, trivial, trivial⟩ ⟨rfl, rfl, rfl, rfl, rfl, rfl, trivial⟩ ⟨rfl, trivial⟩ rfl ?_
      exact G.arr (J14 (!decide ((b16.toNat : Int) = (b17.toNat : Int)), v3.2 + (Utf8.decode s_0 v3.2).2) hF) ⟨rfl, rfl, rfl, rfl, rfl, rfl, trivial⟩ ⟨rfl, trivial⟩ rfl
    · refine G.drawnI (deps := [[], [0], [0, 1], [0, 1, 2], [0, 1, 2], [0, 1, 2, 3, 4], [0, 1, 2], [0, 1, 2, 3, 4, 5, 6], [0, 1, 2, 3, 4, 5, 6, 7]]) (sl' := [(0, .one (bS s_0)), (3, .one (bI .i64 v3.1)), (4, .one (bI .i64 (v3.2 : Int))), (5, .one (bI .i32 ((Utf8.decode s_0 v3.2).1 : Int))), (7, .one (.ptr 1007 0)), (20, .one (bB false))]) (hp' := [(1007, some (.it s_0 (v3.2 + (Utf8.decode s_0 v3.2).2)))]) (.c (oP rfl rfl (op_move (Ev.t 5 (bI .i32 ((Utf8.decode s_0 v3.2).1 : Int))) rfl)) (.c (oP rfl rfl (OpL.cast (op_eqI (Ev.t 12 (bI .i32 ((Utf8.decode s_0 v3.2).1 : Int))) (Ev.c _ rfl) rfl) (congrArg (fun b => bB b) hc15))) (.c (oP rfl rfl (op_move (Ev.t 13 (bB false)) rfl)) (.c (OpW.no rfl rfl rfl rfl rfl) (.c (OpW.no rfl rfl rfl rfl rfl) (.c (OpW.no rfl rfl rfl rfl rfl) (.c (OpW.no rfl rfl rfl rfl rfl) (.c (OpW.no rfl rfl rfl rfl rfl) (.c (oP rfl rfl (op_pickF (Ev.t 14 (bB false)) (Ev.c _ rfl) rfl)) .nil))))))))) follows rfl rfl rfl ⟨⟨rfl, trivial⟩, trivial, ⟨rfl, trivial⟩, trivial, ⟨rfl, trivial⟩, trivial, ⟨rfl, trivial⟩, trivial, ⟨rfl, trivial⟩, trivial, ⟨rfl, trivial⟩, trivial, ⟨rfl, trivial⟩, trivial, ⟨rfl, trivial⟩, trivial, ⟨rfl, trivial⟩, trivial, trivial⟩ ⟨rfl, rfl, rfl, rfl, rfl, rfl, trivial⟩ ⟨rfl, trivial⟩ rfl ?_
      exact G.arr (J14 (false, v3.2 + (Utf8.decode s_0 v3.2).2) hF) ⟨rfl, rfl, rfl, rfl, rfl, rfl, trivial⟩ ⟨rfl, trivial⟩ rfl
  · refine G.op1 (op_nextF hc7 (Ev.t 7 (.ptr 1007 0)) rfl) rfl ⟨rfl, trivial⟩ ⟨rfl, trivial⟩ ?_
    refine G.op1 (op_extract (l := [bB false]) (c := bB false) rfl rfl) rfl ⟨rfl, trivial⟩ trivial ?_
    refine G.endOps ?_
    refine G.seq ?_
    refine G.condF rfl ?_
    refine G.exit ?_
    refine GX.c ?_
    refine GX.q ?_
    refine GX.bYes ?_
    exact G.arr (J2 v3.1 hF) ⟨rfl, trivial⟩ trivial rfl


set_option maxRecDepth 20000 in
set_option maxHeartbeats 2000000 in
theorem ct_keys_Check (s_0 : ByteArray) (r : Bool) (hF : keys_Check s_0 = some r) : Ct Tryd.prog 100 [.g (.d (.v (.string s_0)))] (.one (.d (.v (.bool r)))) := by
  unfold keys_Check at hF
  refine Ct.intro Tryd.func100 rfl Tryd.ntmps100 rfl rfl fun M w => ?_
  refine G.seq ?_
  refine G.region ?_
  refine G.op1 (op_assign (Ev.c _ rfl) rfl) rfl trivial trivial ?_
  refine G.endOps ?_
  refine G.scope ?_
  refine G.seq ?_
  refine G.region ?_
  refine G.op1 (op_move (Ev.t 0 (bS s_0)) rfl) rfl ⟨rfl, trivial⟩ trivial ?_
  obtain ⟨r1, hr1, hF⟩ := bindS hF
  refine G.op1 (op_callQ (sv := .one (bI .i64 r1)) cf103 (ct_keys_Runes s_0 r1 hr1) rfl rfl (EvQL.cons (EvQ.g (Ev.t 7 (bS s_0))) EvQL.nil) rfl) rfl ⟨rfl, trivial⟩ trivial ?_
  refine G.op1 (op_assign (Ev.t 8 (bI .i64 r1)) rfl) rfl ⟨rfl, trivial⟩ trivial ?_
  refine G.endOps ?_
  refine G.seq ?_
  refine G.joinC (T := Bool) (fun y2 => ⟨[(0, .one (bS s_0)), (4, .one (bB y2))], []⟩) (fun y2 => keys_Check_k1 s_0 y2 = some r) (fun y2 hF => ?_) (fun J11 => ?_)
  · unfold keys_Check_k1 at hF
    refine G.seq ?_
    refine G.label ?_
    refine G.seq ?_
    refine G.seq ?_
    refine G.region ?_
    refine G.op1 (op_move (Ev.t 0 (bS s_0)) rfl) rfl ⟨rfl, trivial⟩ trivial ?_
    refine G.op2 (op_range (k := 1016) Tryd.underlying9 (Ev.t 15 (bS s_0)) rfl) rfl ⟨rfl, trivial⟩ ⟨rfl, trivial⟩ ?_
    refine G.endOps ?_
    refine G.joinC (T := Bool) (fun y3 => ⟨[(4, .one (bB y3))], []⟩) (fun y3 => keys_Check_k2 y3 = some r) (fun y3 hF => ?_) (fun J4 => ?_)
    · unfold keys_Check_k2 at hF
      refine G.seq ?_
      refine G.region ?_
      refine G.op1 (op_move (Ev.t 4 (bB y3)) rfl) rfl ⟨rfl, trivial⟩ trivial ?_
      refine G.op1 (op_assign (Ev.t 24 (bB y3)) rfl) rfl ⟨rfl, trivial⟩ trivial ?_
      refine G.endOps ?_
      cases hF
      exact G.ret1 Tryd.results100 (RVar.tmp 2 _) ⟨rfl, trivial⟩ trivial
    refine G.block ?_
    refine G.keep (sl' := [(4, .one (bB y2)), (16, .one (.ptr 1016 0))]) (hp' := [(1016, some (.it s_0 0))]) ⟨rfl, rfl, trivial⟩ ⟨rfl, trivial⟩ rfl ?_
    refine G.loopF (fun (v5 : Bool × Nat) => ⟨[(4, .one (bB v5.1)), (16, .one (.ptr 1016 0))], [(1016, some (.it s_0 v5.2))]⟩) hF rfl (fun K8 again7 v5 J6 hF => ?_)
    unfold keys_Check_l3 at hF
    refine G.seq ?_
    refine G.region ?_
    refine ifS hF (fun hc9 hF => ?_) (fun hc9 hF => ?_)
    · refine G.op2 (op_nextT hc9 (Ev.t 16 (.ptr 1016 0)) rfl) rfl ⟨rfl, trivial⟩ ⟨rfl, trivial⟩ ?_
      refine G.op1 (op_extract (l := [bB true, bI .i64 (v5.2 : Int), bI .i32 ((Utf8.decode s_0 v5.2).1 : Int)]) (c := bB true) rfl rfl) rfl ⟨rfl, trivial⟩ trivial ?_
      refine G.endOps ?_
      refine G.seq ?_
      refine G.condT rfl ?_
      refine G.skip ?_
      refine G.block ?_
      refine G.seq ?_
      refine G.region ?_
      refine G.op1 (op_extract (l := [bB true, bI .i64 (v5.2 : Int), bI .i32 ((Utf8.decode s_0 v5.2).1 : Int)]) (c := bI .i32 ((Utf8.decode s_0 v5.2).1 : Int)) rfl rfl) rfl ⟨rfl, trivial⟩ trivial ?_
      refine G.op1 (op_assign (Ev.t 19 (bI .i32 ((Utf8.decode s_0 v5.2).1 : Int))) rfl) rfl ⟨rfl, trivial⟩ trivial ?_
      refine G.endOps ?_
      refine G.seq ?_
      refine G.seq ?_
      refine G.region ?_
      refine G.op1 (op_move (Ev.t 4 (bB v5.1)) rfl) rfl ⟨rfl, trivial⟩ trivial ?_
      refine G.op1 (op_not (Ev.t 20 (bB v5.1)) rfl) rfl ⟨rfl, trivial⟩ trivial ?_
      refine G.endOps ?_
      refine ifS hF (fun hc10 hF => ?_) (fun hc10 hF => ?_)
      · refine G.cond rfl (fun _ => ?_) (fun hx => Bool.noConfusion (hc10.symm.trans hx))
        refine G.exit ?_
        refine GX.c ?_
        refine GX.bNo rfl ?_
        refine GX.q ?_
        refine GX.bYes ?_
        exact G.arr (J4 v5.1 hF) ⟨rfl, trivial⟩ trivial rfl
      · refine G.cond rfl (fun hx => Bool.noConfusion (hc10.symm.trans hx)) (fun _ => ?_)
        refine G.skip ?_
        refine G.region ?_
        refine G.op1 (op_move (Ev.t 6 (bI .i32 ((Utf8.decode s_0 v5.2).1 : Int))) rfl) rfl ⟨rfl, trivial⟩ trivial ?_
        refine G.op1 (op_geq (Ev.t 22 (bI .i32 ((Utf8.decode s_0 v5.2).1 : Int))) (Ev.c _ rfl) rfl) rfl ⟨rfl, trivial⟩ trivial ?_
        refine G.op1 (op_assign (Ev.t 23 (bB (decide (33 ≤ ((Utf8.decode s_0 v5.2).1 : Int))))) rfl) rfl ⟨rfl, trivial⟩ trivial ?_
        refine G.endOps ?_
        refine G.endBlock ?_
        exact G.arr (J6 (decide (33 ≤ ((Utf8.decode s_0 v5.2).1 : Int)), v5.2 + (Utf8.decode s_0 v5.2).2) hF) ⟨rfl, rfl, trivial⟩ ⟨rfl, trivial⟩ rfl
    · refine G.op1 (op_nextF hc9 (Ev.t 16 (.ptr 1016 0)) rfl) rfl ⟨rfl, trivial⟩ ⟨rfl, trivial⟩ ?_
      refine G.op1 (op_extract (l := [bB false]) (c := bB false) rfl rfl) rfl ⟨rfl, trivial⟩ trivial ?_
      refine G.endOps ?_
      refine G.seq ?_
      refine G.condF rfl ?_
      refine G.exit ?_
      refine GX.c ?_
      refine GX.q ?_
      refine GX.bYes ?_
      exact G.arr (J4 v5.1 hF) ⟨rfl, trivial⟩ trivial rfl
  refine G.region ?_
  refine G.op1 (op_move (Ev.t 3 (bI .i64 r1)) rfl) rfl ⟨rfl, trivial⟩ trivial ?_
  refine G.op1 (op_geq (Ev.t 9 (bI .i64 r1)) (Ev.c _ rfl) rfl) rfl ⟨rfl, trivial⟩ trivial ?_
  refine G.op1 (op_move (Ev.t 10 (bB (decide (1 ≤ r1)))) rfl) rfl ⟨rfl, trivial⟩ trivial ?_
  refine ifS hF (fun hc12 hF => ?_) (fun hc12 hF => ?_)
  · refine G.known (t := 11) hc12 rfl ?_
    refine G.opG1 (op_move (Ev.t 3 (bI .i64 r1)) rfl) rfl rfl rfl ⟨rfl, trivial⟩ trivial ?_
    refine G.opG1 (op_leq (Ev.t 12 (bI .i64 r1)) (Ev.c _ rfl) rfl) rfl rfl rfl ⟨rfl, trivial⟩ trivial ?_
    refine G.op1 (op_pickT (Ev.t 11 (bB true)) (Ev.t 13 (bB (decide (r1 ≤ 8)))) rfl) rfl ⟨rfl, rfl, trivial⟩ trivial ?_
    refine G.op1 (op_assign (Ev.t 14 (bB (decide (r1 ≤ 8)))) rfl) rfl ⟨rfl, trivial⟩ trivial ?_
    refine G.endOps ?_
    exact G.arr (J11 (decide (r1 ≤ 8)) hF) ⟨rfl, rfl, trivial⟩ trivial rfl
  · refine G.known (t := 11) hc12 rfl ?_
    refine G.opN1 rfl rfl rfl rfl rfl ?_
    refine G.opN1 rfl rfl rfl rfl rfl ?_
    refine G.op1 (op_pickF (Ev.t 11 (bB false)) (Ev.c _ rfl) rfl) rfl ⟨rfl, trivial⟩ trivial ?_
    refine G.op1 (op_assign (Ev.t 14 (bB false)) rfl) rfl ⟨rfl, trivial⟩ trivial ?_
    refine G.endOps ?_
    exact G.arr (J11 false hF) ⟨rfl, rfl, trivial⟩ trivial rfl


set_option maxRecDepth 20000 in
set_option maxHeartbeats 2000000 in
theorem ct_keys_Good_1 (s_0 : ByteArray) (r : Bool) (hF : keys_Good_1 s_0 = some r) : Ct Tryd.prog 99 [.g (.d (.v (.string s_0)))] (.one (.d (.v (.bool r)))) := by
  unfold keys_Good_1 at hF
  refine Ct.intro Tryd.func99 rfl Tryd.ntmps99 rfl rfl fun M w => ?_
  refine G.seq ?_
  refine G.region ?_
  refine G.op1 (op_assign (Ev.c _ rfl) rfl) rfl trivial trivial ?_
  refine G.endOps ?_
  refine G.seq ?_
  refine G.region ?_
  refine G.op1 (op_move (Ev.t 0 (bS s_0)) rfl) rfl ⟨rfl, trivial⟩ trivial ?_
  refine G.op1 (op_eqS (Ev.t 3 (bS s_0)) (Ev.c _ rfl) rfl) rfl ⟨rfl, trivial⟩ trivial ?_
  refine G.op1 (op_move (Ev.t 4 (bB (seq s_0 ByteArray.empty))) rfl) rfl ⟨rfl, trivial⟩ trivial ?_
  refine ifS hF (fun hc1 hF => ?_) (fun hc1 hF => ?_)
  · refine G.known (t := 5) hc1 rfl ?_
    refine G.opN1 rfl rfl rfl rfl rfl ?_
    refine G.opN1 rfl rfl rfl rfl rfl ?_
    refine G.op1 (op_pickT (Ev.t 5 (bB true)) (Ev.c _ rfl) rfl) rfl ⟨rfl, trivial⟩ trivial ?_
    refine G.op1 (op_assign (Ev.t 8 (bB true)) rfl) rfl ⟨rfl, trivial⟩ trivial ?_
    refine G.endOps ?_
    cases hF
    exact G.ret1 Tryd.results99 (RVar.tmp 2 _) ⟨rfl, trivial⟩ trivial
  · refine G.known (t := 5) hc1 rfl ?_
    refine G.opG1 (op_move (Ev.t 0 (bS s_0)) rfl) rfl rfl rfl ⟨rfl, trivial⟩ trivial ?_
    obtain ⟨r2, hr2, hF⟩ := bindS hF
    refine G.opG1 (op_callQ (sv := .one (bB r2)) cf100 (ct_keys_Check s_0 r2 hr2) rfl rfl (EvQL.cons (EvQ.g (Ev.t 6 (bS s_0))) EvQL.nil) rfl) rfl rfl rfl ⟨rfl, trivial⟩ trivial ?_
    refine G.op1 (op_pickF (Ev.t 5 (bB false)) (Ev.t 7 (bB r2)) rfl) rfl ⟨rfl, rfl, trivial⟩ trivial ?_
    refine G.op1 (op_assign (Ev.t 8 (bB r2)) rfl) rfl ⟨rfl, trivial⟩ trivial ?_
    refine G.endOps ?_
    cases hF
    exact G.ret1 Tryd.results99 (RVar.tmp 2 _) ⟨rfl, trivial⟩ trivial


set_option maxRecDepth 20000 in
set_option maxHeartbeats 2000000 in
theorem ct_keys_Good (r_0 : Api_Range) (r : Bool) (hF : keys_Good r_0 = some r) : Ct Tryd.prog 91 [.g (.agg (encApi_Range r_0))] (.one (.d (.v (.bool r)))) := by
  unfold keys_Good at hF
  refine Ct.intro Tryd.func91 rfl Tryd.ntmps91 rfl rfl fun M w => ?_
  refine G.seq ?_
  refine G.region ?_
  refine G.op2 (op_boxA (k := 1001) (Ev.t 0 (.g (.agg [.v (.string r_0.From), .v (.string r_0.To)]))) rfl) rfl ⟨rfl, trivial⟩ ⟨rfl, trivial⟩ ?_
  refine G.op1 (op_assign (Ev.c _ rfl) rfl) rfl trivial trivial ?_
  refine G.endOps ?_
  refine G.seq ?_
  refine G.region ?_
  refine G.op1 (op_assign (Ev.f 99) rfl) rfl trivial trivial ?_
  refine G.endOps ?_
  refine G.seq ?_
  refine G.region ?_
  refine G.op1 (op_move (Ev.t 3 (.clo 99 [])) rfl) rfl ⟨rfl, trivial⟩ trivial ?_
  refine G.op1 (op_fieldP (off' := 0) Tryd.underlying48 rfl ti9 (by decide) rfl (Ev.t 1 (.ptr 1001 0)) rfl) rfl ⟨rfl, trivial⟩ trivial ?_
  refine G.op1 (op_load1P (c := bS r_0.From) Tryd.underlying9 rfl rfl (Ev.t 5 (.ptr 1001 0)) rfl) rfl ⟨rfl, trivial⟩ ⟨rfl, trivial⟩ ?_
  obtain ⟨r1, hr1, hF⟩ := bindS hF
  refine G.op1 (op_callClo (sv := .one (bB r1)) (args := _) (gs := _) cf99 (ct_keys_Good_1 r_0.From r1 hr1) rfl rfl EvC.nil (EvQL.cons (EvQ.g (Ev.t 6 (bS r_0.From))) EvQL.nil) rfl) rfl ⟨rfl, rfl, trivial⟩ trivial ?_
  refine G.op1 (op_move (Ev.t 7 (bB r1)) rfl) rfl ⟨rfl, trivial⟩ trivial ?_
  refine G.joinL (T := Bool) 5 (fun y2 => ⟨[(1, .one (.ptr 1001 0)), (13, .one (bB y2))], [(1001, some (.blk 48 [bS r_0.From, bS r_0.To]))]⟩) (fun y2 => keys_Good_k1 r_0 y2 = some r) (fun y2 hF => ?_) (fun J5 => ?_)
  · unfold keys_Good_k1 at hF
    refine G.op1 (op_move (Ev.t 13 (bB y2)) rfl) rfl ⟨rfl, trivial⟩ trivial ?_
    refine ifS hF (fun hc3 hF => ?_) (fun hc3 hF => ?_)
    · refine G.known (t := 14) hc3 rfl ?_
      refine G.opG1 (op_fieldP (off' := 1) Tryd.underlying48 rfl ti9 (by decide) rfl (Ev.t 1 (.ptr 1001 0)) rfl) rfl rfl rfl ⟨rfl, trivial⟩ trivial ?_
      refine G.opG1 (op_load1P (c := bS r_0.To) Tryd.underlying9 rfl rfl (Ev.t 15 (.ptr 1001 1)) rfl) rfl rfl rfl ⟨rfl, trivial⟩ ⟨rfl, trivial⟩ ?_
      refine G.opG1 (op_eqS (Ev.t 16 (bS r_0.To)) (Ev.c _ rfl) rfl) rfl rfl rfl ⟨rfl, trivial⟩ trivial ?_
      refine G.opG1 (op_move (Ev.t 17 (bB (seq r_0.To ByteArray.empty))) rfl) rfl rfl rfl ⟨rfl, trivial⟩ trivial ?_
      refine ifS hF (fun hc4 hF => ?_) (fun hc4 hF => ?_)
      · refine G.known (t := 18) hc4 rfl ?_
        refine G.opN1 rfl rfl rfl rfl rfl ?_
        refine G.opN1 rfl rfl rfl rfl rfl ?_
        refine G.opN1 rfl rfl rfl rfl rfl ?_
        refine G.opN1 rfl rfl rfl rfl rfl ?_
        refine G.opN1 rfl rfl rfl rfl rfl ?_
        refine G.opG1 (op_pickT (Ev.t 18 (bB true)) (Ev.c _ rfl) rfl) rfl rfl rfl ⟨rfl, trivial⟩ trivial ?_
        refine G.op1 (op_pickT (Ev.t 14 (bB true)) (Ev.t 24 (bB true)) rfl) rfl ⟨rfl, rfl, trivial⟩ trivial ?_
        refine G.op1 (op_assign (Ev.t 25 (bB true)) rfl) rfl ⟨rfl, trivial⟩ trivial ?_
        refine G.endOps ?_
        cases hF
        exact G.ret1 Tryd.results91 (RVar.tmp 2 _) ⟨rfl, trivial⟩ trivial
      · refine G.known (t := 18) hc4 rfl ?_
        refine G.opG1 (op_fieldP (off' := 0) Tryd.underlying48 rfl ti9 (by decide) rfl (Ev.t 1 (.ptr 1001 0)) rfl) rfl rfl rfl ⟨rfl, trivial⟩ trivial ?_
        refine G.opG1 (op_load1P (c := bS r_0.From) Tryd.underlying9 rfl rfl (Ev.t 19 (.ptr 1001 0)) rfl) rfl rfl rfl ⟨rfl, trivial⟩ ⟨rfl, trivial⟩ ?_
        refine G.opG1 (op_fieldP (off' := 1) Tryd.underlying48 rfl ti9 (by decide) rfl (Ev.t 1 (.ptr 1001 0)) rfl) rfl rfl rfl ⟨rfl, trivial⟩ trivial ?_
        refine G.opG1 (op_load1P (c := bS r_0.To) Tryd.underlying9 rfl rfl (Ev.t 21 (.ptr 1001 1)) rfl) rfl rfl rfl ⟨rfl, trivial⟩ ⟨rfl, trivial⟩ ?_
        refine G.opG1 (op_ltS (Ev.t 20 (bS r_0.From)) (Ev.t 22 (bS r_0.To)) rfl) rfl rfl rfl ⟨rfl, rfl, trivial⟩ trivial ?_
        refine G.opG1 (op_pickF (Ev.t 18 (bB false)) (Ev.t 23 (bB (slt r_0.From r_0.To))) rfl) rfl rfl rfl ⟨rfl, rfl, trivial⟩ trivial ?_
        refine G.op1 (op_pickT (Ev.t 14 (bB true)) (Ev.t 24 (bB (slt r_0.From r_0.To))) rfl) rfl ⟨rfl, rfl, trivial⟩ trivial ?_
        refine G.op1 (op_assign (Ev.t 25 (bB (slt r_0.From r_0.To))) rfl) rfl ⟨rfl, trivial⟩ trivial ?_
        refine G.endOps ?_
        cases hF
        exact G.ret1 Tryd.results91 (RVar.tmp 2 _) ⟨rfl, trivial⟩ trivial
    · refine G.known (t := 14) hc3 rfl ?_
      refine G.opN1 rfl rfl rfl rfl rfl ?_
      refine G.opN1 rfl rfl rfl rfl rfl ?_
      refine G.opN1 rfl rfl rfl rfl rfl ?_
      refine G.opN1 rfl rfl rfl rfl rfl ?_
      refine G.opU rfl rfl rfl rfl ?_
      refine G.opU rfl rfl rfl rfl ?_
      refine G.opU rfl rfl rfl rfl ?_
      refine G.opU rfl rfl rfl rfl ?_
      refine G.opU rfl rfl rfl rfl ?_
      refine G.opN1 rfl rfl rfl rfl rfl ?_
      refine G.op1 (op_pickF (Ev.t 14 (bB false)) (Ev.c _ rfl) rfl) rfl ⟨rfl, trivial⟩ trivial ?_
      refine G.op1 (op_assign (Ev.t 25 (bB false)) rfl) rfl ⟨rfl, trivial⟩ trivial ?_
      refine G.endOps ?_
      cases hF
      exact G.ret1 Tryd.results91 (RVar.tmp 2 _) ⟨rfl, trivial⟩ trivial
  refine ifS hF (fun hc6 hF => ?_) (fun hc6 hF => ?_)
  · refine G.known (t := 8) hc6 rfl ?_
    refine G.opG1 (op_move (Ev.t 3 (.clo 99 [])) rfl) rfl rfl rfl ⟨rfl, trivial⟩ trivial ?_
    refine G.opG1 (op_fieldP (off' := 1) Tryd.underlying48 rfl ti9 (by decide) rfl (Ev.t 1 (.ptr 1001 0)) rfl) rfl rfl rfl ⟨rfl, trivial⟩ trivial ?_
    refine G.opG1 (op_load1P (c := bS r_0.To) Tryd.underlying9 rfl rfl (Ev.t 10 (.ptr 1001 1)) rfl) rfl rfl rfl ⟨rfl, trivial⟩ ⟨rfl, trivial⟩ ?_
    obtain ⟨r7, hr7, hF⟩ := bindS hF
    refine G.opG1 (op_callClo (sv := .one (bB r7)) (args := _) (gs := _) cf99 (ct_keys_Good_1 r_0.To r7 hr7) rfl rfl EvC.nil (EvQL.cons (EvQ.g (Ev.t 11 (bS r_0.To))) EvQL.nil) rfl) rfl rfl rfl ⟨rfl, rfl, trivial⟩ trivial ?_
    refine G.op1 (op_pickT (Ev.t 8 (bB true)) (Ev.t 12 (bB r7)) rfl) rfl ⟨rfl, rfl, trivial⟩ trivial ?_
    exact G.arr (J5 r7 hF) ⟨rfl, rfl, trivial⟩ ⟨rfl, trivial⟩ rfl
  · refine G.known (t := 8) hc6 rfl ?_
    refine G.opN1 rfl rfl rfl rfl rfl ?_
    refine G.opN1 rfl rfl rfl rfl rfl ?_
    refine G.opN1 rfl rfl rfl rfl rfl ?_
    refine G.opN1 rfl rfl rfl rfl rfl ?_
    refine G.op1 (op_pickF (Ev.t 8 (bB false)) (Ev.c _ rfl) rfl) rfl ⟨rfl, trivial⟩ trivial ?_
    exact G.arr (J5 false hF) ⟨rfl, rfl, trivial⟩ ⟨rfl, trivial⟩ rfl


set_option maxRecDepth 20000 in
set_option maxHeartbeats 2000000 in
theorem ct_keys_Whole (l_0 : (List Api_Range)) (r : Bool) (hF : keys_Whole l_0 = some r) : Ct Tryd.prog 78 [.g (.d (.sl 2 (List.map encApi_Range l_0)))] (.one (.d (.v (.bool r)))) := by
  unfold keys_Whole at hF
  refine Ct.intro Tryd.func78 rfl Tryd.ntmps78 rfl rfl fun M w => ?_
  refine G.seq ?_
  refine G.region ?_
  refine G.op1 (op_assign (Ev.c _ rfl) rfl) rfl trivial trivial ?_
  refine G.endOps ?_
  refine G.seq ?_
  refine G.region ?_
  refine G.op1 (op_assign (Ev.c _ rfl) rfl) rfl trivial trivial ?_
  refine G.endOps ?_
  refine G.seq ?_
  refine G.seq ?_
  refine G.region ?_
  refine G.op1 (op_move (Ev.t 0 (.g (.d (.sl 2 (List.map encApi_Range l_0))))) rfl) rfl ⟨rfl, trivial⟩ trivial ?_
  refine G.op1 (OpL.cast (op_lenD Tryd.underlying25 (Ev.t 6 (.g (.d (.sl 2 (List.map encApi_Range l_0))))) rfl) (by rw [List.length_map])) rfl ⟨rfl, trivial⟩ trivial ?_
  refine G.op1 (op_move (Ev.c _ rfl) rfl) rfl trivial trivial ?_
  refine G.endOps ?_
  refine G.joinC (T := ByteArray) (fun y1 => ⟨[(0, .one (.g (.d (.sl 2 (List.map encApi_Range l_0))))), (3, .one (bS y1))], []⟩) (fun y1 => keys_Whole_k1 l_0 y1 = some r) (fun y1 hF => ?_) (fun J3 => ?_)
  · unfold keys_Whole_k1 at hF
    refine G.seq ?_
    refine G.region ?_
    refine G.op1 (op_move (Ev.t 0 (.g (.d (.sl 2 (List.map encApi_Range l_0))))) rfl) rfl ⟨rfl, trivial⟩ trivial ?_
    refine G.op1 (OpL.cast (op_lenD Tryd.underlying25 (Ev.t 33 (.g (.d (.sl 2 (List.map encApi_Range l_0))))) rfl) (by rw [List.length_map])) rfl ⟨rfl, trivial⟩ trivial ?_
    refine G.op1 (op_gtr (Ev.t 34 (bI .i64 (l_0.length : Int))) (Ev.c _ rfl) rfl) rfl ⟨rfl, trivial⟩ trivial ?_
    refine G.op1 (op_move (Ev.t 35 (bB (decide (0 < (l_0.length : Int))))) rfl) rfl ⟨rfl, trivial⟩ trivial ?_
    refine ifS hF (fun hc2 hF => ?_) (fun hc2 hF => ?_)
    · refine G.known (t := 36) hc2 rfl ?_
      refine G.opG1 (op_move (Ev.t 3 (bS y1)) rfl) rfl rfl rfl ⟨rfl, trivial⟩ trivial ?_
      refine G.opG1 (op_eqS (Ev.t 37 (bS y1)) (Ev.c _ rfl) rfl) rfl rfl rfl ⟨rfl, trivial⟩ trivial ?_
      refine G.op1 (op_pickT (Ev.t 36 (bB true)) (Ev.t 38 (bB (seq y1 ByteArray.empty))) rfl) rfl ⟨rfl, rfl, trivial⟩ trivial ?_
      refine G.op1 (op_assign (Ev.t 39 (bB (seq y1 ByteArray.empty))) rfl) rfl ⟨rfl, trivial⟩ trivial ?_
      refine G.endOps ?_
      cases hF
      exact G.ret1 Tryd.results78 (RVar.tmp 2 _) ⟨rfl, trivial⟩ trivial
    · refine G.known (t := 36) hc2 rfl ?_
      refine G.opN1 rfl rfl rfl rfl rfl ?_
      refine G.opN1 rfl rfl rfl rfl rfl ?_
      refine G.op1 (op_pickF (Ev.t 36 (bB false)) (Ev.c _ rfl) rfl) rfl ⟨rfl, trivial⟩ trivial ?_
      refine G.op1 (op_assign (Ev.t 39 (bB false)) rfl) rfl ⟨rfl, trivial⟩ trivial ?_
      refine G.endOps ?_
      cases hF
      exact G.ret1 Tryd.results78 (RVar.tmp 2 _) ⟨rfl, trivial⟩ trivial
  refine G.block ?_
  refine G.keep (sl' := [(0, .one (.g (.d (.sl 2 (List.map encApi_Range l_0))))), (3, .one (bS ByteArray.empty)), (6, .one (.g (.d (.sl 2 (List.map encApi_Range l_0))))), (7, .one (bI .i64 (l_0.length : Int))), (8, .one (bI .i64 0))]) (hp' := []) ⟨rfl, rfl, rfl, rfl, rfl, trivial⟩ trivial rfl ?_
  refine G.loopF (fun (v4 : ByteArray × Int) => ⟨[(0, .one (.g (.d (.sl 2 (List.map encApi_Range l_0))))), (3, .one (bS v4.1)), (6, .one (.g (.d (.sl 2 (List.map encApi_Range l_0))))), (7, .one (bI .i64 (l_0.length : Int))), (8, .one (bI .i64 v4.2))], []⟩) hF rfl (fun K7 again6 v4 J5 hF => ?_)
  unfold keys_Whole_l2 at hF
  refine G.seq ?_
  refine G.region ?_
  refine G.op1 (op_lss (Ev.t 8 (bI .i64 v4.2)) (Ev.t 7 (bI .i64 (l_0.length : Int))) rfl) rfl ⟨rfl, rfl, trivial⟩ trivial ?_
  refine G.endOps ?_
  refine G.seq ?_
  refine ifS hF (fun hc8 hF => ?_) (fun hc8 hF => ?_)
  · refine G.cond rfl (fun _ => ?_) (fun hx => Bool.noConfusion (hc8.symm.trans hx))
    refine G.skip ?_
    refine G.seq ?_
    refine G.block ?_
    refine G.seq ?_
    refine G.region ?_
    refine G.op1 (op_move (Ev.t 8 (bI .i64 v4.2)) rfl) rfl ⟨rfl, trivial⟩ trivial ?_
    obtain ⟨x9, hx9, hF⟩ := bindS hF
    refine G.op1 (op_index (cs := [.v (.string x9.From), .v (.string x9.To)]) Tryd.underlying25 ti48 (idx_ok hx9).1 (idx_get hx9 encApi_Range) (Ev.t 6 (.g (.d (.sl 2 (List.map encApi_Range l_0))))) (Ev.t 8 (bI .i64 v4.2)) rfl) rfl ⟨rfl, rfl, trivial⟩ trivial ?_
    refine G.op1 (op_loadAE (ds := [.v (.string x9.From), .v (.string x9.To)]) Tryd.underlying48 rfl ti48 rfl (Ev.t 11 (.ep [.v (.string x9.From), .v (.string x9.To)])) rfl) rfl ⟨rfl, trivial⟩ trivial ?_
    refine G.op2 (op_alloc (k := 1005) (cs := [bS ByteArray.empty, bS ByteArray.empty]) ti48 ⟨.v _ rfl, .v _ rfl, trivial⟩ rfl) rfl trivial ⟨rfl, trivial⟩ ?_
    refine G.op1 (op_assign (Ev.t 10 (bI .i64 v4.2)) rfl) rfl ⟨rfl, trivial⟩ trivial ?_
    refine G.op3 (op_storeA (cs' := [bS x9.From, bS x9.To]) ti48 rfl rfl (Ev.t 5 (.ptr 1005 0)) (Ev.t 12 (.g (.agg [.v (.string x9.From), .v (.string x9.To)])))) rfl ⟨rfl, rfl, trivial⟩ ⟨rfl, trivial⟩ ?_
    refine G.endOps ?_
    refine G.seq ?_
    refine G.seq ?_
    refine G.joinC (T := Bool) (fun y10 => ⟨[(0, .one (.g (.d (.sl 2 (List.map encApi_Range l_0))))), (5, .one (.ptr 1005 0)), (6, .one (.g (.d (.sl 2 (List.map encApi_Range l_0))))), (7, .one (bI .i64 (l_0.length : Int))), (8, .one (bI .i64 v4.2)), (29, .one (bB y10))], [(1005, some (.blk 48 [bS x9.From, bS x9.To]))]⟩) (fun y10 => keys_Whole_k3 again6 v4 x9 y10 = some r) (fun y10 hF => ?_) (fun J12 => ?_)
    · unfold keys_Whole_k3 at hF
      refine ifS hF (fun hc11 hF => ?_) (fun hc11 hF => ?_)
      · refine G.cond rfl (fun _ => ?_) (fun hx => Bool.noConfusion (hc11.symm.trans hx))
        refine G.seq ?_
        refine G.region ?_
        refine G.op1 (op_assign (Ev.c _ rfl) rfl) rfl trivial trivial ?_
        refine G.endOps ?_
        cases hF
        exact G.ret1 Tryd.results78 (RVar.tmp 2 _) ⟨rfl, trivial⟩ trivial
      · refine G.cond rfl (fun hx => Bool.noConfusion (hc11.symm.trans hx)) (fun _ => ?_)
        refine G.skip ?_
        refine G.region ?_
        refine G.op1 (op_fieldP (off' := 1) Tryd.underlying48 rfl ti9 (by decide) rfl (Ev.t 5 (.ptr 1005 0)) rfl) rfl ⟨rfl, trivial⟩ trivial ?_
        refine G.op1 (op_load1P (c := bS x9.To) Tryd.underlying9 rfl rfl (Ev.t 30 (.ptr 1005 1)) rfl) rfl ⟨rfl, trivial⟩ ⟨rfl, trivial⟩ ?_
        refine G.op1 (op_assign (Ev.t 31 (bS x9.To)) rfl) rfl ⟨rfl, trivial⟩ trivial ?_
        refine G.endOps ?_
        refine G.endBlock ?_
        refine G.region ?_
        refine G.op1 (op_add (Ev.t 8 (bI .i64 v4.2)) (Ev.c _ rfl) rfl) rfl ⟨rfl, trivial⟩ trivial ?_
        refine G.op1 (op_move (Ev.t 32 (bI .i64 (IntKind.wrap .i64 (v4.2 + 1)))) rfl) rfl ⟨rfl, trivial⟩ trivial ?_
        refine G.endOps ?_
        exact G.arr (J5 (x9.To, IntKind.wrap .i64 (v4.2 + 1)) hF) ⟨rfl, rfl, rfl, rfl, rfl, trivial⟩ trivial rfl
    refine G.region ?_
    refine G.op1 (op_loadAP (ds := [.v (.string x9.From), .v (.string x9.To)]) Tryd.underlying48 rfl ti48 rfl (Ev.t 5 (.ptr 1005 0)) rfl) rfl ⟨rfl, trivial⟩ ⟨rfl, trivial⟩ ?_
    obtain ⟨r13, hr13, hF⟩ := bindS hF
    refine G.op1 (op_callQ (sv := .one (bB r13)) cf91 (ct_keys_Good x9 r13 hr13) rfl rfl (EvQL.cons (EvQ.g (Ev.t 13 (.g (.agg [.v (.string x9.From), .v (.string x9.To)])))) EvQL.nil) rfl) rfl ⟨rfl, trivial⟩ trivial ?_
    refine G.op1 (op_not (Ev.t 14 (bB r13)) rfl) rfl ⟨rfl, trivial⟩ trivial ?_
    refine G.op1 (op_move (Ev.t 15 (bB (!r13))) rfl) rfl ⟨rfl, trivial⟩ trivial ?_
    refine G.joinL (T := Bool) 5 (fun y14 => ⟨[(0, .one (.g (.d (.sl 2 (List.map encApi_Range l_0))))), (3, .one (bS v4.1)), (4, .one (bI .i64 v4.2)), (5, .one (.ptr 1005 0)), (6, .one (.g (.d (.sl 2 (List.map encApi_Range l_0))))), (7, .one (bI .i64 (l_0.length : Int))), (8, .one (bI .i64 v4.2)), (21, .one (bB y14))], [(1005, some (.blk 48 [bS x9.From, bS x9.To]))]⟩) (fun y14 => keys_Whole_k4 again6 v4 x9 y14 = some r) (fun y14 hF => ?_) (fun J17 => ?_)
    · unfold keys_Whole_k4 at hF
      refine G.op1 (op_move (Ev.t 21 (bB y14)) rfl) rfl ⟨rfl, trivial⟩ trivial ?_
      refine ifS hF (fun hc15 hF => ?_) (fun hc15 hF => ?_)
      · refine G.known (t := 22) hc15 rfl ?_
        refine G.opN1 rfl rfl rfl rfl rfl ?_
        refine G.opN1 rfl rfl rfl rfl rfl ?_
        refine G.opN1 rfl rfl rfl rfl rfl ?_
        refine G.opU rfl rfl rfl rfl ?_
        refine G.opU rfl rfl rfl rfl ?_
        refine G.opN1 rfl rfl rfl rfl rfl ?_
        refine G.op1 (op_pickT (Ev.t 22 (bB true)) (Ev.c _ rfl) rfl) rfl ⟨rfl, trivial⟩ trivial ?_
        refine G.endOps ?_
        exact G.arr (J12 true hF) ⟨rfl, rfl, rfl, rfl, rfl, rfl, trivial⟩ ⟨rfl, trivial⟩ rfl
      · refine G.known (t := 22) hc15 rfl ?_
        refine G.opG1 (op_move (Ev.t 4 (bI .i64 v4.2)) rfl) rfl rfl rfl ⟨rfl, trivial⟩ trivial ?_
        refine G.opG1 (op_gtr (Ev.t 23 (bI .i64 v4.2)) (Ev.c _ rfl) rfl) rfl rfl rfl ⟨rfl, trivial⟩ trivial ?_
        refine G.opG1 (op_move (Ev.t 24 (bB (decide (0 < v4.2)))) rfl) rfl rfl rfl ⟨rfl, trivial⟩ trivial ?_
        refine ifS hF (fun hc16 hF => ?_) (fun hc16 hF => ?_)
        · refine G.known (t := 25) hc16 rfl ?_
          refine G.opG1 (op_move (Ev.t 3 (bS v4.1)) rfl) rfl rfl rfl ⟨rfl, trivial⟩ trivial ?_
          refine G.opG1 (op_eqS (Ev.t 26 (bS v4.1)) (Ev.c _ rfl) rfl) rfl rfl rfl ⟨rfl, trivial⟩ trivial ?_
          refine G.opG1 (op_pickT (Ev.t 25 (bB true)) (Ev.t 27 (bB (seq v4.1 ByteArray.empty))) rfl) rfl rfl rfl ⟨rfl, rfl, trivial⟩ trivial ?_
          refine G.op1 (op_pickF (Ev.t 22 (bB false)) (Ev.t 28 (bB (seq v4.1 ByteArray.empty))) rfl) rfl ⟨rfl, rfl, trivial⟩ trivial ?_
          refine G.endOps ?_
          exact G.arr (J12 (seq v4.1 ByteArray.empty) hF) ⟨rfl, rfl, rfl, rfl, rfl, rfl, trivial⟩ ⟨rfl, trivial⟩ rfl
        · refine G.known (t := 25) hc16 rfl ?_
          refine G.opN1 rfl rfl rfl rfl rfl ?_
          refine G.opN1 rfl rfl rfl rfl rfl ?_
          refine G.opG1 (op_pickF (Ev.t 25 (bB false)) (Ev.c _ rfl) rfl) rfl rfl rfl ⟨rfl, trivial⟩ trivial ?_
          refine G.op1 (op_pickF (Ev.t 22 (bB false)) (Ev.t 28 (bB false)) rfl) rfl ⟨rfl, rfl, trivial⟩ trivial ?_
          refine G.endOps ?_
          exact G.arr (J12 false hF) ⟨rfl, rfl, rfl, rfl, rfl, rfl, trivial⟩ ⟨rfl, trivial⟩ rfl
    refine ifS hF (fun hc18 hF => ?_) (fun hc18 hF => ?_)
    · refine G.known (t := 16) hc18 rfl ?_
      refine G.opN1 rfl rfl rfl rfl rfl ?_
      refine G.opN1 rfl rfl rfl rfl rfl ?_
      refine G.opN1 rfl rfl rfl rfl rfl ?_
      refine G.opN1 rfl rfl rfl rfl rfl ?_
      refine G.op1 (op_pickT (Ev.t 16 (bB true)) (Ev.c _ rfl) rfl) rfl ⟨rfl, trivial⟩ trivial ?_
      exact G.arr (J17 true hF) ⟨rfl, rfl, rfl, rfl, rfl, rfl, rfl, rfl, trivial⟩ ⟨rfl, trivial⟩ rfl
    · refine G.known (t := 16) hc18 rfl ?_
      refine G.opG1 (op_fieldP (off' := 0) Tryd.underlying48 rfl ti9 (by decide) rfl (Ev.t 5 (.ptr 1005 0)) rfl) rfl rfl rfl ⟨rfl, trivial⟩ trivial ?_
      refine G.opG1 (op_load1P (c := bS x9.From) Tryd.underlying9 rfl rfl (Ev.t 17 (.ptr 1005 0)) rfl) rfl rfl rfl ⟨rfl, trivial⟩ ⟨rfl, trivial⟩ ?_
      refine G.opG1 (op_move (Ev.t 3 (bS v4.1)) rfl) rfl rfl rfl ⟨rfl, trivial⟩ trivial ?_
      refine G.opG1 (op_neS (Ev.t 18 (bS x9.From)) (Ev.t 19 (bS v4.1)) rfl) rfl rfl rfl ⟨rfl, rfl, trivial⟩ trivial ?_
      refine G.op1 (op_pickF (Ev.t 16 (bB false)) (Ev.t 20 (bB (!seq x9.From v4.1))) rfl) rfl ⟨rfl, rfl, trivial⟩ trivial ?_
      exact G.arr (J17 (!seq x9.From v4.1) hF) ⟨rfl, rfl, rfl, rfl, rfl, rfl, rfl, rfl, trivial⟩ ⟨rfl, trivial⟩ rfl
  · refine G.cond rfl (fun hx => Bool.noConfusion (hc8.symm.trans hx)) (fun _ => ?_)
    refine G.exit ?_
    refine GX.c ?_
    refine GX.q ?_
    refine GX.bYes ?_
    exact G.arr (J3 v4.1 hF) ⟨rfl, rfl, trivial⟩ trivial rfl


set_option maxRecDepth 20000 in
set_option maxHeartbeats 2000000 in
theorem ct_wire_written_1 (p_0 : Int) (r : Bool) (hF : wire_written_1 p_0 = some r) : Ct Tryd.prog 79 [.g (.d (.v (.int .i64 p_0)))] (.one (.d (.v (.bool r)))) := by
  unfold wire_written_1 at hF
  refine Ct.intro Tryd.func79 rfl Tryd.ntmps79 rfl rfl fun M w => ?_
  refine G.seq ?_
  refine G.region ?_
  refine G.op1 (op_assign (Ev.c _ rfl) rfl) rfl trivial trivial ?_
  refine G.endOps ?_
  refine G.seq ?_
  refine G.region ?_
  refine G.op1 (op_move (Ev.t 0 (bI .i64 p_0)) rfl) rfl ⟨rfl, trivial⟩ trivial ?_
  refine G.op1 (op_lss (Ev.t 3 (bI .i64 p_0)) (Ev.c _ rfl) rfl) rfl ⟨rfl, trivial⟩ trivial ?_
  refine G.op1 (op_move (Ev.t 4 (bB (decide (p_0 < (-1))))) rfl) rfl ⟨rfl, trivial⟩ trivial ?_
  refine ifS hF (fun hc1 hF => ?_) (fun hc1 hF => ?_)
  · refine G.known (t := 5) hc1 rfl ?_
    refine G.opN1 rfl rfl rfl rfl rfl ?_
    refine G.opN1 rfl rfl rfl rfl rfl ?_
    refine G.op1 (op_pickT (Ev.t 5 (bB true)) (Ev.c _ rfl) rfl) rfl ⟨rfl, trivial⟩ trivial ?_
    refine G.op1 (op_assign (Ev.t 8 (bB true)) rfl) rfl ⟨rfl, trivial⟩ trivial ?_
    refine G.endOps ?_
    cases hF
    exact G.ret1 Tryd.results79 (RVar.tmp 2 _) ⟨rfl, trivial⟩ trivial
  · refine G.known (t := 5) hc1 rfl ?_
    refine G.opG1 (op_move (Ev.t 0 (bI .i64 p_0)) rfl) rfl rfl rfl ⟨rfl, trivial⟩ trivial ?_
    refine G.opG1 (op_geq (Ev.t 6 (bI .i64 p_0)) (Ev.c _ rfl) rfl) rfl rfl rfl ⟨rfl, trivial⟩ trivial ?_
    refine G.op1 (op_pickF (Ev.t 5 (bB false)) (Ev.t 7 (bB (decide (6 ≤ p_0)))) rfl) rfl ⟨rfl, rfl, trivial⟩ trivial ?_
    refine G.op1 (op_assign (Ev.t 8 (bB (decide (6 ≤ p_0)))) rfl) rfl ⟨rfl, trivial⟩ trivial ?_
    refine G.endOps ?_
    cases hF
    exact G.ret1 Tryd.results79 (RVar.tmp 2 _) ⟨rfl, trivial⟩ trivial


set_option maxRecDepth 20000 in
set_option maxHeartbeats 2000000 in
theorem ct_wire_written_2 (o_0 : Int) (c0 : Int) (r : Bool) (hF : wire_written_2 o_0 c0 = some r) : Ct Tryd.prog 80 [.g (.d (.v (.int .i64 o_0))), .ep [.v (.int .i64 c0)]] (.one (.d (.v (.bool r)))) := by
  unfold wire_written_2 at hF
  refine Ct.intro Tryd.func80 rfl Tryd.ntmps80 rfl rfl fun M w => ?_
  refine G.seq ?_
  refine G.region ?_
  refine G.op1 (op_assign (Ev.c _ rfl) rfl) rfl trivial trivial ?_
  refine G.endOps ?_
  refine G.seq ?_
  refine G.region ?_
  refine G.op1 (op_move (Ev.t 0 (bI .i64 o_0)) rfl) rfl ⟨rfl, trivial⟩ trivial ?_
  refine G.op1 (op_lss (Ev.t 4 (bI .i64 o_0)) (Ev.c _ rfl) rfl) rfl ⟨rfl, trivial⟩ trivial ?_
  refine G.op1 (op_move (Ev.t 5 (bB (decide (o_0 < 1)))) rfl) rfl ⟨rfl, trivial⟩ trivial ?_
  refine ifS hF (fun hc1 hF => ?_) (fun hc1 hF => ?_)
  · refine G.known (t := 6) hc1 rfl ?_
    refine G.opN1 rfl rfl rfl rfl rfl ?_
    refine G.opN1 rfl rfl rfl rfl rfl ?_
    refine G.opN1 rfl rfl rfl rfl rfl ?_
    refine G.opN1 rfl rfl rfl rfl rfl ?_
    refine G.op1 (op_pickT (Ev.t 6 (bB true)) (Ev.c _ rfl) rfl) rfl ⟨rfl, trivial⟩ trivial ?_
    refine G.op1 (op_assign (Ev.t 11 (bB true)) rfl) rfl ⟨rfl, trivial⟩ trivial ?_
    refine G.endOps ?_
    cases hF
    exact G.ret1 Tryd.results80 (RVar.tmp 3 _) ⟨rfl, trivial⟩ trivial
  · refine G.known (t := 6) hc1 rfl ?_
    refine G.opG1 (op_move (Ev.t 0 (bI .i64 o_0)) rfl) rfl rfl rfl ⟨rfl, trivial⟩ trivial ?_
    refine G.opG1 (op_load1E (c := .v (.int .i64 c0)) Tryd.underlying3 rfl rfl (Ev.t 1 (.ep [.v (.int .i64 c0)])) rfl) rfl rfl rfl ⟨rfl, trivial⟩ trivial ?_
    obtain ⟨hz2, hF⟩ := chkS hF
    refine G.opG1 (op_shr (of_decide_eq_true hz2) (Ev.t 7 (bI .i64 o_0)) (Ev.t 8 (bI .i64 c0)) rfl) rfl rfl rfl ⟨rfl, rfl, trivial⟩ trivial ?_
    refine G.opG1 (op_neI (Ev.t 9 (bI .i64 (Int.fdiv o_0 (2 ^ min (Int.toNat c0) (IntKind.bits .i64))))) (Ev.c _ rfl) rfl) rfl rfl rfl ⟨rfl, trivial⟩ trivial ?_
    refine G.op1 (op_pickF (Ev.t 6 (bB false)) (Ev.t 10 (bB (!decide ((Int.fdiv o_0 (2 ^ min (Int.toNat c0) (IntKind.bits .i64))) = 0)))) rfl) rfl ⟨rfl, rfl, trivial⟩ trivial ?_
    refine G.op1 (op_assign (Ev.t 11 (bB (!decide ((Int.fdiv o_0 (2 ^ min (Int.toNat c0) (IntKind.bits .i64))) = 0)))) rfl) rfl ⟨rfl, trivial⟩ trivial ?_
    refine G.endOps ?_
    cases hF
    exact G.ret1 Tryd.results80 (RVar.tmp 3 _) ⟨rfl, trivial⟩ trivial


set_option maxRecDepth 20000 in
set_option maxHeartbeats 2000000 in
theorem ct_slices_IndexFunc_int (s_0 : (List Int)) (f_1 : (Int → Option Bool)) (r : Int) (hF : slices_IndexFunc_int s_0 f_1 = some r) : Ct Tryd.prog 56 [.g (.d (.sl 1 (List.map encI_i64 s_0))), .sem (sem1 (fun x => .d (.v (.int .i64 x))) (fun y => .bool y) f_1)] (.one (.d (.v (.int .i64 r)))) := by
  unfold slices_IndexFunc_int at hF
  refine Ct.intro Tryd.func56 rfl Tryd.ntmps56 rfl rfl fun M w => ?_
  refine G.seq ?_
  refine G.region ?_
  refine G.op1 (op_assign (Ev.c _ rfl) rfl) rfl trivial trivial ?_
  refine G.endOps ?_
  refine G.seq ?_
  refine G.seq ?_
  refine G.region ?_
  refine G.op1 (op_move (Ev.t 0 (.g (.d (.sl 1 (List.map encI_i64 s_0))))) rfl) rfl ⟨rfl, trivial⟩ trivial ?_
  refine G.op1 (OpL.cast (op_lenD Tryd.underlying26 (Ev.t 6 (.g (.d (.sl 1 (List.map encI_i64 s_0))))) rfl) (by rw [List.length_map])) rfl ⟨rfl, trivial⟩ trivial ?_
  refine G.op1 (op_move (Ev.c _ rfl) rfl) rfl trivial trivial ?_
  refine G.endOps ?_
  refine G.joinC (T := Unit) (fun y1 => ⟨[], []⟩) (fun y1 => slices_IndexFunc_int_k1 y1 = some r) (fun y1 hF => ?_) (fun J2 => ?_)
  · unfold slices_IndexFunc_int_k1 at hF
    refine G.seq ?_
    refine G.region ?_
    refine G.op1 (op_assign (Ev.c _ rfl) rfl) rfl trivial trivial ?_
    refine G.endOps ?_
    cases hF
    exact G.ret1 Tryd.results56 (RVar.tmp 4 _) ⟨rfl, trivial⟩ trivial
  refine G.block ?_
  refine G.keep (sl' := [(0, .one (.g (.d (.sl 1 (List.map encI_i64 s_0))))), (1, .one (.sem (sem1 (fun x => .d (.v (.int .i64 x))) (fun y => .bool y) f_1))), (7, .one (bI .i64 (s_0.length : Int))), (8, .one (bI .i64 0))]) (hp' := []) ⟨rfl, rfl, rfl, rfl, trivial⟩ trivial rfl ?_
  refine G.loopF (fun (v3 : Int) => ⟨[(0, .one (.g (.d (.sl 1 (List.map encI_i64 s_0))))), (1, .one (.sem (sem1 (fun x => .d (.v (.int .i64 x))) (fun y => .bool y) f_1))), (7, .one (bI .i64 (s_0.length : Int))), (8, .one (bI .i64 v3))], []⟩) hF rfl (fun K6 again5 v3 J4 hF => ?_)
  unfold slices_IndexFunc_int_l2 at hF
  refine G.seq ?_
  refine G.region ?_
  refine G.op1 (op_lss (Ev.t 8 (bI .i64 v3)) (Ev.t 7 (bI .i64 (s_0.length : Int))) rfl) rfl ⟨rfl, rfl, trivial⟩ trivial ?_
  refine G.endOps ?_
  refine G.seq ?_
  refine ifS hF (fun hc7 hF => ?_) (fun hc7 hF => ?_)
  · refine G.cond rfl (fun _ => ?_) (fun hx => Bool.noConfusion (hc7.symm.trans hx))
    refine G.skip ?_
    refine G.seq ?_
    refine G.block ?_
    refine G.seq ?_
    refine G.region ?_
    refine G.op1 (op_move (Ev.t 8 (bI .i64 v3)) rfl) rfl ⟨rfl, trivial⟩ trivial ?_
    refine G.op1 (op_assign (Ev.t 10 (bI .i64 v3)) rfl) rfl ⟨rfl, trivial⟩ trivial ?_
    refine G.endOps ?_
    refine G.seq ?_
    refine G.region ?_
    refine G.op1 (op_move (Ev.t 1 (.sem (sem1 (fun x => .d (.v (.int .i64 x))) (fun y => .bool y) f_1))) rfl) rfl ⟨rfl, trivial⟩ trivial ?_
    refine G.op1 (op_move (Ev.t 0 (.g (.d (.sl 1 (List.map encI_i64 s_0))))) rfl) rfl ⟨rfl, trivial⟩ trivial ?_
    refine G.op1 (op_move (Ev.t 5 (bI .i64 v3)) rfl) rfl ⟨rfl, trivial⟩ trivial ?_
    obtain ⟨x8, hx8, hF⟩ := bindS hF
    refine G.op1 (op_index (cs := [.v (.int .i64 x8)]) Tryd.underlying26 ti3 (idx_ok hx8).1 (idx_get hx8 encI_i64) (Ev.t 12 (.g (.d (.sl 1 (List.map encI_i64 s_0))))) (Ev.t 13 (bI .i64 v3)) rfl) rfl ⟨rfl, rfl, trivial⟩ trivial ?_
    refine G.op1 (op_load1E (c := .v (.int .i64 x8)) Tryd.underlying3 rfl rfl (Ev.t 14 (.ep [.v (.int .i64 x8)])) rfl) rfl ⟨rfl, trivial⟩ trivial ?_
    obtain ⟨r9, hr9, hF⟩ := bindS hF
    refine G.op1 (op_callSem (t := 11) (v := .bool r9) (Φ := sem1 (fun x => .d (.v (.int .i64 x))) (fun y => .bool y) f_1) ⟨x8, r9, rfl, hr9, rfl⟩ rfl (EvL.cons (Ev.t 15 (bI .i64 x8)) EvL.nil) rfl) rfl ⟨rfl, rfl, trivial⟩ trivial ?_
    refine G.endOps ?_
    refine ifS hF (fun hc10 hF => ?_) (fun hc10 hF => ?_)
    · refine G.cond rfl (fun _ => ?_) (fun hx => Bool.noConfusion (hc10.symm.trans hx))
      refine G.seq ?_
      refine G.region ?_
      refine G.op1 (op_move (Ev.t 5 (bI .i64 v3)) rfl) rfl ⟨rfl, trivial⟩ trivial ?_
      refine G.op1 (op_assign (Ev.t 17 (bI .i64 v3)) rfl) rfl ⟨rfl, trivial⟩ trivial ?_
      refine G.endOps ?_
      cases hF
      exact G.ret1 Tryd.results56 (RVar.tmp 4 _) ⟨rfl, trivial⟩ trivial
    · refine G.cond rfl (fun hx => Bool.noConfusion (hc10.symm.trans hx)) (fun _ => ?_)
      refine G.skip ?_
      refine G.endBlock ?_
      refine G.region ?_
      refine G.op1 (op_add (Ev.t 8 (bI .i64 v3)) (Ev.c _ rfl) rfl) rfl ⟨rfl, trivial⟩ trivial ?_
      refine G.op1 (op_move (Ev.t 18 (bI .i64 (IntKind.wrap .i64 (v3 + 1)))) rfl) rfl ⟨rfl, trivial⟩ trivial ?_
      refine G.endOps ?_
      exact G.arr (J4 (IntKind.wrap .i64 (v3 + 1)) hF) ⟨rfl, rfl, rfl, rfl, trivial⟩ trivial rfl
  · refine G.cond rfl (fun hx => Bool.noConfusion (hc7.symm.trans hx)) (fun _ => ?_)
    refine G.exit ?_
    refine GX.c ?_
    refine GX.q ?_
    refine GX.bYes ?_
    exact G.arr (J2 () hF) trivial trivial rfl


set_option maxRecDepth 20000 in
set_option maxHeartbeats 2000000 in
theorem ct_slices_ContainsFunc_int (s_0 : (List Int)) (f_1 : (Int → Option Bool)) (r : Bool) (hF : slices_ContainsFunc_int s_0 f_1 = some r) : Ct Tryd.prog 31 [.g (.d (.sl 1 (List.map encI_i64 s_0))), .sem (sem1 (fun x => .d (.v (.int .i64 x))) (fun y => .bool y) f_1)] (.one (.d (.v (.bool r)))) := by
  unfold slices_ContainsFunc_int at hF
  refine Ct.intro Tryd.func31 rfl Tryd.ntmps31 rfl rfl fun M w => ?_
  refine G.seq ?_
  refine G.region ?_
  refine G.op1 (op_assign (Ev.c _ rfl) rfl) rfl trivial trivial ?_
  refine G.endOps ?_
  refine G.seq ?_
  refine G.region ?_
  refine G.op1 (op_move (Ev.t 0 (.g (.d (.sl 1 (List.map encI_i64 s_0))))) rfl) rfl ⟨rfl, trivial⟩ trivial ?_
  refine G.op1 (op_move (Ev.t 1 (.sem (sem1 (fun x => .d (.v (.int .i64 x))) (fun y => .bool y) f_1))) rfl) rfl ⟨rfl, trivial⟩ trivial ?_
  obtain ⟨r1, hr1, hF⟩ := bindS hF
  refine G.op1 (op_callQ (sv := .one (bI .i64 r1)) cf56 (ct_slices_IndexFunc_int s_0 f_1 r1 hr1) rfl rfl (EvQL.cons (EvQ.g (Ev.t 5 (.g (.d (.sl 1 (List.map encI_i64 s_0)))))) (EvQL.cons (EvQ.sem (Ev.t 6 (.sem (sem1 (fun x => .d (.v (.int .i64 x))) (fun y => .bool y) f_1)))) EvQL.nil)) rfl) rfl ⟨rfl, rfl, trivial⟩ trivial ?_
  refine G.op1 (op_geq (Ev.t 7 (bI .i64 r1)) (Ev.c _ rfl) rfl) rfl ⟨rfl, trivial⟩ trivial ?_
  refine G.op1 (op_assign (Ev.t 8 (bB (decide (0 ≤ r1)))) rfl) rfl ⟨rfl, trivial⟩ trivial ?_
  refine G.endOps ?_
  cases hF
  exact G.ret1 Tryd.results31 (RVar.tmp 4 _) ⟨rfl, trivial⟩ trivial


set_option maxRecDepth 20000 in
set_option maxHeartbeats 2000000 in
theorem ct_wire_written (c_0 : Api_Row) (r : Bool) (hF : wire_written c_0 = some r) : Ct Tryd.prog 58 [.g (.agg (encApi_Row c_0))] (.one (.d (.v (.bool r)))) := by
  unfold wire_written at hF
  refine Ct.intro Tryd.func58 rfl Tryd.ntmps58 rfl rfl fun M w => ?_
  refine G.seq ?_
  refine G.region ?_
  refine G.op2 (op_boxA (k := 1001) (Ev.t 0 (.g (.agg [.sl 2 (List.map encApi_Range c_0.Ranges), .sl 1 (List.map encI_i64 c_0.Owners), .sl 1 (List.map encI_i64 c_0.Parents)]))) rfl) rfl ⟨rfl, trivial⟩ ⟨rfl, trivial⟩ ?_
  refine G.op1 (op_assign (Ev.c _ rfl) rfl) rfl trivial trivial ?_
  refine G.endOps ?_
  refine G.seq ?_
  refine G.region ?_
  refine G.op1 (op_fieldP (off' := 2) Tryd.underlying28 rfl ti26 (by decide) rfl (Ev.t 1 (.ptr 1001 0)) rfl) rfl ⟨rfl, trivial⟩ trivial ?_
  refine G.op1 (op_load1P (c := .g (.d (.sl 1 (List.map encI_i64 c_0.Parents)))) Tryd.underlying26 rfl rfl (Ev.t 6 (.ptr 1001 2)) rfl) rfl ⟨rfl, trivial⟩ ⟨rfl, trivial⟩ ?_
  refine G.op1 (OpL.cast (op_lenD Tryd.underlying26 (Ev.t 7 (.g (.d (.sl 1 (List.map encI_i64 c_0.Parents))))) rfl) (by rw [List.length_map])) rfl ⟨rfl, trivial⟩ trivial ?_
  refine G.op2 (op_alloc (k := 1003) (cs := [bI .i64 0]) ti3 ⟨.v _ rfl, trivial⟩ rfl) rfl trivial ⟨rfl, trivial⟩ ?_
  refine G.op3 (op_store1 (cs' := [bI .i64 (c_0.Parents.length : Int)]) (c := bI .i64 (c_0.Parents.length : Int)) trivial ti3 rfl rfl (Ev.t 3 (.ptr 1003 0)) (Ev.t 8 (bI .i64 (c_0.Parents.length : Int)))) rfl ⟨rfl, rfl, trivial⟩ ⟨rfl, trivial⟩ ?_
  refine G.endOps ?_
  refine G.seq ?_
  refine G.seq ?_
  refine G.joinC (T := Bool) (fun y1 => ⟨[(1, .one (.ptr 1001 0)), (3, .one (.ptr 1003 0)), (35, .one (bB y1))], [(1001, some (.blk 28 [.g (.d (.sl 2 (List.map encApi_Range c_0.Ranges))), .g (.d (.sl 1 (List.map encI_i64 c_0.Owners))), .g (.d (.sl 1 (List.map encI_i64 c_0.Parents)))])), (1003, some (.blk 3 [bI .i64 (c_0.Parents.length : Int)]))]⟩) (fun y1 => wire_written_k1 c_0 y1 = some r) (fun y1 hF => ?_) (fun J6 => ?_)
  · unfold wire_written_k1 at hF
    refine ifS hF (fun hc2 hF => ?_) (fun hc2 hF => ?_)
    · refine G.cond rfl (fun _ => ?_) (fun hx => Bool.noConfusion (hc2.symm.trans hx))
      refine G.seq ?_
      refine G.region ?_
      refine G.op1 (op_assign (Ev.c _ rfl) rfl) rfl trivial trivial ?_
      refine G.endOps ?_
      cases hF
      exact G.ret1 Tryd.results58 (RVar.tmp 2 _) ⟨rfl, trivial⟩ trivial
    · refine G.cond rfl (fun hx => Bool.noConfusion (hc2.symm.trans hx)) (fun _ => ?_)
      refine G.skip ?_
      refine G.seq ?_
      refine G.region ?_
      refine G.op1 (op_assign (Ev.f 79) rfl) rfl trivial trivial ?_
      refine G.endOps ?_
      refine G.seq ?_
      refine G.region ?_
      refine G.op1 (op_makeFunc1 (Ev.t 3 (.ptr 1003 0)) rfl) rfl ⟨rfl, trivial⟩ trivial ?_
      refine G.op1 (op_assign (Ev.t 36 (.clo 80 [1003])) rfl) rfl ⟨rfl, trivial⟩ trivial ?_
      refine G.endOps ?_
      refine G.seq ?_
      refine G.region ?_
      refine G.op1 (op_fieldP (off' := 2) Tryd.underlying28 rfl ti26 (by decide) rfl (Ev.t 1 (.ptr 1001 0)) rfl) rfl ⟨rfl, trivial⟩ trivial ?_
      refine G.op1 (op_load1P (c := .g (.d (.sl 1 (List.map encI_i64 c_0.Parents)))) Tryd.underlying26 rfl rfl (Ev.t 37 (.ptr 1001 2)) rfl) rfl ⟨rfl, trivial⟩ ⟨rfl, trivial⟩ ?_
      refine G.op1 (op_move (Ev.t 4 (.clo 79 [])) rfl) rfl ⟨rfl, trivial⟩ trivial ?_
      obtain ⟨r3, hr3, hF⟩ := bindS hF
      refine G.op1 (op_callQ (sv := .one (bB r3)) cf31 (ct_slices_ContainsFunc_int c_0.Parents (fun x0 => wire_written_1 x0) r3 hr3) rfl rfl (EvQL.cons (EvQ.g (Ev.t 38 (.g (.d (.sl 1 (List.map encI_i64 c_0.Parents)))))) (EvQL.cons (EvQ.clo (Φ := sem1 (fun x => .d (.v (.int .i64 x))) (fun y => .bool y) (fun x0 => wire_written_1 x0)) (Ev.t 39 (.clo 79 [])) EvC.nil cf79 (fun args v ⟨x0, b, h1, h2, h3⟩ => by subst h1 h3; exact ct_wire_written_1 x0 b h2)) EvQL.nil)) rfl) rfl ⟨rfl, rfl, trivial⟩ trivial ?_
      refine G.op1 (op_not (Ev.t 40 (bB r3)) rfl) rfl ⟨rfl, trivial⟩ trivial ?_
      refine G.op1 (op_move (Ev.t 41 (bB (!r3))) rfl) rfl ⟨rfl, trivial⟩ trivial ?_
      refine ifS hF (fun hc4 hF => ?_) (fun hc4 hF => ?_)
      · refine G.known (t := 42) hc4 rfl ?_
        refine G.opG1 (op_fieldP (off' := 1) Tryd.underlying28 rfl ti26 (by decide) rfl (Ev.t 1 (.ptr 1001 0)) rfl) rfl rfl rfl ⟨rfl, trivial⟩ trivial ?_
        refine G.opG1 (op_load1P (c := .g (.d (.sl 1 (List.map encI_i64 c_0.Owners)))) Tryd.underlying26 rfl rfl (Ev.t 43 (.ptr 1001 1)) rfl) rfl rfl rfl ⟨rfl, trivial⟩ ⟨rfl, trivial⟩ ?_
        refine G.opG1 (op_move (Ev.t 5 (.clo 80 [1003])) rfl) rfl rfl rfl ⟨rfl, trivial⟩ trivial ?_
        obtain ⟨r5, hr5, hF⟩ := bindS hF
        refine G.opG1 (op_callQ (sv := .one (bB r5)) cf31 (ct_slices_ContainsFunc_int c_0.Owners (fun x0 => wire_written_2 x0 (c_0.Parents.length : Int)) r5 hr5) rfl rfl (EvQL.cons (EvQ.g (Ev.t 44 (.g (.d (.sl 1 (List.map encI_i64 c_0.Owners)))))) (EvQL.cons (EvQ.clo (Φ := sem1 (fun x => .d (.v (.int .i64 x))) (fun y => .bool y) (fun x0 => wire_written_2 x0 (c_0.Parents.length : Int))) (Ev.t 45 (.clo 80 [1003])) (EvC.cons rfl EvC.nil) cf80 (fun args v ⟨x0, b, h1, h2, h3⟩ => by subst h1 h3; exact ct_wire_written_2 x0 (c_0.Parents.length : Int) b h2)) EvQL.nil)) rfl) rfl rfl rfl ⟨rfl, rfl, trivial⟩ ⟨rfl, trivial⟩ ?_
        refine G.opG1 (op_not (Ev.t 46 (bB r5)) rfl) rfl rfl rfl ⟨rfl, trivial⟩ trivial ?_
        refine G.op1 (op_pickT (Ev.t 42 (bB true)) (Ev.t 47 (bB (!r5))) rfl) rfl ⟨rfl, rfl, trivial⟩ trivial ?_
        refine G.op1 (op_assign (Ev.t 48 (bB (!r5))) rfl) rfl ⟨rfl, trivial⟩ trivial ?_
        refine G.endOps ?_
        cases hF
        exact G.ret1 Tryd.results58 (RVar.tmp 2 _) ⟨rfl, trivial⟩ trivial
      · refine G.known (t := 42) hc4 rfl ?_
        refine G.opN1 rfl rfl rfl rfl rfl ?_
        refine G.opN1 rfl rfl rfl rfl rfl ?_
        refine G.opN1 rfl rfl rfl rfl rfl ?_
        refine G.opN1 rfl rfl rfl rfl rfl ?_
        refine G.opN1 rfl rfl rfl rfl rfl ?_
        refine G.op1 (op_pickF (Ev.t 42 (bB false)) (Ev.c _ rfl) rfl) rfl ⟨rfl, trivial⟩ trivial ?_
        refine G.op1 (op_assign (Ev.t 48 (bB false)) rfl) rfl ⟨rfl, trivial⟩ trivial ?_
        refine G.endOps ?_
        cases hF
        exact G.ret1 Tryd.results58 (RVar.tmp 2 _) ⟨rfl, trivial⟩ trivial
  refine G.region ?_
  refine G.op1 (op_load1P (c := bI .i64 (c_0.Parents.length : Int)) Tryd.underlying3 rfl rfl (Ev.t 3 (.ptr 1003 0)) rfl) rfl ⟨rfl, trivial⟩ ⟨rfl, trivial⟩ ?_
  refine G.op1 (op_lss (Ev.t 9 (bI .i64 (c_0.Parents.length : Int))) (Ev.c _ rfl) rfl) rfl ⟨rfl, trivial⟩ trivial ?_
  refine G.op1 (op_move (Ev.t 10 (bB (decide ((c_0.Parents.length : Int) < 1)))) rfl) rfl ⟨rfl, trivial⟩ trivial ?_
  refine G.joinL (T := Bool) 3 (fun y7 => ⟨[(1, .one (.ptr 1001 0)), (3, .one (.ptr 1003 0)), (14, .one (bB y7))], [(1001, some (.blk 28 [.g (.d (.sl 2 (List.map encApi_Range c_0.Ranges))), .g (.d (.sl 1 (List.map encI_i64 c_0.Owners))), .g (.d (.sl 1 (List.map encI_i64 c_0.Parents)))])), (1003, some (.blk 3 [bI .i64 (c_0.Parents.length : Int)]))]⟩) (fun y7 => wire_written_k2 c_0 y7 = some r) (fun y7 hF => ?_) (fun J16 => ?_)
  · unfold wire_written_k2 at hF
    refine G.op1 (op_move (Ev.t 14 (bB y7)) rfl) rfl ⟨rfl, trivial⟩ trivial ?_
    refine G.joinL (T := Bool) 5 (fun y8 => ⟨[(1, .one (.ptr 1001 0)), (3, .one (.ptr 1003 0)), (20, .one (bB y8))], [(1001, some (.blk 28 [.g (.d (.sl 2 (List.map encApi_Range c_0.Ranges))), .g (.d (.sl 1 (List.map encI_i64 c_0.Owners))), .g (.d (.sl 1 (List.map encI_i64 c_0.Parents)))])), (1003, some (.blk 3 [bI .i64 (c_0.Parents.length : Int)]))]⟩) (fun y8 => wire_written_k3 c_0 y8 = some r) (fun y8 hF => ?_) (fun J14 => ?_)
    · unfold wire_written_k3 at hF
      refine G.op1 (op_move (Ev.t 20 (bB y8)) rfl) rfl ⟨rfl, trivial⟩ trivial ?_
      refine G.joinL (T := Bool) 8 (fun y9 => ⟨[(1, .one (.ptr 1001 0)), (3, .one (.ptr 1003 0)), (29, .one (bB y9))], [(1001, some (.blk 28 [.g (.d (.sl 2 (List.map encApi_Range c_0.Ranges))), .g (.d (.sl 1 (List.map encI_i64 c_0.Owners))), .g (.d (.sl 1 (List.map encI_i64 c_0.Parents)))])), (1003, some (.blk 3 [bI .i64 (c_0.Parents.length : Int)]))]⟩) (fun y9 => wire_written_k4 c_0 y9 = some r) (fun y9 hF => ?_) (fun J12 => ?_)
      · unfold wire_written_k4 at hF
        refine G.op1 (op_move (Ev.t 29 (bB y9)) rfl) rfl ⟨rfl, trivial⟩ trivial ?_
        refine ifS hF (fun hc10 hF => ?_) (fun hc10 hF => ?_)
        · refine G.known (t := 30) hc10 rfl ?_
          refine G.opN1 rfl rfl rfl rfl rfl ?_
          refine G.opN1 rfl rfl rfl rfl rfl ?_
          refine G.opN1 rfl rfl rfl rfl rfl ?_
          refine G.opN1 rfl rfl rfl rfl rfl ?_
          refine G.op1 (op_pickT (Ev.t 30 (bB true)) (Ev.c _ rfl) rfl) rfl ⟨rfl, trivial⟩ trivial ?_
          refine G.endOps ?_
          exact G.arr (J6 true hF) ⟨rfl, rfl, rfl, trivial⟩ ⟨rfl, rfl, trivial⟩ rfl
        · refine G.known (t := 30) hc10 rfl ?_
          refine G.opG1 (op_fieldP (off' := 0) Tryd.underlying28 rfl ti25 (by decide) rfl (Ev.t 1 (.ptr 1001 0)) rfl) rfl rfl rfl ⟨rfl, trivial⟩ trivial ?_
          refine G.opG1 (op_load1P (c := .g (.d (.sl 2 (List.map encApi_Range c_0.Ranges)))) Tryd.underlying25 rfl rfl (Ev.t 31 (.ptr 1001 0)) rfl) rfl rfl rfl ⟨rfl, trivial⟩ ⟨rfl, trivial⟩ ?_
          obtain ⟨r11, hr11, hF⟩ := bindS hF
          refine G.opG1 (op_callQ (sv := .one (bB r11)) cf78 (ct_keys_Whole c_0.Ranges r11 hr11) rfl rfl (EvQL.cons (EvQ.g (Ev.t 32 (.g (.d (.sl 2 (List.map encApi_Range c_0.Ranges)))))) EvQL.nil) rfl) rfl rfl rfl ⟨rfl, trivial⟩ trivial ?_
          refine G.opG1 (op_not (Ev.t 33 (bB r11)) rfl) rfl rfl rfl ⟨rfl, trivial⟩ trivial ?_
          refine G.op1 (op_pickF (Ev.t 30 (bB false)) (Ev.t 34 (bB (!r11))) rfl) rfl ⟨rfl, rfl, trivial⟩ trivial ?_
          refine G.endOps ?_
          exact G.arr (J6 (!r11) hF) ⟨rfl, rfl, rfl, trivial⟩ ⟨rfl, rfl, trivial⟩ rfl
      refine ifS hF (fun hc13 hF => ?_) (fun hc13 hF => ?_)
      · refine G.known (t := 21) hc13 rfl ?_
        refine G.opN1 rfl rfl rfl rfl rfl ?_
        refine G.opN1 rfl rfl rfl rfl rfl ?_
        refine G.opN1 rfl rfl rfl rfl rfl ?_
        refine G.opN1 rfl rfl rfl rfl rfl ?_
        refine G.opN1 rfl rfl rfl rfl rfl ?_
        refine G.opN1 rfl rfl rfl rfl rfl ?_
        refine G.opN1 rfl rfl rfl rfl rfl ?_
        refine G.op1 (op_pickT (Ev.t 21 (bB true)) (Ev.c _ rfl) rfl) rfl ⟨rfl, trivial⟩ trivial ?_
        exact G.arr (J12 true hF) ⟨rfl, rfl, rfl, trivial⟩ ⟨rfl, rfl, trivial⟩ rfl
      · refine G.known (t := 21) hc13 rfl ?_
        refine G.opG1 (op_fieldP (off' := 1) Tryd.underlying28 rfl ti26 (by decide) rfl (Ev.t 1 (.ptr 1001 0)) rfl) rfl rfl rfl ⟨rfl, trivial⟩ trivial ?_
        refine G.opG1 (op_load1P (c := .g (.d (.sl 1 (List.map encI_i64 c_0.Owners)))) Tryd.underlying26 rfl rfl (Ev.t 22 (.ptr 1001 1)) rfl) rfl rfl rfl ⟨rfl, trivial⟩ ⟨rfl, trivial⟩ ?_
        refine G.opG1 (OpL.cast (op_lenD Tryd.underlying26 (Ev.t 23 (.g (.d (.sl 1 (List.map encI_i64 c_0.Owners))))) rfl) (by rw [List.length_map])) rfl rfl rfl ⟨rfl, trivial⟩ trivial ?_
        refine G.opG1 (op_fieldP (off' := 0) Tryd.underlying28 rfl ti25 (by decide) rfl (Ev.t 1 (.ptr 1001 0)) rfl) rfl rfl rfl ⟨rfl, trivial⟩ trivial ?_
        refine G.opG1 (op_load1P (c := .g (.d (.sl 2 (List.map encApi_Range c_0.Ranges)))) Tryd.underlying25 rfl rfl (Ev.t 25 (.ptr 1001 0)) rfl) rfl rfl rfl ⟨rfl, trivial⟩ ⟨rfl, trivial⟩ ?_
        refine G.opG1 (OpL.cast (op_lenD Tryd.underlying25 (Ev.t 26 (.g (.d (.sl 2 (List.map encApi_Range c_0.Ranges))))) rfl) (by rw [List.length_map])) rfl rfl rfl ⟨rfl, trivial⟩ trivial ?_
        refine G.opG1 (op_neI (Ev.t 24 (bI .i64 (c_0.Owners.length : Int))) (Ev.t 27 (bI .i64 (c_0.Ranges.length : Int))) rfl) rfl rfl rfl ⟨rfl, rfl, trivial⟩ trivial ?_
        refine G.op1 (op_pickF (Ev.t 21 (bB false)) (Ev.t 28 (bB (!decide ((c_0.Owners.length : Int) = (c_0.Ranges.length : Int))))) rfl) rfl ⟨rfl, rfl, trivial⟩ trivial ?_
        exact G.arr (J12 (!decide ((c_0.Owners.length : Int) = (c_0.Ranges.length : Int))) hF) ⟨rfl, rfl, rfl, trivial⟩ ⟨rfl, rfl, trivial⟩ rfl
    refine ifS hF (fun hc15 hF => ?_) (fun hc15 hF => ?_)
    · refine G.known (t := 15) hc15 rfl ?_
      refine G.opN1 rfl rfl rfl rfl rfl ?_
      refine G.opN1 rfl rfl rfl rfl rfl ?_
      refine G.opN1 rfl rfl rfl rfl rfl ?_
      refine G.opN1 rfl rfl rfl rfl rfl ?_
      refine G.op1 (op_pickT (Ev.t 15 (bB true)) (Ev.c _ rfl) rfl) rfl ⟨rfl, trivial⟩ trivial ?_
      exact G.arr (J14 true hF) ⟨rfl, rfl, rfl, trivial⟩ ⟨rfl, rfl, trivial⟩ rfl
    · refine G.known (t := 15) hc15 rfl ?_
      refine G.opG1 (op_fieldP (off' := 0) Tryd.underlying28 rfl ti25 (by decide) rfl (Ev.t 1 (.ptr 1001 0)) rfl) rfl rfl rfl ⟨rfl, trivial⟩ trivial ?_
      refine G.opG1 (op_load1P (c := .g (.d (.sl 2 (List.map encApi_Range c_0.Ranges)))) Tryd.underlying25 rfl rfl (Ev.t 16 (.ptr 1001 0)) rfl) rfl rfl rfl ⟨rfl, trivial⟩ ⟨rfl, trivial⟩ ?_
      refine G.opG1 (OpL.cast (op_lenD Tryd.underlying25 (Ev.t 17 (.g (.d (.sl 2 (List.map encApi_Range c_0.Ranges))))) rfl) (by rw [List.length_map])) rfl rfl rfl ⟨rfl, trivial⟩ trivial ?_
      refine G.opG1 (op_gtr (Ev.t 18 (bI .i64 (c_0.Ranges.length : Int))) (Ev.c _ rfl) rfl) rfl rfl rfl ⟨rfl, trivial⟩ trivial ?_
      refine G.op1 (op_pickF (Ev.t 15 (bB false)) (Ev.t 19 (bB (decide (8 < (c_0.Ranges.length : Int))))) rfl) rfl ⟨rfl, rfl, trivial⟩ trivial ?_
      exact G.arr (J14 (decide (8 < (c_0.Ranges.length : Int))) hF) ⟨rfl, rfl, rfl, trivial⟩ ⟨rfl, rfl, trivial⟩ rfl
  refine ifS hF (fun hc17 hF => ?_) (fun hc17 hF => ?_)
  · refine G.known (t := 11) hc17 rfl ?_
    refine G.opN1 rfl rfl rfl rfl rfl ?_
    refine G.opN1 rfl rfl rfl rfl rfl ?_
    refine G.op1 (op_pickT (Ev.t 11 (bB true)) (Ev.c _ rfl) rfl) rfl ⟨rfl, trivial⟩ trivial ?_
    exact G.arr (J16 true hF) ⟨rfl, rfl, rfl, trivial⟩ ⟨rfl, rfl, trivial⟩ rfl
  · refine G.known (t := 11) hc17 rfl ?_
    refine G.opG1 (op_load1P (c := bI .i64 (c_0.Parents.length : Int)) Tryd.underlying3 rfl rfl (Ev.t 3 (.ptr 1003 0)) rfl) rfl rfl rfl ⟨rfl, trivial⟩ ⟨rfl, trivial⟩ ?_
    refine G.opG1 (op_gtr (Ev.t 12 (bI .i64 (c_0.Parents.length : Int))) (Ev.c _ rfl) rfl) rfl rfl rfl ⟨rfl, trivial⟩ trivial ?_
    refine G.op1 (op_pickF (Ev.t 11 (bB false)) (Ev.t 13 (bB (decide (6 < (c_0.Parents.length : Int))))) rfl) rfl ⟨rfl, rfl, trivial⟩ trivial ?_
    exact G.arr (J16 (decide (6 < (c_0.Parents.length : Int))) hF) ⟨rfl, rfl, rfl, trivial⟩ ⟨rfl, rfl, trivial⟩ rfl


set_option maxHeartbeats 2000000 in
set_option maxRecDepth 100000 in
theorem bCC42 (b : Nat) (p v : Value) (w : World) (hp : p = .pointer none ∨ p = .pointer (some ⟨b, 0, none⟩)) (hbk : w.heap[b]? = some (.cells #[p, v] 54 (0, 0))) :
    Calls Tryd.prog 42 #[.pointer (some ⟨b, 0, none⟩)] w fun e w' => e = .returned (.tuple #[]) ∧ (w' = w ∨ w' = w.setCell ⟨b, 0, none⟩ (.pointer (some ⟨b, 0, none⟩))) ∧ w'.heap[b]? = some (.cells #[.pointer (some ⟨b, 0, none⟩), v] 54 (0, 0)) := by
  have hI : (Tryd.prog.info? 54).map (·.size) = some 2 := by kernel_rfl
  have hL : liesAt Tryd.prog Tryd.prog.depth 54 (2 / Tryd.prog.cellsOf 54) 0 54 1 = true := by kernel_rfl
  obtain ⟨j, hj, hjs⟩ := Option.map_eq_some_iff.1 hI
  have t54 := Tryd.underlying54; have a54 := Tryd.isAgg54; have z54 := Tryd.sizeOf54; have v54 := Tryd.zeroValue54; have u54 := run_underlying t54
  have t52 := Tryd.underlying52; have a52 := Tryd.isAgg52; have z52 := Tryd.sizeOf52; have v52 := Tryd.zeroValue52; have u52 := run_underlying t52
  have t46 := Tryd.underlying46; have a46 := Tryd.isAgg46; have z46 := Tryd.sizeOf46; have v46 := Tryd.zeroValue46; have u46 := run_underlying t46
  have t5 := Tryd.underlying5; have a5 := Tryd.isAgg5; have z5 := Tryd.sizeOf5; have v5 := Tryd.zeroValue5; have u5 := run_underlying t5
  have t9 := Tryd.underlying9; have a9 := Tryd.isAgg9; have z9 := Tryd.sizeOf9; have v9 := Tryd.zeroValue9; have u9 := run_underlying t9
  have t4 := Tryd.underlying4; have a4 := Tryd.isAgg4; have z4 := Tryd.sizeOf4; have v4 := Tryd.zeroValue4; have u4 := run_underlying t4
  have t2 := Tryd.underlying2; have a2 := Tryd.isAgg2; have z2 := Tryd.sizeOf2; have v2 := Tryd.zeroValue2; have u2 := run_underlying t2
  have t101 := Tryd.underlying101; have a101 := Tryd.isAgg101; have z101 := Tryd.sizeOf101; have v101 := Tryd.zeroValue101; have u101 := run_underlying t101
  have h0 : w.cell? ⟨b, 0, none⟩ = some p := by rw [Lib.cell_of_heap hbk]; rfl
  rcases hp with rfl | rfl
  · have hsh : w.shape? b = some (54, 2) := by simp [World.shape?, hbk]
    have hfz : w.frozen? ⟨b, 0, none⟩ = false := Lib.frozen_of_heap hbk 0
    go_enter Tryd.func42, Tryd.ntmps42
    go_wp2
    rw [Lib.run_to_unsafe w ⟨b, 0, none⟩ t52 t101 hj (by rw [hjs]; decide) hsh (Nat.zero_lt_succ 1)]
    simp only [Result.andThen]
    rw [Oper.upon_value]
    go_wp2
    rw [run_callFunc_extern Tryd.func63 (by kernel_rfl) (by kernel_rfl) (by kernel_rfl) (e := Extern.AbiNoEscape.same) (by kernel_rfl)]
    rw [Lib.run_noEscape]
    simp only [Result.andThen]
    rw [Oper.upon_value]
    go_wp2
    rw [Lib.run_from_unsafe w ⟨b, 0, none⟩ t101 t52 hj hsh hL]
    simp only [Result.andThen]
    rw [Oper.upon_value]
    go_wp2
    go_end0
    exact ⟨rfl, .inr rfl, by simp [World.setCell, Array.getElem?_modify, hbk]⟩
  · go_enter Tryd.func42, Tryd.ntmps42
    go_wp2
    rw [Lib.run_neq_ptr_same w _ t52 hj]
    go_wp2
    go_end0
    exact ⟨rfl, .inl rfl, hbk⟩

theorem bCC42_fresh (b : Nat) (v : Value) (w : World) (hbk : w.heap[b]? = some (.cells #[.pointer none, v] 54 (0, 0))) :
    Calls Tryd.prog 42 #[.pointer (some ⟨b, 0, none⟩)] w fun e w' => e = .returned (.tuple #[]) ∧ w' = w.setCell ⟨b, 0, none⟩ (.pointer (some ⟨b, 0, none⟩)) :=
  (bCC42 b _ v w (.inl rfl) hbk).mono fun e w' ⟨h1, h2, h3⟩ => ⟨h1, h2.resolve_left fun c => by subst c; rw [hbk] at h3; simp at h3⟩

/-- what copyCheck leaves -/
theorem bCC42_more {b : Nat} {p v : Value} {w w1 : World} {n : Nat} {xs : List Value} (hbk : w.heap[b]? = some (.cells #[p, v] 54 (0, 0))) (hown : w.ownsRow 0 5 1 v n xs) (hne : v.ownBlock ≠ some b) (h : w1 = w ∨ w1 = w.setCell ⟨b, 0, none⟩ (.pointer (some ⟨b, 0, none⟩))) :
    w1.ownsRow 0 5 1 v n xs ∧ KeepW (fun b' => b' = b ∨ v.ownBlock = some b') w w1 ∧ w.heap.size ≤ w1.heap.size ∧ b < w1.heap.size := by
  have hlt : b < w.heap.size := (Array.getElem?_eq_some_iff.1 hbk).1
  rcases h with rfl | rfl
  · exact ⟨hown, .refl _, Nat.le_refl _, hlt⟩
  · exact ⟨ownsRow_of_block hown fun g hg => Below.heap_setCell _ _ _ _ (fun e => hne (by rw [hg, e])), .setCell _ _ _ (.inl rfl), by simp [World.setCell], by simpa [World.setCell] using hlt⟩


set_option maxHeartbeats 2000000 in
set_option maxRecDepth 100000 in
theorem bWB92 (s : ByteArray) (c : Nat) (hc : c < 256) (hlen : s.size + 1 ≤ 140737488355328) (b : Nat) (p v : Value) (w : World) (hp : p = .pointer none ∨ p = .pointer (some ⟨b, 0, none⟩)) (hbk : w.heap[b]? = some (.cells #[p, v] 54 (0, 0))) (hown : w.ownsRow 0 5 1 v s.size (Lib.strCells s)) (hne : v.ownBlock ≠ some b) :
    Calls Tryd.prog 92 #[.pointer (some ⟨b, 0, none⟩), .int .u8 (c : Int)] w fun e w' => e = .returned .nilIface ∧ BPost 54 5 w b v.ownBlock (s ++ ByteArray.mk #[UInt8.ofNat c]) w' := by
  have hIB : (Tryd.prog.info? 5).map (fun i => (i.zero, i.size, i.bytes)) = some (some (.int .u8 0), 1, 1) := by kernel_rfl
  obtain ⟨i0, hi, hz0, hz1, hz2⟩ := info_parts hIB
  have t54 := Tryd.underlying54; have a54 := Tryd.isAgg54; have z54 := Tryd.sizeOf54; have v54 := Tryd.zeroValue54; have u54 := run_underlying t54
  have t52 := Tryd.underlying52; have a52 := Tryd.isAgg52; have z52 := Tryd.sizeOf52; have v52 := Tryd.zeroValue52; have u52 := run_underlying t52
  have t46 := Tryd.underlying46; have a46 := Tryd.isAgg46; have z46 := Tryd.sizeOf46; have v46 := Tryd.zeroValue46; have u46 := run_underlying t46
  have t5 := Tryd.underlying5; have a5 := Tryd.isAgg5; have z5 := Tryd.sizeOf5; have v5 := Tryd.zeroValue5; have u5 := run_underlying t5
  have t9 := Tryd.underlying9; have a9 := Tryd.isAgg9; have z9 := Tryd.sizeOf9; have v9 := Tryd.zeroValue9; have u9 := run_underlying t9
  have t4 := Tryd.underlying4; have a4 := Tryd.isAgg4; have z4 := Tryd.sizeOf4; have v4 := Tryd.zeroValue4; have u4 := run_underlying t4
  have t2 := Tryd.underlying2; have a2 := Tryd.isAgg2; have z2 := Tryd.sizeOf2; have v2 := Tryd.zeroValue2; have u2 := run_underlying t2
  go_enter Tryd.func92, Tryd.ntmps92
  go_wp2_with (go_at_call 42; refine (bCC42 b p v _ hp hbk).mono ?_)
  rintro e w1 ⟨rfl, h1, hbk1⟩
  obtain ⟨hown1, hk1, hs1, hlt1⟩ := bCC42_more hbk hown hne h1
  have c0 : w1.cell? ⟨b, 0, none⟩ = some (.pointer (some ⟨b, 0, none⟩)) := by rw [Lib.cell_of_heap hbk1]; rfl
  have c1 : w1.cell? ⟨b, 1, none⟩ = some v := by rw [Lib.cell_of_heap hbk1]; rfl
  go_wp2_with (at_builtin; refine wpList_append_byte _ rfl _ _ 46 rfl 5 i0 t46 hi hz0 hz1 hz2 _ _ _ rfl (hown1.alloc _) ⟨w1.heap.size, 0, none⟩ 1 (.int .u8 (c : Int)) rfl (by simp) rfl hlen ?_)
  intro v' w2 hown' hgrow hblk
  have hbA : (w1.alloc (.cells #[.int .u8 (c : Int)] 5)).heap[b]? = some (.cells #[.pointer (some ⟨b, 0, none⟩), v] 54 (0, 0)) := by rw [Lib.alloc_old w1 _ b hlt1]; exact hbk1
  have hb2 : w2.heap[b]? = some (.cells #[.pointer (some ⟨b, 0, none⟩), v] 54 (0, 0)) := by
    rw [hgrow.block b (by simp; omega) (fun e => hne e.symm)]
    exact hbA
  have d0 : w2.cell? ⟨b, 0, none⟩ = some (.pointer (some ⟨b, 0, none⟩)) := by rw [Lib.cell_of_heap hb2]; rfl
  have d1 : w2.cell? ⟨b, 1, none⟩ = some v := by rw [Lib.cell_of_heap hb2]; rfl
  have f1 : w2.frozen? ⟨b, 1, none⟩ = false := Lib.frozen_of_heap hb2 1
  obtain ⟨ao, n', cap, rfl⟩ : ∃ ao n' cap, v' = .slice ao n' cap := by
    rcases hown'.2 with ⟨hv, _⟩ | ⟨g, cap, cur, hv, _⟩
    · exact ⟨_, _, _, hv⟩
    · exact ⟨_, _, _, hv⟩
  go_wp2
  go_ret
  exact ⟨rfl, bpost_of hbA hne (hk1.trans (.below (below_alloc _ _))) (by simp; omega) (by simp; omega) hown' (by rw [ByteArray.size_append]; rfl) (by rw [strCells_one c hc, strCells_app]) hgrow (by simpa using hblk) (by decide)⟩

theorem ct_bld_WriteByte (s : ByteArray) (c : Int) (r : ByteArray) (hF : bld_WriteByte s c = some r) : CtM Tryd.prog 92 [.pt (.bld 54 5 s), .g (.d (.v (.int .u8 c)))] (.bld 54 5 r) (.one (.d (.v .nilIface))) := by
  unfold bld_WriteByte at hF
  split at hF
  · rename_i hl
    cases hF
    obtain ⟨n, rfl⟩ : ∃ n : Nat, c = n := ⟨c.toNat, by omega⟩
    exact CtM.write (arg := .int .u8 (n : Int)) (v := .nilIface) (fun M w' => RD.v _ rfl) (fun _ _ _ h => RD.v_inv h) (fun b p vb w h1 h2 h3 h4 => bWB92 s n (by omega) hl.2.2 b p vb w h1 h2 h3 h4)
  · cases hF


set_option maxRecDepth 20000 in
set_option maxHeartbeats 2000000 in
theorem ct_vary_put (b_0 : ByteArray) (n_1 : Int) (r : ByteArray) (hF : vary_put b_0 n_1 = some r) : CtM Tryd.prog 82 [.pt (.bld 54 5 b_0), .g (.d (.v (.int .u64 n_1)))] (.bld 54 5 r) (.tup []) := by
  unfold vary_put at hF
  refine CtM.intro (h := .bld 54 5 b_0) 0 Tryd.func82 rfl Tryd.ntmps82 rfl rfl rfl rfl (fun M w b go => ?_)
  refine G.seq ?_
  refine G.joinC (T := Int × ByteArray) (fun y1 => ⟨[(0, .one (.ptr 0 0)), (1, .one (bI .u64 y1.1))], [(0, some (.bld 54 5 50 y1.2)), (50, some (.hid true 0))]⟩) (fun y1 => vary_put_k1 y1 = some r) (fun y1 hF => ?_) (fun J3 => ?_)
  · unfold vary_put_k1 at hF
    refine G.region ?_
    refine G.op1 (op_move (Ev.t 0 (.ptr 0 0)) rfl) rfl ⟨rfl, trivial⟩ trivial ?_
    refine G.op1 (op_move (Ev.t 1 (bI .u64 y1.1)) rfl) rfl ⟨rfl, trivial⟩ trivial ?_
    refine G.op1 (op_convI Tryd.underlying97 Tryd.underlying5 (Ev.t 14 (bI .u64 y1.1)) rfl) rfl ⟨rfl, trivial⟩ trivial ?_
    obtain ⟨r2, hr2, hF⟩ := bindS hF
    refine G.opM (op_callM (k := 0) (h := .bld 54 5 y1.2) (h' := .bld 54 5 r2) 50 (sv := .one (.g (.d (.v .nilIface)))) cf92 (ct_bld_WriteByte y1.2 (IntKind.wrap .u8 y1.1) r2 hr2) rfl rfl (EvM.pt (Ev.t 13 (.ptr 0 0)) (EvM.g (Ev.t 15 (bI .u8 (IntKind.wrap .u8 y1.1))) EvM.nil)) rfl) rfl ⟨rfl, rfl, trivial⟩ ⟨rfl, rfl, trivial⟩ ?_
    refine G.endOps ?_
    have hF := Option.some.inj hF; subst hF
    exact G.fallM (retOK0 Tryd.results82) trivial trivial ⟨rfl, rfl, trivial⟩
  refine G.block ?_
  refine G.keep (sl' := [(0, .one (.ptr 0 0)), (1, .one (bI .u64 n_1))]) (hp' := [(0, some (.bld 54 5 50 b_0)), (50, some (.hid true 0))]) ⟨rfl, rfl, trivial⟩ ⟨rfl, rfl, trivial⟩ rfl ?_
  refine G.loopF (fun (v4 : Int × ByteArray) => ⟨[(0, .one (.ptr 0 0)), (1, .one (bI .u64 v4.1))], [(0, some (.bld 54 5 50 v4.2)), (50, some (.hid true 0))]⟩) hF rfl (fun K7 again6 v4 J5 hF => ?_)
  unfold vary_put_l2 at hF
  refine G.seq ?_
  refine G.seq ?_
  refine G.region ?_
  refine G.op1 (op_move (Ev.t 1 (bI .u64 v4.1)) rfl) rfl ⟨rfl, trivial⟩ trivial ?_
  refine G.op1 (op_geq (Ev.t 4 (bI .u64 v4.1)) (Ev.c _ rfl) rfl) rfl ⟨rfl, trivial⟩ trivial ?_
  refine G.endOps ?_
  refine ifS hF (fun hc8 hF => ?_) (fun hc8 hF => ?_)
  · refine G.cond rfl (fun _ => ?_) (fun hx => Bool.noConfusion (hc8.symm.trans hx))
    refine G.skip ?_
    refine G.block ?_
    refine G.seq ?_
    refine G.region ?_
    refine G.op1 (op_move (Ev.t 0 (.ptr 0 0)) rfl) rfl ⟨rfl, trivial⟩ trivial ?_
    refine G.op1 (op_move (Ev.t 1 (bI .u64 v4.1)) rfl) rfl ⟨rfl, trivial⟩ trivial ?_
    refine G.op1 (op_convI Tryd.underlying97 Tryd.underlying5 (Ev.t 7 (bI .u64 v4.1)) rfl) rfl ⟨rfl, trivial⟩ trivial ?_
    refine G.op1 (op_or (Ev.t 8 (bI .u8 (IntKind.wrap .u8 v4.1))) (Ev.c _ rfl) rfl) rfl ⟨rfl, trivial⟩ trivial ?_
    obtain ⟨r9, hr9, hF⟩ := bindS hF
    refine G.opM (op_callM (k := 0) (h := .bld 54 5 v4.2) (h' := .bld 54 5 r9) 50 (sv := .one (.g (.d (.v .nilIface)))) cf92 (ct_bld_WriteByte v4.2 (IntKind.wrap .u8 (BitVec.ofInt (IntKind.bits .u8) (IntKind.wrap .u8 v4.1) ||| BitVec.ofInt (IntKind.bits .u8) 128).toNat) r9 hr9) rfl rfl (EvM.pt (Ev.t 6 (.ptr 0 0)) (EvM.g (Ev.t 9 (bI .u8 (IntKind.wrap .u8 (BitVec.ofInt (IntKind.bits .u8) (IntKind.wrap .u8 v4.1) ||| BitVec.ofInt (IntKind.bits .u8) 128).toNat))) EvM.nil)) rfl) rfl ⟨rfl, rfl, trivial⟩ ⟨rfl, rfl, trivial⟩ ?_
    refine G.endOps ?_
    refine G.region ?_
    refine G.op1 (op_move (Ev.t 1 (bI .u64 v4.1)) rfl) rfl ⟨rfl, trivial⟩ trivial ?_
    refine G.op1 (op_shr (by decide) (Ev.t 11 (bI .u64 v4.1)) (Ev.c _ rfl) rfl) rfl ⟨rfl, trivial⟩ trivial ?_
    refine G.op1 (op_assign (Ev.t 12 (bI .u64 (Int.fdiv v4.1 (2 ^ min (Int.toNat 7) (IntKind.bits .u64))))) rfl) rfl ⟨rfl, trivial⟩ trivial ?_
    refine G.endOps ?_
    refine G.endBlock ?_
    exact G.arr (J5 (Int.fdiv v4.1 (2 ^ min (Int.toNat 7) (IntKind.bits .u64)), r9) hF) ⟨rfl, rfl, trivial⟩ ⟨rfl, rfl, trivial⟩ rfl
  · refine G.cond rfl (fun hx => Bool.noConfusion (hc8.symm.trans hx)) (fun _ => ?_)
    refine G.exit ?_
    refine GX.c ?_
    refine GX.q ?_
    refine GX.bYes ?_
    exact G.arr (J3 (v4.1, v4.2) hF) ⟨rfl, rfl, trivial⟩ ⟨rfl, rfl, trivial⟩ rfl


set_option maxRecDepth 20000 in
set_option maxHeartbeats 2000000 in
theorem ct_vary_Join_1 (n_0 : Int) (c0 : ByteArray) (r : ByteArray) (hF : vary_Join_1 n_0 c0 = some r) : CtM Tryd.prog 81 [.g (.d (.v (.int .u64 n_0))), .pt (.bld 54 5 c0)] (.bld 54 5 r) (.tup []) := by
  unfold vary_Join_1 at hF
  refine CtM.intro (h := .bld 54 5 c0) 1 Tryd.func81 rfl Tryd.ntmps81 rfl rfl rfl rfl (fun M w b go => ?_)
  refine G.region ?_
  refine G.op1 (op_move (Ev.t 0 (bI .u64 n_0)) rfl) rfl ⟨rfl, trivial⟩ trivial ?_
  obtain ⟨r1, hr1, hF⟩ := bindS hF
  refine G.opM (op_callM (k := 0) (h := .bld 54 5 c0) (h' := .bld 54 5 r1) 50 (sv := .tup []) cf82 (ct_vary_put c0 n_0 r1 hr1) rfl rfl (EvM.pt (Ev.t 1 (.ptr 0 0)) (EvM.g (Ev.t 3 (bI .u64 n_0)) EvM.nil)) rfl) rfl ⟨rfl, rfl, trivial⟩ ⟨rfl, rfl, trivial⟩ ?_
  refine G.endOps ?_
  have hF := Option.some.inj hF; subst hF
  exact G.fallM (retOK0 Tryd.results81) trivial trivial ⟨rfl, rfl, trivial⟩


set_option maxHeartbeats 2000000 in
set_option maxRecDepth 100000 in
theorem bST20 (s : ByteArray) (hs : s.size ≠ 0) (b : Nat) (p v : Value) (w : World) (hbk : w.heap[b]? = some (.cells #[p, v] 54 (0, 0))) (hown : w.ownsRow 0 5 1 v s.size (Lib.strCells s)) :
    Calls Tryd.prog 20 #[.pointer (some ⟨b, 0, none⟩)] w fun e w' => e = .returned (.string s) ∧ KeepW (fun b' => v.ownBlock = some b') w w' := by
  have hCB : Tryd.prog.cellsOf 5 = 1 := by kernel_rfl
  have mixed : Tryd.prog.follows .mixedOrders = true := by kernel_rfl
  have hl0 : s.data.toList ≠ [] := fun h => hs (by have := congrArg List.length h; simpa using this)
  have hll : s.data.toList.length = s.size := by simp
  have hsb : Lib.strCells s = Lib.byteCells s.data.toList := rfl
  have hse : (⟨s.data.toList.toArray⟩ : ByteArray) = s := by cases s; simp
  rw [hsb, ← hll] at hown
  generalize s.data.toList = l at hown hl0 hll hse
  clear hll hsb
  have hown0 := hown
  obtain ⟨g, cap, cur, rfl, hg, hnc, hcm, hcs, htake⟩ : ∃ g cap cur, v = .slice (some ⟨g, 0, none⟩) l.length cap ∧ w.heap[g]? = some (.cells cur 5 (0, 0)) ∧ l.length ≤ cap ∧ cap ≤ maxLen ∧ cur.size = cap * 1 ∧ cur.toList.take (l.length * 1) = Lib.byteCells l := by
    rcases hown.2 with ⟨_, hz⟩ | ⟨g, cap, cur, hv, _, r⟩
    · exact absurd (List.eq_nil_of_length_eq_zero hz) hl0
    · exact ⟨g, cap, cur, hv, r⟩
  have c1 : w.drew.cell? ⟨b, 1, none⟩ = some (.slice (some ⟨g, 0, none⟩) l.length cap) := by
    have : w.drew.heap[b]? = some (.cells #[p, .slice (some ⟨g, 0, none⟩) l.length cap] 54 (0, 0)) := hbk
    rw [Lib.cell_of_heap this]; rfl
  have t54 := Tryd.underlying54; have a54 := Tryd.isAgg54; have z54 := Tryd.sizeOf54; have v54 := Tryd.zeroValue54; have u54 := run_underlying t54
  have t52 := Tryd.underlying52; have a52 := Tryd.isAgg52; have z52 := Tryd.sizeOf52; have v52 := Tryd.zeroValue52; have u52 := run_underlying t52
  have t46 := Tryd.underlying46; have a46 := Tryd.isAgg46; have z46 := Tryd.sizeOf46; have v46 := Tryd.zeroValue46; have u46 := run_underlying t46
  have t5 := Tryd.underlying5; have a5 := Tryd.isAgg5; have z5 := Tryd.sizeOf5; have v5 := Tryd.zeroValue5; have u5 := run_underlying t5
  have t9 := Tryd.underlying9; have a9 := Tryd.isAgg9; have z9 := Tryd.sizeOf9; have v9 := Tryd.zeroValue9; have u9 := run_underlying t9
  have t4 := Tryd.underlying4; have a4 := Tryd.isAgg4; have z4 := Tryd.sizeOf4; have v4 := Tryd.zeroValue4; have u4 := run_underlying t4
  have t3 := Tryd.underlying3; have a3 := Tryd.isAgg3; have z3 := Tryd.sizeOf3; have v3 := Tryd.zeroValue3; have u3 := run_underlying t3
  have t78 := Tryd.underlying78; have a78 := Tryd.isAgg78; have z78 := Tryd.sizeOf78; have v78 := Tryd.zeroValue78; have u78 := run_underlying t78
  have hl1 : l.length ≠ 0 := fun h => hl0 (List.eq_nil_of_length_eq_zero h)
  have hSD : (Builtin.unsafeSliceData_ #[46] 78 #[.slice (some ⟨g, 0, none⟩) l.length cap]).run Tryd.prog w.drew = .ok (.pointer (some ⟨g, 0, none⟩)) w.drew :=
    Lib.run_unsafeSliceData_row _ _ _ _ _ _ (by omega)
  have hUS : (Builtin.unsafeString_ #[78, 3] 9 #[.pointer (some ⟨g, 0, none⟩), .int .i64 l.length]).run Tryd.prog w.drew = .ok (.string s) (w.drew.freeze ⟨g, 0, none⟩ l.length) := by
    rw [← hse]
    refine Lib.run_unsafeString_row w.drew 78 3 9 5 t78 hCB g cur.size (by have hg' : w.drew.heap[g]? = some (.cells cur 5 (0, 0)) := hg; simp [World.shape?, hg']) l hl0 (by omega) (by unfold maxLen at hcm; omega) ?_
    intro j x hx
    have := hown0.cells (g := g) rfl j (.int .u8 x.toNat) (by simp [Lib.byteCells, hx])
    exact this
  go_enter Tryd.func20, Tryd.ntmps20
  go_wp2
  go_region_o
  all_goals (go_wp2; go_ret; exact ⟨rfl, keepW_freeze w g _⟩)

set_option maxHeartbeats 2000000 in
set_option maxRecDepth 100000 in
theorem bSE20 (b : Nat) (p v : Value) (w : World) (hbk : w.heap[b]? = some (.cells #[p, v] 54 (0, 0))) (hown : w.ownsRow 0 5 1 v 0 []) :
    Calls Tryd.prog 20 #[.pointer (some ⟨b, 0, none⟩)] w fun e w' => e = .returned (.string ByteArray.empty) ∧ KeepW (fun b' => v.ownBlock = some b') w w' := by
  have mixed : Tryd.prog.follows .mixedOrders = true := by kernel_rfl
  have t54 := Tryd.underlying54; have a54 := Tryd.isAgg54; have z54 := Tryd.sizeOf54; have v54 := Tryd.zeroValue54; have u54 := run_underlying t54
  have t52 := Tryd.underlying52; have a52 := Tryd.isAgg52; have z52 := Tryd.sizeOf52; have v52 := Tryd.zeroValue52; have u52 := run_underlying t52
  have t46 := Tryd.underlying46; have a46 := Tryd.isAgg46; have z46 := Tryd.sizeOf46; have v46 := Tryd.zeroValue46; have u46 := run_underlying t46
  have t5 := Tryd.underlying5; have a5 := Tryd.isAgg5; have z5 := Tryd.sizeOf5; have v5 := Tryd.zeroValue5; have u5 := run_underlying t5
  have t9 := Tryd.underlying9; have a9 := Tryd.isAgg9; have z9 := Tryd.sizeOf9; have v9 := Tryd.zeroValue9; have u9 := run_underlying t9
  have t4 := Tryd.underlying4; have a4 := Tryd.isAgg4; have z4 := Tryd.sizeOf4; have v4 := Tryd.zeroValue4; have u4 := run_underlying t4
  have t3 := Tryd.underlying3; have a3 := Tryd.isAgg3; have z3 := Tryd.sizeOf3; have v3 := Tryd.zeroValue3; have u3 := run_underlying t3
  have t78 := Tryd.underlying78; have a78 := Tryd.isAgg78; have z78 := Tryd.sizeOf78; have v78 := Tryd.zeroValue78; have u78 := run_underlying t78
  have hUS : ∀ (q : Option Addr) (W : World), (Builtin.unsafeString_ #[78, 3] 9 #[.pointer q, .int .i64 0]).run Tryd.prog W = .ok (.string ByteArray.empty) W := fun q W => Lib.run_unsafeString_none (w := W) 78 3 9 q
  have hbk1 : w.drew.heap[b]? = some (.cells #[p, v] 54 (0, 0)) := hbk
  have hlt : b < w.drew.heap.size := (Array.getElem?_eq_some_iff.1 hbk1).1
  have c1 : w.drew.cell? ⟨b, 1, none⟩ = some v := by rw [Lib.cell_of_heap hbk1]; rfl
  rcases hown.2 with ⟨rfl, _⟩ | ⟨g, cap, cur, rfl, _, hg, _, _, _, _⟩
  · have hSD : (Builtin.unsafeSliceData_ #[46] 78 #[.slice none 0 0]).run Tryd.prog w.drew = .ok (.pointer none) w.drew := Lib.run_unsafeSliceData_nil _ _ _ _ _
    go_enter Tryd.func20, Tryd.ntmps20
    go_wp2
    go_region_o
    all_goals (go_wp2; go_ret; exact ⟨rfl, .below (.drew (.refl _ _))⟩)
  · by_cases hc : cap = 0
    · subst hc
      have hg1 : w.drew.heap[g]? = some (.cells cur 5 (0, 0)) := hg
      have hSD : (Builtin.unsafeSliceData_ #[46] 78 #[.slice (some ⟨g, 0, none⟩) 0 0]).run Tryd.prog w.drew = .ok (.pointer (some ⟨w.drew.heap.size, 0, none⟩)) (w.drew.alloc (.view ⟨g, 0, none⟩ 5)) :=
        Lib.run_unsafeSliceData_zero _ _ _ 5 t78 _ _ (5, cur.size) (by simp [World.shape?, hg1])
      have c2 : (w.alloc (.view ⟨g, 0, none⟩ 5)).cell? ⟨b, 1, none⟩ = some (.slice (some ⟨g, 0, none⟩) 0 0) := by rw [Lib.cell_of_heap ((Lib.alloc_old w _ b hlt).trans hbk)]; rfl
      go_enter Tryd.func20, Tryd.ntmps20
      go_wp2
      go_region_o
      all_goals (go_wp2; go_ret; exact ⟨rfl, .below ((Below.drew (.refl _ _)).alloc (Nat.le_refl _) _)⟩)
    · have hSD : (Builtin.unsafeSliceData_ #[46] 78 #[.slice (some ⟨g, 0, none⟩) 0 cap]).run Tryd.prog w.drew = .ok (.pointer (some ⟨g, 0, none⟩)) w.drew := Lib.run_unsafeSliceData_row _ _ _ _ _ _ hc
      go_enter Tryd.func20, Tryd.ntmps20
      go_wp2
      go_region_o
      all_goals (go_wp2; go_ret; exact ⟨rfl, .below (.drew (.refl _ _))⟩)

theorem ct_bld_String (s r : ByteArray) (hF : bld_String s = some r) : CtM Tryd.prog 20 [.pt (.bld 54 5 s)] .gone (.one (.d (.v (.string r)))) := by
  cases hF
  by_cases hl : s.size = 0
  · obtain rfl : s = ByteArray.empty := by
      cases s with | mk d => cases d with | mk l => cases l with | nil => rfl | cons x l => simp [ByteArray.size] at hl
    exact CtM.bytes fun b p vb w h1 h2 => bSE20 b p vb w h1 h2
  · exact CtM.bytes fun b p vb w h1 h2 => bST20 s hl b p vb w h1 h2


set_option maxRecDepth 20000 in
set_option maxHeartbeats 2000000 in
theorem ct_vary_Join (l_0 : (List Int)) (r : ByteArray) (hF : vary_Join l_0 = some r) : Ct Tryd.prog 61 [.g (.d (.sl 1 (List.map encI_u64 l_0)))] (.one (.d (.v (.string r)))) := by
  unfold vary_Join at hF
  refine Ct.intro Tryd.func61 rfl Tryd.ntmps61 rfl rfl fun M w => ?_
  refine G.seq ?_
  refine G.region ?_
  refine G.op1 (op_assign (Ev.c _ rfl) rfl) rfl trivial trivial ?_
  refine G.endOps ?_
  refine G.seq ?_
  refine G.region ?_
  refine G.opM (op_allocB (T := 54) (E := 5) (k := 1003) (kk := 3003) ti54 rfl rfl rfl) rfl trivial ⟨rfl, rfl, trivial⟩ ?_
  refine G.endOps ?_
  refine G.seq ?_
  refine G.region ?_
  refine G.op1 (op_makeFunc1 (Ev.t 3 (.ptr 1003 0)) rfl) rfl ⟨rfl, trivial⟩ trivial ?_
  refine G.op1 (op_assign (Ev.t 7 (.clo 81 [1003])) rfl) rfl ⟨rfl, trivial⟩ trivial ?_
  refine G.endOps ?_
  refine G.seq ?_
  refine G.seq ?_
  refine G.region ?_
  refine G.op1 (op_move (Ev.t 0 (.g (.d (.sl 1 (List.map encI_u64 l_0))))) rfl) rfl ⟨rfl, trivial⟩ trivial ?_
  refine G.op1 (OpL.cast (op_lenD Tryd.underlying98 (Ev.t 8 (.g (.d (.sl 1 (List.map encI_u64 l_0))))) rfl) (by rw [List.length_map])) rfl ⟨rfl, trivial⟩ trivial ?_
  refine G.op1 (op_move (Ev.c _ rfl) rfl) rfl trivial trivial ?_
  refine G.endOps ?_
  refine G.joinC (T := ByteArray) (fun y1 => ⟨[(3, .one (.ptr 1003 0))], [(1003, some (.bld 54 5 3003 y1)), (3003, some (.hid true 1003))]⟩) (fun y1 => vary_Join_k1 y1 = some r) (fun y1 hF => ?_) (fun J3 => ?_)
  · unfold vary_Join_k1 at hF
    refine G.seq ?_
    refine G.region ?_
    obtain ⟨r2, hr2, hF⟩ := bindS hF
    refine G.opM (op_callM (k := 1003) (h := .bld 54 5 y1) (h' := .gone) 3003 (sv := .one (bS r2)) cf20 (ct_bld_String y1 r2 hr2) rfl rfl (EvM.pt (Ev.t 3 (.ptr 1003 0)) EvM.nil) rfl) rfl ⟨rfl, trivial⟩ ⟨rfl, rfl, trivial⟩ ?_
    refine G.op1 (op_assign (Ev.t 18 (bS r2)) rfl) rfl ⟨rfl, trivial⟩ trivial ?_
    refine G.endOps ?_
    cases hF
    exact G.ret1 Tryd.results61 (RVar.tmp 2 _) ⟨rfl, trivial⟩ trivial
  refine G.block ?_
  refine G.keep (sl' := [(3, .one (.ptr 1003 0)), (4, .one (.clo 81 [1003])), (8, .one (.g (.d (.sl 1 (List.map encI_u64 l_0))))), (9, .one (bI .i64 (l_0.length : Int))), (10, .one (bI .i64 0))]) (hp' := [(1003, some (.bld 54 5 3003 ByteArray.empty)), (3003, some (.hid true 1003))]) ⟨rfl, rfl, rfl, rfl, rfl, trivial⟩ ⟨rfl, rfl, trivial⟩ rfl ?_
  refine G.loopF (fun (v4 : Int × ByteArray) => ⟨[(3, .one (.ptr 1003 0)), (4, .one (.clo 81 [1003])), (8, .one (.g (.d (.sl 1 (List.map encI_u64 l_0))))), (9, .one (bI .i64 (l_0.length : Int))), (10, .one (bI .i64 v4.1))], [(1003, some (.bld 54 5 3003 v4.2)), (3003, some (.hid true 1003))]⟩) hF rfl (fun K7 again6 v4 J5 hF => ?_)
  unfold vary_Join_l2 at hF
  refine G.seq ?_
  refine G.region ?_
  refine G.op1 (op_lss (Ev.t 10 (bI .i64 v4.1)) (Ev.t 9 (bI .i64 (l_0.length : Int))) rfl) rfl ⟨rfl, rfl, trivial⟩ trivial ?_
  refine G.endOps ?_
  refine G.seq ?_
  refine ifS hF (fun hc8 hF => ?_) (fun hc8 hF => ?_)
  · refine G.cond rfl (fun _ => ?_) (fun hx => Bool.noConfusion (hc8.symm.trans hx))
    refine G.skip ?_
    refine G.seq ?_
    refine G.block ?_
    refine G.seq ?_
    refine G.region ?_
    obtain ⟨x9, hx9, hF⟩ := bindS hF
    refine G.op1 (op_index (cs := [.v (.int .u64 x9)]) Tryd.underlying98 ti97 (idx_ok hx9).1 (idx_get hx9 encI_u64) (Ev.t 8 (.g (.d (.sl 1 (List.map encI_u64 l_0))))) (Ev.t 10 (bI .i64 v4.1)) rfl) rfl ⟨rfl, rfl, trivial⟩ trivial ?_
    refine G.op1 (op_load1E (c := .v (.int .u64 x9)) Tryd.underlying97 rfl rfl (Ev.t 12 (.ep [.v (.int .u64 x9)])) rfl) rfl ⟨rfl, trivial⟩ trivial ?_
    refine G.op1 (op_assign (Ev.t 13 (bI .u64 x9)) rfl) rfl ⟨rfl, trivial⟩ trivial ?_
    refine G.endOps ?_
    refine G.region ?_
    refine G.op1 (op_move (Ev.t 4 (.clo 81 [1003])) rfl) rfl ⟨rfl, trivial⟩ trivial ?_
    refine G.op1 (op_move (Ev.t 6 (bI .u64 x9)) rfl) rfl ⟨rfl, trivial⟩ trivial ?_
    obtain ⟨r10, hr10, hF⟩ := bindS hF
    refine G.opM (op_callCloM (k := 1003) (h := .bld 54 5 v4.2) (h' := .bld 54 5 r10) 3003 (sv := .tup []) cf81 (ct_vary_Join_1 x9 v4.2 r10 hr10) rfl rfl (EvM.g (Ev.t 15 (bI .u64 x9)) EvM.nil) rfl) rfl ⟨rfl, rfl, trivial⟩ ⟨rfl, rfl, trivial⟩ ?_
    refine G.endOps ?_
    refine G.endBlock ?_
    refine G.region ?_
    refine G.op1 (op_add (Ev.t 10 (bI .i64 v4.1)) (Ev.c _ rfl) rfl) rfl ⟨rfl, trivial⟩ trivial ?_
    refine G.op1 (op_move (Ev.t 17 (bI .i64 (IntKind.wrap .i64 (v4.1 + 1)))) rfl) rfl ⟨rfl, trivial⟩ trivial ?_
    refine G.endOps ?_
    exact G.arr (J5 (IntKind.wrap .i64 (v4.1 + 1), r10) hF) ⟨rfl, rfl, rfl, rfl, rfl, trivial⟩ ⟨rfl, rfl, trivial⟩ rfl
  · refine G.cond rfl (fun hx => Bool.noConfusion (hc8.symm.trans hx)) (fun _ => ?_)
    refine G.exit ?_
    refine GX.c ?_
    refine GX.q ?_
    refine GX.bYes ?_
    exact G.arr (J3 v4.2 hF) ⟨rfl, trivial⟩ ⟨rfl, rfl, trivial⟩ rfl


set_option maxRecDepth 20000 in
set_option maxHeartbeats 2000000 in
theorem ct_vary_Number (n_0 : Int) (r : ByteArray) (hF : vary_Number n_0 = some r) : Ct Tryd.prog 59 [.g (.d (.v (.int .u64 n_0)))] (.one (.d (.v (.string r)))) := by
  unfold vary_Number at hF
  refine Ct.intro Tryd.func59 rfl Tryd.ntmps59 rfl rfl fun M w => ?_
  refine G.seq ?_
  refine G.region ?_
  refine G.op1 (op_assign (Ev.c _ rfl) rfl) rfl trivial trivial ?_
  refine G.endOps ?_
  refine G.seq ?_
  refine G.region ?_
  refine G.op1 (op_move (Ev.t 0 (bI .u64 n_0)) rfl) rfl ⟨rfl, trivial⟩ trivial ?_
  refine G.op1 (op_buildSlice (es := List.map encI_u64 [n_0]) Tryd.underlying98 ti97 rfl rfl (EvP.cons (Ev.t 3 (bI .u64 n_0)) EvP.nil) rfl rfl (by simp [encI_u64]) rfl) rfl ⟨rfl, trivial⟩ trivial ?_
  obtain ⟨r1, hr1, hF⟩ := bindS hF
  refine G.op1 (op_callQ (sv := .one (bS r1)) cf61 (ct_vary_Join ([n_0]) r1 hr1) rfl rfl (EvQL.cons (EvQ.g (Ev.t 4 (.g (.d (.sl 1 (List.map encI_u64 ([n_0]))))))) EvQL.nil) rfl) rfl ⟨rfl, trivial⟩ trivial ?_
  refine G.op1 (op_assign (Ev.t 5 (bS r1)) rfl) rfl ⟨rfl, trivial⟩ trivial ?_
  refine G.endOps ?_
  cases hF
  exact G.ret1 Tryd.results59 (RVar.tmp 2 _) ⟨rfl, trivial⟩ trivial


set_option maxHeartbeats 2000000 in
set_option maxRecDepth 100000 in
theorem bWS19 (s t : ByteArray) (hlen : s.size + t.size ≤ 140737488355328) (b : Nat) (p v : Value) (w : World) (hp : p = .pointer none ∨ p = .pointer (some ⟨b, 0, none⟩)) (hbk : w.heap[b]? = some (.cells #[p, v] 54 (0, 0))) (hown : w.ownsRow 0 5 1 v s.size (Lib.strCells s)) (hne : v.ownBlock ≠ some b) :
    Calls Tryd.prog 19 #[.pointer (some ⟨b, 0, none⟩), .string t] w fun e w' => e = .returned (.tuple #[.int .i64 t.size, .nilIface]) ∧ BPost 54 5 w b v.ownBlock (s ++ t) w' := by
  have hIB : (Tryd.prog.info? 5).map (fun i => (i.zero, i.size, i.bytes)) = some (some (.int .u8 0), 1, 1) := by kernel_rfl
  obtain ⟨i0, hi, hz0, hz1, hz2⟩ := info_parts hIB
  have t54 := Tryd.underlying54; have a54 := Tryd.isAgg54; have z54 := Tryd.sizeOf54; have v54 := Tryd.zeroValue54; have u54 := run_underlying t54
  have t52 := Tryd.underlying52; have a52 := Tryd.isAgg52; have z52 := Tryd.sizeOf52; have v52 := Tryd.zeroValue52; have u52 := run_underlying t52
  have t46 := Tryd.underlying46; have a46 := Tryd.isAgg46; have z46 := Tryd.sizeOf46; have v46 := Tryd.zeroValue46; have u46 := run_underlying t46
  have t5 := Tryd.underlying5; have a5 := Tryd.isAgg5; have z5 := Tryd.sizeOf5; have v5 := Tryd.zeroValue5; have u5 := run_underlying t5
  have t9 := Tryd.underlying9; have a9 := Tryd.isAgg9; have z9 := Tryd.sizeOf9; have v9 := Tryd.zeroValue9; have u9 := run_underlying t9
  have t4 := Tryd.underlying4; have a4 := Tryd.isAgg4; have z4 := Tryd.sizeOf4; have v4 := Tryd.zeroValue4; have u4 := run_underlying t4
  have t3 := Tryd.underlying3; have a3 := Tryd.isAgg3; have z3 := Tryd.sizeOf3; have v3 := Tryd.zeroValue3; have u3 := run_underlying t3
  go_enter Tryd.func19, Tryd.ntmps19
  go_wp2_with (go_at_call 42; refine (bCC42 b p v _ hp hbk).mono ?_)
  rintro e w1 ⟨rfl, h1, hbk1⟩
  obtain ⟨hown1, hk1, hs1, hlt1⟩ := bCC42_more hbk hown hne h1
  have c0 : w1.cell? ⟨b, 0, none⟩ = some (.pointer (some ⟨b, 0, none⟩)) := by rw [Lib.cell_of_heap hbk1]; rfl
  have c1 : w1.cell? ⟨b, 1, none⟩ = some v := by rw [Lib.cell_of_heap hbk1]; rfl
  go_wp2_with (at_builtin; refine wpList_append_bytes _ rfl _ _ 46 9 rfl 5 i0 t46 t9 hi hz0 hz1 hz2 _ _ _ rfl hown1 t rfl hlen ?_)
  intro v' w2 hown' hgrow hblk
  have hb2 : w2.heap[b]? = some (.cells #[.pointer (some ⟨b, 0, none⟩), v] 54 (0, 0)) := by
    rw [hgrow.block b hlt1 (fun e => hne e.symm)]
    exact hbk1
  have d0 : w2.cell? ⟨b, 0, none⟩ = some (.pointer (some ⟨b, 0, none⟩)) := by rw [Lib.cell_of_heap hb2]; rfl
  have d1 : w2.cell? ⟨b, 1, none⟩ = some v := by rw [Lib.cell_of_heap hb2]; rfl
  have f1 : w2.frozen? ⟨b, 1, none⟩ = false := Lib.frozen_of_heap hb2 1
  obtain ⟨ao, n', cap, rfl⟩ : ∃ ao n' cap, v' = .slice ao n' cap := by
    rcases hown'.2 with ⟨hv, _⟩ | ⟨g, cap, cur, hv, _⟩
    · exact ⟨_, _, _, hv⟩
    · exact ⟨_, _, _, hv⟩
  go_wp2
  go_ret2
  exact ⟨rfl, bpost_of hbk1 hne hk1 hs1 hlt1 hown' (by rw [ByteArray.size_append]) (strCells_app s t) hgrow hblk (by decide)⟩

theorem ct_bld_WriteString (s t r : ByteArray) (hF : bld_WriteString s t = some r) : CtM Tryd.prog 19 [.pt (.bld 54 5 s), .g (.d (.v (.string t)))] (.bld 54 5 r) (.tup [.d (.v (.int .i64 (t.size : Int))), .d (.v .nilIface)]) := by
  unfold bld_WriteString at hF
  split at hF
  · rename_i hl
    cases hF
    refine CtM.write (arg := .string t) (v := .tuple #[.int .i64 t.size, .nilIface]) (fun M w' => ⟨_, rfl, rfl, fun i g hi => ?_⟩) (fun _ _ _ h => RD.v_inv h) (fun b p vb w h1 h2 h3 h4 => bWS19 s t hl b p vb w h1 h2 h3 h4)
    match i with
    | 0 => simp at hi; subst hi; exact ⟨_, rfl, RD.v _ rfl⟩
    | 1 => simp at hi; subst hi; exact ⟨_, rfl, RD.v _ rfl⟩
    | i + 2 => simp at hi
  · cases hF


set_option maxRecDepth 20000 in
set_option maxHeartbeats 2000000 in
theorem ct_vary_Text (s_0 : ByteArray) (r : ByteArray) (hF : vary_Text s_0 = some r) : Ct Tryd.prog 60 [.g (.d (.v (.string s_0)))] (.one (.d (.v (.string r)))) := by
  unfold vary_Text at hF
  refine Ct.intro Tryd.func60 rfl Tryd.ntmps60 rfl rfl fun M w => ?_
  refine G.seq ?_
  refine G.region ?_
  refine G.op1 (op_assign (Ev.c _ rfl) rfl) rfl trivial trivial ?_
  refine G.endOps ?_
  refine G.seq ?_
  refine G.region ?_
  refine G.op1 (op_move (Ev.t 0 (bS s_0)) rfl) rfl ⟨rfl, trivial⟩ trivial ?_
  refine G.op1 (op_lenS Tryd.underlying9 (Ev.t 3 (bS s_0)) rfl) rfl ⟨rfl, trivial⟩ trivial ?_
  refine G.op1 (op_convI Tryd.underlying3 Tryd.underlying97 (Ev.t 4 (bI .i64 (s_0.size : Int))) rfl) rfl ⟨rfl, trivial⟩ trivial ?_
  obtain ⟨r1, hr1, hF⟩ := bindS hF
  refine G.op1 (op_callQ (sv := .one (bS r1)) cf59 (ct_vary_Number (IntKind.wrap .u64 (s_0.size : Int)) r1 hr1) rfl rfl (EvQL.cons (EvQ.g (Ev.t 5 (bI .u64 (IntKind.wrap .u64 (s_0.size : Int))))) EvQL.nil) rfl) rfl ⟨rfl, trivial⟩ trivial ?_
  refine G.op1 (op_move (Ev.t 0 (bS s_0)) rfl) rfl ⟨rfl, trivial⟩ trivial ?_
  obtain ⟨s2, hs2, hF⟩ := bindS hF
  refine G.op1 (OpL.cast (op_cat (scat_ok hs2).1 (Ev.t 6 (bS r1)) (Ev.t 7 (bS s_0)) rfl) (by rw [(scat_ok hs2).2])) rfl ⟨rfl, rfl, trivial⟩ trivial ?_
  refine G.op1 (op_assign (Ev.t 8 (bS s2)) rfl) rfl ⟨rfl, trivial⟩ trivial ?_
  refine G.endOps ?_
  cases hF
  exact G.ret1 Tryd.results60 (RVar.tmp 2 _) ⟨rfl, trivial⟩ trivial


set_option maxRecDepth 20000 in
set_option maxHeartbeats 2000000 in
theorem ct_wire_RowBytes (c_0 : Api_Row) (r : ByteArray) (hF : wire_RowBytes c_0 = some r) : Ct Tryd.prog 35 [.g (.agg (encApi_Row c_0))] (.one (.d (.v (.string r)))) := by
  unfold wire_RowBytes at hF
  refine Ct.intro Tryd.func35 rfl Tryd.ntmps35 rfl rfl fun M w => ?_
  refine G.seq ?_
  refine G.region ?_
  refine G.op2 (op_boxA (k := 1001) (Ev.t 0 (.g (.agg [.sl 2 (List.map encApi_Range c_0.Ranges), .sl 1 (List.map encI_i64 c_0.Owners), .sl 1 (List.map encI_i64 c_0.Parents)]))) rfl) rfl ⟨rfl, trivial⟩ ⟨rfl, trivial⟩ ?_
  refine G.op1 (op_assign (Ev.c _ rfl) rfl) rfl trivial trivial ?_
  refine G.endOps ?_
  refine G.seq ?_
  refine G.seq ?_
  refine G.region ?_
  refine G.op1 (op_loadAP (ds := [.sl 2 (List.map encApi_Range c_0.Ranges), .sl 1 (List.map encI_i64 c_0.Owners), .sl 1 (List.map encI_i64 c_0.Parents)]) Tryd.underlying28 rfl ti28 rfl (Ev.t 1 (.ptr 1001 0)) rfl) rfl ⟨rfl, trivial⟩ ⟨rfl, trivial⟩ ?_
  obtain ⟨r1, hr1, hF⟩ := bindS hF
  refine G.op1 (op_callQ (sv := .one (bB r1)) cf58 (ct_wire_written c_0 r1 hr1) rfl rfl (EvQL.cons (EvQ.g (Ev.t 12 (.g (.agg [.sl 2 (List.map encApi_Range c_0.Ranges), .sl 1 (List.map encI_i64 c_0.Owners), .sl 1 (List.map encI_i64 c_0.Parents)])))) EvQL.nil) rfl) rfl ⟨rfl, trivial⟩ trivial ?_
  refine G.op1 (op_not (Ev.t 13 (bB r1)) rfl) rfl ⟨rfl, trivial⟩ trivial ?_
  refine G.endOps ?_
  refine ifS hF (fun hc2 hF => ?_) (fun hc2 hF => ?_)
  · refine G.cond rfl (fun _ => ?_) (fun hx => Bool.noConfusion (hc2.symm.trans hx))
    refine G.seq ?_
    refine G.region ?_
    refine G.op1 (op_assign (Ev.c _ rfl) rfl) rfl trivial trivial ?_
    refine G.endOps ?_
    cases hF
    exact G.ret1 Tryd.results35 (RVar.tmp 2 _) ⟨rfl, trivial⟩ trivial
  · refine G.cond rfl (fun hx => Bool.noConfusion (hc2.symm.trans hx)) (fun _ => ?_)
    refine G.skip ?_
    refine G.seq ?_
    refine G.region ?_
    refine G.op1 (op_fieldP (off' := 0) Tryd.underlying28 rfl ti25 (by decide) rfl (Ev.t 1 (.ptr 1001 0)) rfl) rfl ⟨rfl, trivial⟩ trivial ?_
    refine G.op1 (op_load1P (c := .g (.d (.sl 2 (List.map encApi_Range c_0.Ranges)))) Tryd.underlying25 rfl rfl (Ev.t 15 (.ptr 1001 0)) rfl) rfl ⟨rfl, trivial⟩ ⟨rfl, trivial⟩ ?_
    refine G.op1 (OpL.cast (op_lenD Tryd.underlying25 (Ev.t 16 (.g (.d (.sl 2 (List.map encApi_Range c_0.Ranges))))) rfl) (by rw [List.length_map])) rfl ⟨rfl, trivial⟩ trivial ?_
    refine G.op1 (op_assign (Ev.t 17 (bI .i64 (c_0.Ranges.length : Int))) rfl) rfl ⟨rfl, trivial⟩ trivial ?_
    refine G.endOps ?_
    refine G.seq ?_
    refine G.region ?_
    refine G.opM (op_allocB (T := 54) (E := 5) (k := 1004) (kk := 3004) ti54 rfl rfl rfl) rfl trivial ⟨rfl, rfl, trivial⟩ ?_
    refine G.endOps ?_
    refine G.seq ?_
    refine G.region ?_
    refine G.op1 (op_move (Ev.t 3 (bI .i64 (c_0.Ranges.length : Int))) rfl) rfl ⟨rfl, trivial⟩ trivial ?_
    refine G.op1 (op_convI Tryd.underlying3 Tryd.underlying97 (Ev.t 18 (bI .i64 (c_0.Ranges.length : Int))) rfl) rfl ⟨rfl, trivial⟩ trivial ?_
    obtain ⟨r3, hr3, hF⟩ := bindS hF
    refine G.op1 (op_callQ (sv := .one (bS r3)) cf59 (ct_vary_Number (IntKind.wrap .u64 (c_0.Ranges.length : Int)) r3 hr3) rfl rfl (EvQL.cons (EvQ.g (Ev.t 19 (bI .u64 (IntKind.wrap .u64 (c_0.Ranges.length : Int))))) EvQL.nil) rfl) rfl ⟨rfl, trivial⟩ trivial ?_
    obtain ⟨r4, hr4, hF⟩ := bindS hF
    refine G.opM (op_callM (k := 1004) (h := .bld 54 5 ByteArray.empty) (h' := .bld 54 5 r4) 3004 (sv := .tup [bI .i64 (r3.size : Int), .g (.d (.v .nilIface))]) cf19 (ct_bld_WriteString ByteArray.empty r3 r4 hr4) rfl rfl (EvM.pt (Ev.t 4 (.ptr 1004 0)) (EvM.g (Ev.t 20 (bS r3)) EvM.nil)) rfl) rfl ⟨rfl, rfl, trivial⟩ ⟨rfl, rfl, trivial⟩ ?_
    refine G.endOps ?_
    refine G.seq ?_
    refine G.seq ?_
    refine G.region ?_
    refine G.op1 (op_fieldP (off' := 0) Tryd.underlying28 rfl ti25 (by decide) rfl (Ev.t 1 (.ptr 1001 0)) rfl) rfl ⟨rfl, trivial⟩ trivial ?_
    refine G.op1 (op_load1P (c := .g (.d (.sl 2 (List.map encApi_Range c_0.Ranges)))) Tryd.underlying25 rfl rfl (Ev.t 22 (.ptr 1001 0)) rfl) rfl ⟨rfl, trivial⟩ ⟨rfl, trivial⟩ ?_
    refine G.op1 (op_move (Ev.t 3 (bI .i64 (c_0.Ranges.length : Int))) rfl) rfl ⟨rfl, trivial⟩ trivial ?_
    refine G.op1 (op_sub (Ev.t 24 (bI .i64 (c_0.Ranges.length : Int))) (Ev.c _ rfl) rfl) rfl ⟨rfl, trivial⟩ trivial ?_
    obtain ⟨l5, hl5, hF⟩ := bindS hF
    refine G.op1 (op_sliceD (lo := none) (hi := some (IntKind.wrap .i64 ((c_0.Ranges.length : Int) - 1))) Tryd.underlying25 ti48 (sub_ok hl5 encApi_Range).1 (sub_ok hl5 encApi_Range).2.1 (sub_ok hl5 encApi_Range).2.2.1 (sub_ok hl5 encApi_Range).2.2.2 (Ev.t 23 (.g (.d (.sl 2 (List.map encApi_Range c_0.Ranges))))) EvO.none (EvO.some (Ev.t 25 (bI .i64 (IntKind.wrap .i64 ((c_0.Ranges.length : Int) - 1))))) rfl) rfl ⟨rfl, rfl, trivial⟩ trivial ?_
    refine G.op1 (OpL.cast (op_lenD Tryd.underlying25 (Ev.t 26 (.g (.d (.sl 2 (List.map encApi_Range l5))))) rfl) (by rw [List.length_map])) rfl ⟨rfl, trivial⟩ trivial ?_
    refine G.op1 (op_move (Ev.c _ rfl) rfl) rfl trivial trivial ?_
    refine G.endOps ?_
    refine G.joinC (T := ByteArray) (fun y6 => ⟨[(1, .one (.ptr 1001 0)), (4, .one (.ptr 1004 0))], [(1001, some (.blk 28 [.g (.d (.sl 2 (List.map encApi_Range c_0.Ranges))), .g (.d (.sl 1 (List.map encI_i64 c_0.Owners))), .g (.d (.sl 1 (List.map encI_i64 c_0.Parents)))])), (1004, some (.bld 54 5 3004 y6)), (3004, some (.hid true 1004))]⟩) (fun y6 => wire_RowBytes_k1 c_0 y6 = some r) (fun y6 hF => ?_) (fun J29 => ?_)
    · unfold wire_RowBytes_k1 at hF
      refine G.seq ?_
      refine G.region ?_
      refine G.op2 (op_assignRow (E := 97) (size := 1) (k := 2007) (ex := false) rfl rfl) rfl trivial ⟨rfl, trivial⟩ ?_
      refine G.endOps ?_
      refine G.seq ?_
      refine G.seq ?_
      refine G.region ?_
      refine G.op1 (op_fieldP (off' := 1) Tryd.underlying28 rfl ti26 (by decide) rfl (Ev.t 1 (.ptr 1001 0)) rfl) rfl ⟨rfl, trivial⟩ trivial ?_
      refine G.op1 (op_load1P (c := .g (.d (.sl 1 (List.map encI_i64 c_0.Owners)))) Tryd.underlying26 rfl rfl (Ev.t 37 (.ptr 1001 1)) rfl) rfl ⟨rfl, trivial⟩ ⟨rfl, trivial⟩ ?_
      refine G.op1 (OpL.cast (op_lenD Tryd.underlying26 (Ev.t 38 (.g (.d (.sl 1 (List.map encI_i64 c_0.Owners))))) rfl) (by rw [List.length_map])) rfl ⟨rfl, trivial⟩ trivial ?_
      refine G.op1 (op_move (Ev.c _ rfl) rfl) rfl trivial trivial ?_
      refine G.endOps ?_
      refine G.joinC (T := (List Int)) (fun y7 => ⟨[(1, .one (.ptr 1001 0)), (4, .one (.ptr 1004 0)), (7, .one (.own 2007 (List.map encI_u64 y7)))], [(1001, some (.blk 28 [.g (.d (.sl 2 (List.map encApi_Range c_0.Ranges))), .g (.d (.sl 1 (List.map encI_i64 c_0.Owners))), .g (.d (.sl 1 (List.map encI_i64 c_0.Parents)))])), (1004, some (.bld 54 5 3004 y6)), (2007, some (.row 97 1 (List.map encI_u64 y7) false)), (3004, some (.hid true 1004))]⟩) (fun y7 => wire_RowBytes_k2 c_0 y6 y7 = some r) (fun y7 hF => ?_) (fun J21 => ?_)
      · unfold wire_RowBytes_k2 at hF
        refine G.seq ?_
        refine G.region ?_
        refine G.op1 (op_move (Ev.t 7 (.own 2007 (List.map encI_u64 y7))) rfl) rfl ⟨rfl, trivial⟩ trivial ?_
        refine G.op1 (op_fieldP (off' := 2) Tryd.underlying28 rfl ti26 (by decide) rfl (Ev.t 1 (.ptr 1001 0)) rfl) rfl ⟨rfl, trivial⟩ trivial ?_
        refine G.op1 (op_load1P (c := .g (.d (.sl 1 (List.map encI_i64 c_0.Parents)))) Tryd.underlying26 rfl rfl (Ev.t 51 (.ptr 1001 2)) rfl) rfl ⟨rfl, trivial⟩ ⟨rfl, trivial⟩ ?_
        refine G.op1 (OpL.cast (op_lenD Tryd.underlying26 (Ev.t 52 (.g (.d (.sl 1 (List.map encI_i64 c_0.Parents))))) rfl) (by rw [List.length_map])) rfl ⟨rfl, trivial⟩ trivial ?_
        refine G.op1 (op_convI Tryd.underlying3 Tryd.underlying97 (Ev.t 53 (bI .i64 (c_0.Parents.length : Int))) rfl) rfl ⟨rfl, trivial⟩ trivial ?_
        refine G.op1 (op_buildSlice (es := List.map encI_u64 [IntKind.wrap .u64 (c_0.Parents.length : Int)]) Tryd.underlying98 ti97 rfl rfl (EvP.cons (Ev.t 54 (bI .u64 (IntKind.wrap .u64 (c_0.Parents.length : Int)))) EvP.nil) rfl rfl (by simp [encI_u64]) rfl) rfl ⟨rfl, trivial⟩ trivial ?_
        obtain ⟨l8, hl8, hF⟩ := bindS hF
        refine G.op2 (op_appendO Tryd.underlying98 ti97 rfl (app_map hl8 encI_u64) (app_b1 hl8 encI_u64) (app_b2 hl8 encI_u64) (Ev.t 50 (.own 2007 (List.map encI_u64 y7))) (Ev.t 55 (.g (.d (.sl 1 (List.map encI_u64 ([IntKind.wrap .u64 (c_0.Parents.length : Int)])))))) rfl) rfl ⟨rfl, rfl, trivial⟩ ⟨rfl, trivial⟩ ?_
        refine G.op1 (op_assign (Ev.t 56 (.own 2007 (List.map encI_u64 l8))) rfl) rfl ⟨rfl, trivial⟩ trivial ?_
        refine G.endOps ?_
        refine G.seq ?_
        refine G.seq ?_
        refine G.region ?_
        refine G.op1 (op_fieldP (off' := 2) Tryd.underlying28 rfl ti26 (by decide) rfl (Ev.t 1 (.ptr 1001 0)) rfl) rfl ⟨rfl, trivial⟩ trivial ?_
        refine G.op1 (op_load1P (c := .g (.d (.sl 1 (List.map encI_i64 c_0.Parents)))) Tryd.underlying26 rfl rfl (Ev.t 57 (.ptr 1001 2)) rfl) rfl ⟨rfl, trivial⟩ ⟨rfl, trivial⟩ ?_
        refine G.op1 (OpL.cast (op_lenD Tryd.underlying26 (Ev.t 58 (.g (.d (.sl 1 (List.map encI_i64 c_0.Parents))))) rfl) (by rw [List.length_map])) rfl ⟨rfl, trivial⟩ trivial ?_
        refine G.op1 (op_move (Ev.c _ rfl) rfl) rfl trivial trivial ?_
        refine G.endOps ?_
        refine G.joinC (T := (List Int)) (fun y9 => ⟨[(4, .one (.ptr 1004 0)), (7, .one (.own 2007 (List.map encI_u64 y9)))], [(1004, some (.bld 54 5 3004 y6)), (2007, some (.row 97 1 (List.map encI_u64 y9) false)), (3004, some (.hid true 1004))]⟩) (fun y9 => wire_RowBytes_k3 y6 y9 = some r) (fun y9 hF => ?_) (fun J13 => ?_)
        · unfold wire_RowBytes_k3 at hF
          refine G.seq ?_
          refine G.region ?_
          obtain ⟨r10, hr10, hF⟩ := bindS hF
          refine G.opM (op_callM (k := 1004) (h := .bld 54 5 y6) (h' := .gone) 3004 (sv := .one (bS r10)) cf20 (ct_bld_String y6 r10 hr10) rfl rfl (EvM.pt (Ev.t 4 (.ptr 1004 0)) EvM.nil) rfl) rfl ⟨rfl, trivial⟩ ⟨rfl, rfl, trivial⟩ ?_
          refine G.op1 (op_move (Ev.t 7 (.own 2007 (List.map encI_u64 y9))) rfl) rfl ⟨rfl, trivial⟩ trivial ?_
          obtain ⟨r11, hr11, hF⟩ := bindS hF
          refine G.op1 (op_callQ (sv := .one (bS r11)) cf61 (ct_vary_Join y9 r11 hr11) rfl rfl (EvQL.cons (EvQ.own (Ev.t 72 (.own 2007 (List.map encI_u64 y9)))) EvQL.nil) rfl) rfl ⟨rfl, trivial⟩ ⟨rfl, trivial⟩ ?_
          obtain ⟨s12, hs12, hF⟩ := bindS hF
          refine G.op1 (OpL.cast (op_cat (scat_ok hs12).1 (Ev.t 71 (bS r10)) (Ev.t 73 (bS r11)) rfl) (by rw [(scat_ok hs12).2])) rfl ⟨rfl, rfl, trivial⟩ trivial ?_
          refine G.op1 (op_assign (Ev.t 74 (bS s12)) rfl) rfl ⟨rfl, trivial⟩ trivial ?_
          refine G.endOps ?_
          cases hF
          exact G.ret1 Tryd.results35 (RVar.tmp 2 _) ⟨rfl, trivial⟩ trivial
        refine G.block ?_
        refine G.keep (sl' := [(4, .one (.ptr 1004 0)), (7, .one (.own 2007 (List.map encI_u64 l8))), (58, .one (.g (.d (.sl 1 (List.map encI_i64 c_0.Parents))))), (59, .one (bI .i64 (c_0.Parents.length : Int))), (60, .one (bI .i64 0))]) (hp' := [(1004, some (.bld 54 5 3004 y6)), (2007, some (.row 97 1 (List.map encI_u64 l8) false)), (3004, some (.hid true 1004))]) ⟨rfl, rfl, rfl, rfl, rfl, trivial⟩ ⟨rfl, rfl, rfl, trivial⟩ rfl ?_
        refine G.loopF (fun (v14 : Int × (List Int)) => ⟨[(4, .one (.ptr 1004 0)), (7, .one (.own 2007 (List.map encI_u64 v14.2))), (58, .one (.g (.d (.sl 1 (List.map encI_i64 c_0.Parents))))), (59, .one (bI .i64 (c_0.Parents.length : Int))), (60, .one (bI .i64 v14.1))], [(1004, some (.bld 54 5 3004 y6)), (2007, some (.row 97 1 (List.map encI_u64 v14.2) false)), (3004, some (.hid true 1004))]⟩) hF rfl (fun K17 again16 v14 J15 hF => ?_)
        unfold wire_RowBytes_l4 at hF
        refine G.seq ?_
        refine G.region ?_
        refine G.op1 (op_lss (Ev.t 60 (bI .i64 v14.1)) (Ev.t 59 (bI .i64 (c_0.Parents.length : Int))) rfl) rfl ⟨rfl, rfl, trivial⟩ trivial ?_
        refine G.endOps ?_
        refine G.seq ?_
        refine ifS hF (fun hc18 hF => ?_) (fun hc18 hF => ?_)
        · refine G.cond rfl (fun _ => ?_) (fun hx => Bool.noConfusion (hc18.symm.trans hx))
          refine G.skip ?_
          refine G.seq ?_
          refine G.block ?_
          refine G.seq ?_
          refine G.region ?_
          obtain ⟨x19, hx19, hF⟩ := bindS hF
          refine G.op1 (op_index (cs := [.v (.int .i64 x19)]) Tryd.underlying26 ti3 (idx_ok hx19).1 (idx_get hx19 encI_i64) (Ev.t 58 (.g (.d (.sl 1 (List.map encI_i64 c_0.Parents))))) (Ev.t 60 (bI .i64 v14.1)) rfl) rfl ⟨rfl, rfl, trivial⟩ trivial ?_
          refine G.op1 (op_load1E (c := .v (.int .i64 x19)) Tryd.underlying3 rfl rfl (Ev.t 62 (.ep [.v (.int .i64 x19)])) rfl) rfl ⟨rfl, trivial⟩ trivial ?_
          refine G.op1 (op_assign (Ev.t 63 (bI .i64 x19)) rfl) rfl ⟨rfl, trivial⟩ trivial ?_
          refine G.endOps ?_
          refine G.region ?_
          refine G.op1 (op_move (Ev.t 7 (.own 2007 (List.map encI_u64 v14.2))) rfl) rfl ⟨rfl, trivial⟩ trivial ?_
          refine G.op1 (op_move (Ev.t 11 (bI .i64 x19)) rfl) rfl ⟨rfl, trivial⟩ trivial ?_
          refine G.op1 (op_add (Ev.t 65 (bI .i64 x19)) (Ev.c _ rfl) rfl) rfl ⟨rfl, trivial⟩ trivial ?_
          refine G.op1 (op_convI Tryd.underlying3 Tryd.underlying97 (Ev.t 66 (bI .i64 (IntKind.wrap .i64 (x19 + 1)))) rfl) rfl ⟨rfl, trivial⟩ trivial ?_
          refine G.op1 (op_buildSlice (es := List.map encI_u64 [IntKind.wrap .u64 (IntKind.wrap .i64 (x19 + 1))]) Tryd.underlying98 ti97 rfl rfl (EvP.cons (Ev.t 67 (bI .u64 (IntKind.wrap .u64 (IntKind.wrap .i64 (x19 + 1))))) EvP.nil) rfl rfl (by simp [encI_u64]) rfl) rfl ⟨rfl, trivial⟩ trivial ?_
          obtain ⟨l20, hl20, hF⟩ := bindS hF
          refine G.op2 (op_appendO Tryd.underlying98 ti97 rfl (app_map hl20 encI_u64) (app_b1 hl20 encI_u64) (app_b2 hl20 encI_u64) (Ev.t 64 (.own 2007 (List.map encI_u64 v14.2))) (Ev.t 68 (.g (.d (.sl 1 (List.map encI_u64 ([IntKind.wrap .u64 (IntKind.wrap .i64 (x19 + 1))])))))) rfl) rfl ⟨rfl, rfl, trivial⟩ ⟨rfl, trivial⟩ ?_
          refine G.op1 (op_assign (Ev.t 69 (.own 2007 (List.map encI_u64 l20))) rfl) rfl ⟨rfl, trivial⟩ trivial ?_
          refine G.endOps ?_
          refine G.endBlock ?_
          refine G.region ?_
          refine G.op1 (op_add (Ev.t 60 (bI .i64 v14.1)) (Ev.c _ rfl) rfl) rfl ⟨rfl, trivial⟩ trivial ?_
          refine G.op1 (op_move (Ev.t 70 (bI .i64 (IntKind.wrap .i64 (v14.1 + 1)))) rfl) rfl ⟨rfl, trivial⟩ trivial ?_
          refine G.endOps ?_
          exact G.arr (J15 (IntKind.wrap .i64 (v14.1 + 1), l20) hF) ⟨rfl, rfl, rfl, rfl, rfl, trivial⟩ ⟨rfl, rfl, rfl, trivial⟩ rfl
        · refine G.cond rfl (fun hx => Bool.noConfusion (hc18.symm.trans hx)) (fun _ => ?_)
          refine G.exit ?_
          refine GX.c ?_
          refine GX.q ?_
          refine GX.bYes ?_
          exact G.arr (J13 v14.2 hF) ⟨rfl, rfl, trivial⟩ ⟨rfl, rfl, rfl, trivial⟩ rfl
      refine G.block ?_
      refine G.keep (sl' := [(1, .one (.ptr 1001 0)), (4, .one (.ptr 1004 0)), (7, .one (.own 2007 (List.map encI_u64 ([] : (List Int))))), (38, .one (.g (.d (.sl 1 (List.map encI_i64 c_0.Owners))))), (39, .one (bI .i64 (c_0.Owners.length : Int))), (40, .one (bI .i64 0))]) (hp' := [(1001, some (.blk 28 [.g (.d (.sl 2 (List.map encApi_Range c_0.Ranges))), .g (.d (.sl 1 (List.map encI_i64 c_0.Owners))), .g (.d (.sl 1 (List.map encI_i64 c_0.Parents)))])), (1004, some (.bld 54 5 3004 y6)), (2007, some (.row 97 1 (List.map encI_u64 ([] : (List Int))) false)), (3004, some (.hid true 1004))]) ⟨rfl, rfl, rfl, rfl, rfl, rfl, trivial⟩ ⟨rfl, rfl, rfl, rfl, trivial⟩ rfl ?_
      refine G.loopF (fun (v22 : Int × (List Int)) => ⟨[(1, .one (.ptr 1001 0)), (4, .one (.ptr 1004 0)), (7, .one (.own 2007 (List.map encI_u64 v22.2))), (38, .one (.g (.d (.sl 1 (List.map encI_i64 c_0.Owners))))), (39, .one (bI .i64 (c_0.Owners.length : Int))), (40, .one (bI .i64 v22.1))], [(1001, some (.blk 28 [.g (.d (.sl 2 (List.map encApi_Range c_0.Ranges))), .g (.d (.sl 1 (List.map encI_i64 c_0.Owners))), .g (.d (.sl 1 (List.map encI_i64 c_0.Parents)))])), (1004, some (.bld 54 5 3004 y6)), (2007, some (.row 97 1 (List.map encI_u64 v22.2) false)), (3004, some (.hid true 1004))]⟩) hF rfl (fun K25 again24 v22 J23 hF => ?_)
      unfold wire_RowBytes_l5 at hF
      refine G.seq ?_
      refine G.region ?_
      refine G.op1 (op_lss (Ev.t 40 (bI .i64 v22.1)) (Ev.t 39 (bI .i64 (c_0.Owners.length : Int))) rfl) rfl ⟨rfl, rfl, trivial⟩ trivial ?_
      refine G.endOps ?_
      refine G.seq ?_
      refine ifS hF (fun hc26 hF => ?_) (fun hc26 hF => ?_)
      · refine G.cond rfl (fun _ => ?_) (fun hx => Bool.noConfusion (hc26.symm.trans hx))
        refine G.skip ?_
        refine G.seq ?_
        refine G.block ?_
        refine G.seq ?_
        refine G.region ?_
        obtain ⟨x27, hx27, hF⟩ := bindS hF
        refine G.op1 (op_index (cs := [.v (.int .i64 x27)]) Tryd.underlying26 ti3 (idx_ok hx27).1 (idx_get hx27 encI_i64) (Ev.t 38 (.g (.d (.sl 1 (List.map encI_i64 c_0.Owners))))) (Ev.t 40 (bI .i64 v22.1)) rfl) rfl ⟨rfl, rfl, trivial⟩ trivial ?_
        refine G.op1 (op_load1E (c := .v (.int .i64 x27)) Tryd.underlying3 rfl rfl (Ev.t 42 (.ep [.v (.int .i64 x27)])) rfl) rfl ⟨rfl, trivial⟩ trivial ?_
        refine G.op1 (op_assign (Ev.t 43 (bI .i64 x27)) rfl) rfl ⟨rfl, trivial⟩ trivial ?_
        refine G.endOps ?_
        refine G.region ?_
        refine G.op1 (op_move (Ev.t 7 (.own 2007 (List.map encI_u64 v22.2))) rfl) rfl ⟨rfl, trivial⟩ trivial ?_
        refine G.op1 (op_move (Ev.t 9 (bI .i64 x27)) rfl) rfl ⟨rfl, trivial⟩ trivial ?_
        refine G.op1 (op_convI Tryd.underlying3 Tryd.underlying97 (Ev.t 45 (bI .i64 x27)) rfl) rfl ⟨rfl, trivial⟩ trivial ?_
        refine G.op1 (op_buildSlice (es := List.map encI_u64 [IntKind.wrap .u64 x27]) Tryd.underlying98 ti97 rfl rfl (EvP.cons (Ev.t 46 (bI .u64 (IntKind.wrap .u64 x27))) EvP.nil) rfl rfl (by simp [encI_u64]) rfl) rfl ⟨rfl, trivial⟩ trivial ?_
        obtain ⟨l28, hl28, hF⟩ := bindS hF
        refine G.op2 (op_appendO Tryd.underlying98 ti97 rfl (app_map hl28 encI_u64) (app_b1 hl28 encI_u64) (app_b2 hl28 encI_u64) (Ev.t 44 (.own 2007 (List.map encI_u64 v22.2))) (Ev.t 47 (.g (.d (.sl 1 (List.map encI_u64 ([IntKind.wrap .u64 x27])))))) rfl) rfl ⟨rfl, rfl, trivial⟩ ⟨rfl, trivial⟩ ?_
        refine G.op1 (op_assign (Ev.t 48 (.own 2007 (List.map encI_u64 l28))) rfl) rfl ⟨rfl, trivial⟩ trivial ?_
        refine G.endOps ?_
        refine G.endBlock ?_
        refine G.region ?_
        refine G.op1 (op_add (Ev.t 40 (bI .i64 v22.1)) (Ev.c _ rfl) rfl) rfl ⟨rfl, trivial⟩ trivial ?_
        refine G.op1 (op_move (Ev.t 49 (bI .i64 (IntKind.wrap .i64 (v22.1 + 1)))) rfl) rfl ⟨rfl, trivial⟩ trivial ?_
        refine G.endOps ?_
        exact G.arr (J23 (IntKind.wrap .i64 (v22.1 + 1), l28) hF) ⟨rfl, rfl, rfl, rfl, rfl, rfl, trivial⟩ ⟨rfl, rfl, rfl, rfl, trivial⟩ rfl
      · refine G.cond rfl (fun hx => Bool.noConfusion (hc26.symm.trans hx)) (fun _ => ?_)
        refine G.exit ?_
        refine GX.c ?_
        refine GX.q ?_
        refine GX.bYes ?_
        exact G.arr (J21 v22.2 hF) ⟨rfl, rfl, rfl, trivial⟩ ⟨rfl, rfl, rfl, rfl, trivial⟩ rfl
    refine G.block ?_
    refine G.keep (sl' := [(1, .one (.ptr 1001 0)), (4, .one (.ptr 1004 0)), (26, .one (.g (.d (.sl 2 (List.map encApi_Range l5))))), (27, .one (bI .i64 (l5.length : Int))), (28, .one (bI .i64 0))]) (hp' := [(1001, some (.blk 28 [.g (.d (.sl 2 (List.map encApi_Range c_0.Ranges))), .g (.d (.sl 1 (List.map encI_i64 c_0.Owners))), .g (.d (.sl 1 (List.map encI_i64 c_0.Parents)))])), (1004, some (.bld 54 5 3004 r4)), (3004, some (.hid true 1004))]) ⟨rfl, rfl, rfl, rfl, rfl, trivial⟩ ⟨rfl, rfl, rfl, trivial⟩ rfl ?_
    refine G.loopF (fun (v30 : Int × ByteArray) => ⟨[(1, .one (.ptr 1001 0)), (4, .one (.ptr 1004 0)), (26, .one (.g (.d (.sl 2 (List.map encApi_Range l5))))), (27, .one (bI .i64 (l5.length : Int))), (28, .one (bI .i64 v30.1))], [(1001, some (.blk 28 [.g (.d (.sl 2 (List.map encApi_Range c_0.Ranges))), .g (.d (.sl 1 (List.map encI_i64 c_0.Owners))), .g (.d (.sl 1 (List.map encI_i64 c_0.Parents)))])), (1004, some (.bld 54 5 3004 v30.2)), (3004, some (.hid true 1004))]⟩) hF rfl (fun K33 again32 v30 J31 hF => ?_)
    unfold wire_RowBytes_l6 at hF
    refine G.seq ?_
    refine G.region ?_
    refine G.op1 (op_lss (Ev.t 28 (bI .i64 v30.1)) (Ev.t 27 (bI .i64 (l5.length : Int))) rfl) rfl ⟨rfl, rfl, trivial⟩ trivial ?_
    refine G.endOps ?_
    refine G.seq ?_
    refine ifS hF (fun hc34 hF => ?_) (fun hc34 hF => ?_)
    · refine G.cond rfl (fun _ => ?_) (fun hx => Bool.noConfusion (hc34.symm.trans hx))
      refine G.skip ?_
      refine G.seq ?_
      refine G.block ?_
      refine G.seq ?_
      refine G.region ?_
      obtain ⟨x35, hx35, hF⟩ := bindS hF
      refine G.op1 (op_index (cs := [.v (.string x35.From), .v (.string x35.To)]) Tryd.underlying25 ti48 (idx_ok hx35).1 (idx_get hx35 encApi_Range) (Ev.t 26 (.g (.d (.sl 2 (List.map encApi_Range l5))))) (Ev.t 28 (bI .i64 v30.1)) rfl) rfl ⟨rfl, rfl, trivial⟩ trivial ?_
      refine G.op1 (op_loadAE (ds := [.v (.string x35.From), .v (.string x35.To)]) Tryd.underlying48 rfl ti48 rfl (Ev.t 30 (.ep [.v (.string x35.From), .v (.string x35.To)])) rfl) rfl ⟨rfl, trivial⟩ trivial ?_
      refine G.op2 (op_alloc (k := 1006) (cs := [bS ByteArray.empty, bS ByteArray.empty]) ti48 ⟨.v _ rfl, .v _ rfl, trivial⟩ rfl) rfl trivial ⟨rfl, trivial⟩ ?_
      refine G.op3 (op_storeA (cs' := [bS x35.From, bS x35.To]) ti48 rfl rfl (Ev.t 6 (.ptr 1006 0)) (Ev.t 31 (.g (.agg [.v (.string x35.From), .v (.string x35.To)])))) rfl ⟨rfl, rfl, trivial⟩ ⟨rfl, trivial⟩ ?_
      refine G.endOps ?_
      refine G.region ?_
      refine G.op1 (op_fieldP (off' := 1) Tryd.underlying48 rfl ti9 (by decide) rfl (Ev.t 6 (.ptr 1006 0)) rfl) rfl ⟨rfl, trivial⟩ trivial ?_
      refine G.op1 (op_load1P (c := bS x35.To) Tryd.underlying9 rfl rfl (Ev.t 32 (.ptr 1006 1)) rfl) rfl ⟨rfl, trivial⟩ ⟨rfl, trivial⟩ ?_
      obtain ⟨r36, hr36, hF⟩ := bindS hF
      refine G.op1 (op_callQ (sv := .one (bS r36)) cf60 (ct_vary_Text x35.To r36 hr36) rfl rfl (EvQL.cons (EvQ.g (Ev.t 33 (bS x35.To))) EvQL.nil) rfl) rfl ⟨rfl, trivial⟩ trivial ?_
      obtain ⟨r37, hr37, hF⟩ := bindS hF
      refine G.opM (op_callM (k := 1004) (h := .bld 54 5 v30.2) (h' := .bld 54 5 r37) 3004 (sv := .tup [bI .i64 (r36.size : Int), .g (.d (.v .nilIface))]) cf19 (ct_bld_WriteString v30.2 r36 r37 hr37) rfl rfl (EvM.pt (Ev.t 4 (.ptr 1004 0)) (EvM.g (Ev.t 34 (bS r36)) EvM.nil)) rfl) rfl ⟨rfl, rfl, trivial⟩ ⟨rfl, rfl, trivial⟩ ?_
      refine G.endOps ?_
      refine G.endBlock ?_
      refine G.region ?_
      refine G.op1 (op_add (Ev.t 28 (bI .i64 v30.1)) (Ev.c _ rfl) rfl) rfl ⟨rfl, trivial⟩ trivial ?_
      refine G.op1 (op_move (Ev.t 36 (bI .i64 (IntKind.wrap .i64 (v30.1 + 1)))) rfl) rfl ⟨rfl, trivial⟩ trivial ?_
      refine G.endOps ?_
      exact G.arr (J31 (IntKind.wrap .i64 (v30.1 + 1), r37) hF) ⟨rfl, rfl, rfl, rfl, rfl, trivial⟩ ⟨rfl, rfl, rfl, trivial⟩ rfl
    · refine G.cond rfl (fun hx => Bool.noConfusion (hc34.symm.trans hx)) (fun _ => ?_)
      refine G.exit ?_
      refine GX.c ?_
      refine GX.q ?_
      refine GX.bYes ?_
      exact G.arr (J29 v30.2 hF) ⟨rfl, rfl, trivial⟩ ⟨rfl, rfl, rfl, trivial⟩ rfl

end Go.Ark
