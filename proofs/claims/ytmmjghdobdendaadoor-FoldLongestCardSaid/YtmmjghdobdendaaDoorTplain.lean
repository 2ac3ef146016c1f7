/-
  DERIVED: THE SHELF's CONTRACTS AT THIS DUMP, IN PLAIN WORDS (tools/lay-plain.mjs out of 'YtmmjghdobdendaaDoorTShelf.lean', which tools/lay-shelf.mjs wrote): THE SAME DECLARATIONS UNDER THE SAME NAMES: 'import', 'namespace', 'open', 'def', 'theorem' AND NOTHING ELSE: no command of the shelf's: FOR A HAND-IN. Each laying: the table of numbers ('.._ren') and one theorem, a field a fact of the dump's own or the kernel's comparison; each contract: ONE APPLICATION.
-/
import Derived.Shelf.Spec.DecodeRune
import Derived.Shelf.Spec.NilArms
import Derived.Shelf.Utf8.AppendRunePlain
import Derived.Shelf.Strings.Prefix
import Derived.Shelf.Strings.Split
import Derived.Ground.Names7Prog
import Derived.Ground.NamesProg
import Derived.Test.YtmmjghdobdendaaDoorProg
set_option linter.unusedSimpArgs false
set_option linter.unusedVariables false
set_option linter.unusedSimpArgs false
set_option linter.unusedVariables false
set_option maxRecDepth 100000
namespace Go.Proofs
open Go.Shelf
def Tryd.decS_ren : Go.Shelf.Ren := ⟨fun | 32 => 68 | 49 => 78 | n => n, fun | 30 => 23 | 21 => 21 | 3 => 3 | 0 => 0 | 5 => 5 | 4 => 4 | 33 => 87 | 66 => 94 | 25 => 82 | 69 => 97 | 68 => 96 | n => n, fun | 2 => 1 | 3 => 2 | n => n⟩
theorem Tryd.decS : Go.Proofs.Lays7.n32 Tryd.prog Tryd.decS_ren := {
  mixed := by kernel_rfl
  f32 := Tryd.func68.trans (congrArg some (by kernel_rfl))
  f49 := Tryd.func78.trans (congrArg some (by kernel_rfl))
  t0 := Tryd.underlying0
  a0 := Tryd.isAgg0
  z0 := Tryd.sizeOf0
  v0 := Tryd.zeroValue0
  i0 := by kernel_rfl
  t3 := Tryd.underlying3
  a3 := Tryd.isAgg3
  z3 := Tryd.sizeOf3
  v3 := Tryd.zeroValue3
  i3 := by kernel_rfl
  t4 := Tryd.underlying4
  a4 := Tryd.isAgg4
  z4 := Tryd.sizeOf4
  v4 := Tryd.zeroValue4
  i4 := by kernel_rfl
  t5 := Tryd.underlying5
  a5 := Tryd.isAgg5
  z5 := Tryd.sizeOf5
  v5 := Tryd.zeroValue5
  i5 := by kernel_rfl
  t21 := Tryd.underlying21
  a21 := Tryd.isAgg21
  z21 := Tryd.sizeOf21
  v21 := Tryd.zeroValue21
  i21 := by kernel_rfl
  t25 := Tryd.underlying82
  a25 := Tryd.isAgg82
  z25 := Tryd.sizeOf82
  v25 := Tryd.zeroValue82
  i25 := by kernel_rfl
  t30 := Tryd.underlying23
  a30 := Tryd.isAgg23
  z30 := Tryd.sizeOf23
  v30 := Tryd.zeroValue23
  i30 := by kernel_rfl
  t33 := Tryd.underlying87
  a33 := Tryd.isAgg87
  z33 := Tryd.sizeOf87
  v33 := Tryd.zeroValue87
  i33 := by kernel_rfl
  t66 := Tryd.underlying94
  a66 := Tryd.isAgg94
  z66 := Tryd.sizeOf94
  t68 := Tryd.underlying96
  a68 := Tryd.isAgg96
  z68 := Tryd.sizeOf96
  v68 := Tryd.zeroValue96
  i68 := by kernel_rfl
  t69 := Tryd.underlying97
  a69 := Tryd.isAgg97
  z69 := Tryd.sizeOf97
  v69 := Tryd.zeroValue97
  i69 := by kernel_rfl
  g2 := by kernel_rfl
  g3 := by kernel_rfl }
def Tryd.appS_ren : Go.Shelf.Ren := ⟨fun | 242 => 61 | 278 => 73 | n => n, fun | 37 => 23 | 21 => 21 | 51 => 91 | 4 => 4 | 5 => 5 | 46 => 82 | n => n, fun | n => n⟩
def Tryd.splitS_ren : Go.Shelf.Ren := ⟨fun | 146 => 30 | 221 => 48 | 268 => 63 | 138 => 64 | 143 => 65 | 195 => 74 | 197 => 75 | 218 => 76 | 219 => 77 | 260 => 80 | 217 => 79 | 225 => 81 | 224 => 82 | 267 => 83 | 266 => 84 | 314 => 85 | n => n, fun | 9 => 9 | 31 => 31 | 3 => 3 | 4 => 4 | 0 => 0 | 105 => 87 | 21 => 21 | 5 => 5 | 46 => 82 | 119 => 94 | 139 => 97 | 138 => 96 | 146 => 98 | 51 => 91 | n => n, fun | 1 => 0 | 3 => 1 | 4 => 2 | n => n⟩
def Tryd.gsplitS_ren : Go.Shelf.Ren := ⟨fun | 221 => 48 | 268 => 63 | 138 => 64 | 143 => 65 | 195 => 74 | 197 => 75 | 218 => 76 | 219 => 77 | 260 => 80 | 217 => 79 | 225 => 81 | 224 => 82 | 267 => 83 | 266 => 84 | 314 => 85 | n => n, fun | 9 => 9 | 3 => 3 | 31 => 31 | 4 => 4 | 0 => 0 | 105 => 87 | 21 => 21 | 5 => 5 | 46 => 82 | 119 => 94 | 139 => 97 | 138 => 96 | 146 => 98 | 51 => 91 | n => n, fun | 1 => 0 | 3 => 1 | 4 => 2 | n => n⟩
theorem Tryd.gsplitS : Go.Proofs.Lays.n221 Tryd.prog Tryd.gsplitS_ren := {
  mixed := by kernel_rfl
  f138 := Tryd.func64.trans (congrArg some (by kernel_rfl))
  f143 := Tryd.func65.trans (congrArg some (by kernel_rfl))
  f195 := Tryd.func74.trans (congrArg some (by kernel_rfl))
  f197 := Tryd.func75.trans (congrArg some (by kernel_rfl))
  f217 := Tryd.func79.trans (congrArg some (by kernel_rfl))
  f218 := Tryd.func76.trans (congrArg some (by kernel_rfl))
  f219 := Tryd.func77.trans (congrArg some (by kernel_rfl))
  f221 := Tryd.func48.trans (congrArg some (by kernel_rfl))
  f224 := Tryd.func82.trans (congrArg some (by kernel_rfl))
  f225 := Tryd.func81.trans (congrArg some (by kernel_rfl))
  f260 := Tryd.func80.trans (congrArg some (by kernel_rfl))
  f266 := Tryd.func84.trans (congrArg some (by kernel_rfl))
  f267 := Tryd.func83.trans (congrArg some (by kernel_rfl))
  f268 := Tryd.func63.trans (congrArg some (by kernel_rfl))
  f314 := Tryd.func85.trans (congrArg some (by kernel_rfl))
  t0 := Tryd.underlying0
  a0 := Tryd.isAgg0
  z0 := Tryd.sizeOf0
  v0 := Tryd.zeroValue0
  t3 := Tryd.underlying3
  a3 := Tryd.isAgg3
  z3 := Tryd.sizeOf3
  v3 := Tryd.zeroValue3
  t4 := Tryd.underlying4
  a4 := Tryd.isAgg4
  z4 := Tryd.sizeOf4
  v4 := Tryd.zeroValue4
  t5 := Tryd.underlying5
  a5 := Tryd.isAgg5
  z5 := Tryd.sizeOf5
  v5 := Tryd.zeroValue5
  t9 := Tryd.underlying9
  a9 := Tryd.isAgg9
  z9 := Tryd.sizeOf9
  v9 := Tryd.zeroValue9
  t21 := Tryd.underlying21
  a21 := Tryd.isAgg21
  z21 := Tryd.sizeOf21
  v21 := Tryd.zeroValue21
  t31 := Tryd.underlying31
  a31 := Tryd.isAgg31
  z31 := Tryd.sizeOf31
  v31 := Tryd.zeroValue31
  t46 := Tryd.underlying82
  a46 := Tryd.isAgg82
  z46 := Tryd.sizeOf82
  v46 := Tryd.zeroValue82
  t51 := Tryd.underlying91
  a51 := Tryd.isAgg91
  z51 := Tryd.sizeOf91
  v51 := Tryd.zeroValue91
  t105 := Tryd.underlying87
  a105 := Tryd.isAgg87
  z105 := Tryd.sizeOf87
  v105 := Tryd.zeroValue87
  t119 := Tryd.underlying94
  a119 := Tryd.isAgg94
  z119 := Tryd.sizeOf94
  t138 := Tryd.underlying96
  a138 := Tryd.isAgg96
  z138 := Tryd.sizeOf96
  v138 := Tryd.zeroValue96
  t139 := Tryd.underlying97
  a139 := Tryd.isAgg97
  z139 := Tryd.sizeOf97
  v139 := Tryd.zeroValue97
  t146 := Tryd.underlying98
  a146 := Tryd.isAgg98
  z146 := Tryd.sizeOf98
  v146 := Tryd.zeroValue98
  g1 := by kernel_rfl
  g3 := by kernel_rfl
  g4 := by kernel_rfl }
def Tryd.countS_ren : Go.Shelf.Ren := ⟨fun | 138 => 64 | 195 => 74 | 218 => 76 | 143 => 65 | 219 => 77 | 217 => 79 | 225 => 81 | 224 => 82 | 267 => 83 | 266 => 84 | 314 => 85 | n => n, fun | 9 => 9 | 3 => 3 | 4 => 4 | 5 => 5 | 0 => 0 | 46 => 82 | 146 => 98 | 51 => 91 | n => n, fun | 1 => 0 | n => n⟩
theorem Tryd.countS : Go.Proofs.Lays.n138 Tryd.prog Tryd.countS_ren := {
  mixed := by kernel_rfl
  f138 := Tryd.func64.trans (congrArg some (by kernel_rfl))
  f143 := Tryd.func65.trans (congrArg some (by kernel_rfl))
  f195 := Tryd.func74.trans (congrArg some (by kernel_rfl))
  f217 := Tryd.func79.trans (congrArg some (by kernel_rfl))
  f218 := Tryd.func76.trans (congrArg some (by kernel_rfl))
  f219 := Tryd.func77.trans (congrArg some (by kernel_rfl))
  f224 := Tryd.func82.trans (congrArg some (by kernel_rfl))
  f225 := Tryd.func81.trans (congrArg some (by kernel_rfl))
  f266 := Tryd.func84.trans (congrArg some (by kernel_rfl))
  f267 := Tryd.func83.trans (congrArg some (by kernel_rfl))
  f314 := Tryd.func85.trans (congrArg some (by kernel_rfl))
  t0 := Tryd.underlying0
  a0 := Tryd.isAgg0
  z0 := Tryd.sizeOf0
  v0 := Tryd.zeroValue0
  t3 := Tryd.underlying3
  a3 := Tryd.isAgg3
  z3 := Tryd.sizeOf3
  v3 := Tryd.zeroValue3
  t4 := Tryd.underlying4
  a4 := Tryd.isAgg4
  z4 := Tryd.sizeOf4
  v4 := Tryd.zeroValue4
  t5 := Tryd.underlying5
  a5 := Tryd.isAgg5
  z5 := Tryd.sizeOf5
  v5 := Tryd.zeroValue5
  t9 := Tryd.underlying9
  a9 := Tryd.isAgg9
  z9 := Tryd.sizeOf9
  v9 := Tryd.zeroValue9
  t46 := Tryd.underlying82
  a46 := Tryd.isAgg82
  z46 := Tryd.sizeOf82
  v46 := Tryd.zeroValue82
  t51 := Tryd.underlying91
  a51 := Tryd.isAgg91
  z51 := Tryd.sizeOf91
  v51 := Tryd.zeroValue91
  t146 := Tryd.underlying98
  a146 := Tryd.isAgg98
  z146 := Tryd.sizeOf98
  v146 := Tryd.zeroValue98
  g1 := by kernel_rfl }
def Tryd.indexS_ren : Go.Shelf.Ren := ⟨fun | 143 => 65 | 219 => 77 | 217 => 79 | 225 => 81 | 224 => 82 | 267 => 83 | 266 => 84 | 314 => 85 | n => n, fun | 9 => 9 | 3 => 3 | 4 => 4 | 5 => 5 | 46 => 82 | 146 => 98 | 51 => 91 | n => n, fun | 1 => 0 | n => n⟩
def Tryd.sufS_ren : Go.Shelf.Ren := ⟨fun | 100 => 41 | 207 => 53 | n => n, fun | 9 => 9 | 4 => 4 | 3 => 3 | n => n, fun | n => n⟩
theorem Tryd.sufS : Go.Proofs.Lays.n100 Tryd.prog Tryd.sufS_ren := {
  mixed := by kernel_rfl
  f100 := Tryd.func41.trans (congrArg some (by kernel_rfl))
  f207 := Tryd.func53.trans (congrArg some (by kernel_rfl))
  t3 := Tryd.underlying3
  a3 := Tryd.isAgg3
  z3 := Tryd.sizeOf3
  v3 := Tryd.zeroValue3
  t4 := Tryd.underlying4
  a4 := Tryd.isAgg4
  z4 := Tryd.sizeOf4
  v4 := Tryd.zeroValue4
  t9 := Tryd.underlying9
  a9 := Tryd.isAgg9
  z9 := Tryd.sizeOf9
  v9 := Tryd.zeroValue9 }
def Tryd.trimS_ren : Go.Shelf.Ren := ⟨fun | 102 => 38 | 209 => 52 | 207 => 53 | n => n, fun | 9 => 9 | 4 => 4 | 3 => 3 | n => n, fun | n => n⟩
theorem Tryd.trimS : Go.Proofs.Lays.n102 Tryd.prog Tryd.trimS_ren := {
  mixed := by kernel_rfl
  f102 := Tryd.func38.trans (congrArg some (by kernel_rfl))
  f207 := Tryd.func53.trans (congrArg some (by kernel_rfl))
  f209 := Tryd.func52.trans (congrArg some (by kernel_rfl))
  t3 := Tryd.underlying3
  a3 := Tryd.isAgg3
  z3 := Tryd.sizeOf3
  v3 := Tryd.zeroValue3
  t4 := Tryd.underlying4
  a4 := Tryd.isAgg4
  z4 := Tryd.sizeOf4
  v4 := Tryd.zeroValue4
  t9 := Tryd.underlying9
  a9 := Tryd.isAgg9
  z9 := Tryd.sizeOf9
  v9 := Tryd.zeroValue9 }
end Go.Proofs

