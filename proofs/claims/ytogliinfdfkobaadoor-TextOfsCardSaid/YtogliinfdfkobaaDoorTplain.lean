/-
  DERIVED: THE SHELF's CONTRACTS AT THIS DUMP, IN PLAIN WORDS (tools/lay-plain.mjs out of 'YtogliinfdfkobaaDoorTShelf.lean', which tools/lay-shelf.mjs wrote): THE SAME DECLARATIONS UNDER THE SAME NAMES: 'import', 'namespace', 'open', 'def', 'theorem' AND NOTHING ELSE: no command of the shelf's: FOR A HAND-IN. Each laying: the table of numbers ('.._ren') and one theorem, a field a fact of the dump's own or the kernel's comparison; each contract: ONE APPLICATION.
-/
import Derived.Shelf.Spec.DecodeRune
import Derived.Shelf.Spec.NilArms
import Derived.Shelf.Utf8.AppendRunePlain
import Derived.Ground.Names7Prog
import Derived.Ground.NamesProg
import Derived.Test.YtogliinfdfkobaaDoorProg
set_option linter.unusedSimpArgs false
set_option linter.unusedVariables false
set_option linter.unusedSimpArgs false
set_option linter.unusedVariables false
set_option maxRecDepth 100000
namespace Go.Proofs
open Go.Shelf
def Tryd.decS_ren : Go.Shelf.Ren := ⟨fun | 32 => 69 | 49 => 82 | n => n, fun | 30 => 22 | 21 => 21 | 3 => 3 | 0 => 0 | 5 => 5 | 4 => 4 | 33 => 109 | 66 => 130 | 25 => 96 | 69 => 133 | 68 => 132 | n => n, fun | 2 => 0 | 3 => 1 | n => n⟩
theorem Tryd.decS : Go.Proofs.Lays7.n32 Tryd.prog Tryd.decS_ren := {
  mixed := by kernel_rfl
  f32 := Tryd.func69.trans (congrArg some (by kernel_rfl))
  f49 := Tryd.func82.trans (congrArg some (by kernel_rfl))
  t0 := Tryd.underlying0
  a0 := Tryd.isAgg0
  z0 := Tryd.sizeOf0
  v0 := Tryd.zeroValue0
  i0 := by kernel_rfl
  t3 := Tryd.underlying3
  a3 := Tryd.isAgg3
  z3 := Tryd.sizeOf3
  v3 := Tryd.zeroValue3
  i3 := by kernel_rfl
  t4 := Tryd.underlying4
  a4 := Tryd.isAgg4
  z4 := Tryd.sizeOf4
  v4 := Tryd.zeroValue4
  i4 := by kernel_rfl
  t5 := Tryd.underlying5
  a5 := Tryd.isAgg5
  z5 := Tryd.sizeOf5
  v5 := Tryd.zeroValue5
  i5 := by kernel_rfl
  t21 := Tryd.underlying21
  a21 := Tryd.isAgg21
  z21 := Tryd.sizeOf21
  v21 := Tryd.zeroValue21
  i21 := by kernel_rfl
  t25 := Tryd.underlying96
  a25 := Tryd.isAgg96
  z25 := Tryd.sizeOf96
  v25 := Tryd.zeroValue96
  i25 := by kernel_rfl
  t30 := Tryd.underlying22
  a30 := Tryd.isAgg22
  z30 := Tryd.sizeOf22
  v30 := Tryd.zeroValue22
  i30 := by kernel_rfl
  t33 := Tryd.underlying109
  a33 := Tryd.isAgg109
  z33 := Tryd.sizeOf109
  v33 := Tryd.zeroValue109
  i33 := by kernel_rfl
  t66 := Tryd.underlying130
  a66 := Tryd.isAgg130
  z66 := Tryd.sizeOf130
  t68 := Tryd.underlying132
  a68 := Tryd.isAgg132
  z68 := Tryd.sizeOf132
  v68 := Tryd.zeroValue132
  i68 := by kernel_rfl
  t69 := Tryd.underlying133
  a69 := Tryd.isAgg133
  z69 := Tryd.sizeOf133
  v69 := Tryd.zeroValue133
  i69 := by kernel_rfl
  g2 := by kernel_rfl
  g3 := by kernel_rfl }
def Tryd.appS_ren : Go.Shelf.Ren := ⟨fun | 242 => 59 | 278 => 73 | n => n, fun | 37 => 22 | 21 => 21 | 51 => 112 | 4 => 4 | 5 => 5 | 46 => 96 | n => n, fun | n => n⟩
end Go.Proofs

