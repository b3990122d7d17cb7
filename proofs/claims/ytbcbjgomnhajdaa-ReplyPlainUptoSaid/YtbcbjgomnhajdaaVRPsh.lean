/-
  DERIVED: THE SHELF's CONTRACTS AT THIS DUMP, IN PLAIN WORDS (tools/lay-plain.mjs out of 'VcgRPsh.lean', which tools/lay-shelf.mjs wrote): THE SAME DECLARATIONS UNDER THE SAME NAMES: 'import', 'namespace', 'open', 'def', 'theorem' AND NOTHING ELSE: no command of the shelf's: FOR A HAND-IN. Each laying: the table of numbers ('.._ren') and one theorem, a field a fact of the dump's own or the kernel's comparison; each contract: ONE APPLICATION.
-/
import Derived.Shelf.Strings.IndexAnyAll
import Derived.Test.YtbcbjgomnhajdaaProg
set_option linter.unusedSimpArgs false
set_option linter.unusedVariables false
namespace Go.Proofs
open Go.Shelf
def Try.laysCA_ren : Go.Shelf.Ren := ⟨fun | 150 => 17 | 153 => 21 | 152 => 26 | 226 => 27 | 227 => 28 | 228 => 29 | 137 => 30 | 119 => 31 | 224 => 32 | 225 => 33 | 217 => 34 | 266 => 35 | n => n, fun | 9 => 9 | 4 => 4 | 3 => 3 | 5 => 5 | 21 => 21 | 117 => 47 | 116 => 46 | 0 => 0 | 46 => 55 | 124 => 56 | n => n, fun | n => n⟩
theorem Try.laysCA : Go.Proofs.Lays.n150 Try.prog Try.laysCA_ren := {
  mixed := by kernel_rfl
  f119 := Try.func31.trans (congrArg some (by kernel_rfl))
  f137 := Try.func30.trans (congrArg some (by kernel_rfl))
  f150 := Try.func17.trans (congrArg some (by kernel_rfl))
  f152 := Try.func26.trans (congrArg some (by kernel_rfl))
  f153 := Try.func21.trans (congrArg some (by kernel_rfl))
  f217 := Try.func34.trans (congrArg some (by kernel_rfl))
  f224 := Try.func32.trans (congrArg some (by kernel_rfl))
  f225 := Try.func33.trans (congrArg some (by kernel_rfl))
  f226 := Try.func27.trans (congrArg some (by kernel_rfl))
  f227 := Try.func28.trans (congrArg some (by kernel_rfl))
  f228 := Try.func29.trans (congrArg some (by kernel_rfl))
  f266 := Try.func35.trans (congrArg some (by kernel_rfl))
  t0 := Try.underlying0
  a0 := Try.isAgg0
  z0 := Try.sizeOf0
  v0 := Try.zeroValue0
  t3 := Try.underlying3
  a3 := Try.isAgg3
  z3 := Try.sizeOf3
  v3 := Try.zeroValue3
  t4 := Try.underlying4
  a4 := Try.isAgg4
  z4 := Try.sizeOf4
  v4 := Try.zeroValue4
  t5 := Try.underlying5
  a5 := Try.isAgg5
  z5 := Try.sizeOf5
  v5 := Try.zeroValue5
  t9 := Try.underlying9
  a9 := Try.isAgg9
  z9 := Try.sizeOf9
  v9 := Try.zeroValue9
  t21 := Try.underlying21
  a21 := Try.isAgg21
  z21 := Try.sizeOf21
  v21 := Try.zeroValue21
  t46 := Try.underlying55
  a46 := Try.isAgg55
  z46 := Try.sizeOf55
  v46 := Try.zeroValue55
  t116 := Try.underlying46
  a116 := Try.isAgg46
  z116 := Try.sizeOf46
  t117 := Try.underlying47
  a117 := Try.isAgg47
  z117 := Try.sizeOf47
  v117 := Try.zeroValue47
  t124 := Try.underlying56
  a124 := Try.isAgg56
  z124 := Try.sizeOf56
  v124 := Try.zeroValue56 }
end Go.Proofs
