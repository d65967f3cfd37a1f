/-
  DERIVED: THE SHELF's CONTRACTS AT THIS DUMP, IN PLAIN WORDS (tools/lay-plain.mjs out of 'YtimjafjicnlhfaaShelf.lean', which tools/lay-shelf.mjs wrote): THE SAME DECLARATIONS UNDER THE SAME NAMES: 'import', 'namespace', 'open', 'def', 'theorem' AND NOTHING ELSE: no command of the shelf's: FOR A HAND-IN. Each laying: the table of numbers ('.._ren') and one theorem, a field a fact of the dump's own or the kernel's comparison; each contract: ONE APPLICATION.
-/
import Derived.Shelf.SlIter.Nil
import Derived.Shelf.SortM.Plain
import Derived.Shelf.SortM.SortNone
import Derived.Shelf.Slices.CompactS
import Derived.Shelf.SlGeneric
import Derived.Ground.GgzProg
import Derived.Ground.SlgmProg
import Derived.Test.YtimjafjicnlhfaaProg
namespace Go.Proofs
open Go.Shelf
def Try.sorted21_ren : Go.Shelf.Ren := ⟨fun | 6 => 21 | 8 => 48 | 9 => 49 | 11 => 69 | 13 => 71 | 12 => 70 | 23 => 87 | 24 => 53 | 14 => 79 | 15 => 80 | 16 => 81 | 17 => 82 | 18 => 83 | 19 => 84 | 20 => 51 | 21 => 85 | 22 => 86 | 25 => 92 | 26 => 93 | 27 => 94 | 28 => 95 | 29 => 96 | 30 => 72 | 31 => 97 | n => n, fun | 26 => 9 | 28 => 43 | 24 => 22 | 0 => 0 | 3 => 3 | 37 => 34 | 48 => 111 | 50 => 38 | 4 => 4 | 40 => 105 | 39 => 104 | 45 => 46 | 5 => 5 | 9 => 9 | 51 => 118 | 55 => 121 | 57 => 123 | 58 => 124 | 33 => 31 | n => n, fun | n => n⟩
theorem Try.sorted21 : Go.Proofs.SlLaysZ.n6 Try.prog Try.sorted21_ren := {
  mixed := by kernel_rfl
  f6 := ⟨Try.f21.name, by decide, Try.func21.trans (congrArg some (by kernel_rfl))⟩
  f8 := ⟨Try.f48.name, by decide, Try.func48.trans (congrArg some (by kernel_rfl))⟩
  f11 := ⟨Try.f69.name, by decide, Try.func69.trans (congrArg some (by kernel_rfl))⟩
  t0 := Try.underlying0
  a0 := Try.isAgg0
  z0 := Try.sizeOf0
  v0 := Try.zeroValue0
  t24 := Try.underlying22
  a24 := Try.isAgg22
  z24 := Try.sizeOf22
  v24 := Try.zeroValue22
  t26 := Try.underlying9
  a26 := Try.isAgg9
  z26 := Try.sizeOf9
  v26 := Try.zeroValue9
  t28 := Try.underlying43
  a28 := Try.isAgg43
  z28 := Try.sizeOf43
  v28 := Try.zeroValue43
  i26 := by kernel_rfl }
def Try.sort49_ren : Go.Shelf.Ren := ⟨fun | 6 => 49 | 8 => 71 | 9 => 70 | 19 => 87 | 20 => 53 | 21 => 79 | 22 => 80 | 23 => 81 | 24 => 82 | 25 => 83 | 26 => 84 | 27 => 51 | 28 => 85 | 29 => 86 | 36 => 92 | 31 => 93 | 32 => 94 | 37 => 95 | 38 => 96 | 39 => 72 | 41 => 97 | n => n, fun | 27 => 22 | 29 => 9 | 3 => 3 | 32 => 34 | 26 => 22 | 0 => 0 | 44 => 111 | 46 => 38 | 4 => 4 | 36 => 105 | 35 => 104 | 41 => 46 | 5 => 5 | 9 => 9 | 53 => 118 | 57 => 121 | 63 => 123 | 64 => 124 | n => n, fun | n => n⟩
theorem Try.sort49 : Go.Proofs.SlLaysM.n6 Try.prog Try.sort49_ren := {
  mixed := by kernel_rfl
  f6 := ⟨Try.f49.name, by decide, Try.func49.trans (congrArg some (by kernel_rfl))⟩
  f8 := Try.func71.trans (congrArg some (by kernel_rfl))
  f9 := ⟨Try.f70.name, by decide, Try.func70.trans (congrArg some (by kernel_rfl))⟩
  f19 := Try.func87.trans (congrArg some (by kernel_rfl))
  f20 := Try.func53.trans (congrArg some (by kernel_rfl))
  f21 := ⟨Try.f79.name, by decide, Try.func79.trans (congrArg some (by kernel_rfl))⟩
  f22 := ⟨Try.f80.name, by decide, Try.func80.trans (congrArg some (by kernel_rfl))⟩
  f23 := ⟨Try.f81.name, by decide, Try.func81.trans (congrArg some (by kernel_rfl))⟩
  f24 := ⟨Try.f82.name, by decide, Try.func82.trans (congrArg some (by kernel_rfl))⟩
  f25 := ⟨Try.f83.name, by decide, Try.func83.trans (congrArg some (by kernel_rfl))⟩
  f26 := ⟨Try.f84.name, by decide, Try.func84.trans (congrArg some (by kernel_rfl))⟩
  f27 := ⟨Try.f51.name, by decide, Try.func51.trans (congrArg some (by kernel_rfl))⟩
  f28 := ⟨Try.f85.name, by decide, Try.func85.trans (congrArg some (by kernel_rfl))⟩
  f29 := ⟨Try.f86.name, by decide, Try.func86.trans (congrArg some (by kernel_rfl))⟩
  f31 := Try.func93.trans (congrArg some (by kernel_rfl))
  f32 := Try.func94.trans (congrArg some (by kernel_rfl))
  f36 := ⟨Try.f92.name, by decide, Try.func92.trans (congrArg some (by kernel_rfl))⟩
  f37 := ⟨Try.f95.name, by decide, Try.func95.trans (congrArg some (by kernel_rfl))⟩
  f38 := ⟨Try.f96.name, by decide, Try.func96.trans (congrArg some (by kernel_rfl))⟩
  f39 := ⟨Try.f72.name, by decide, Try.func72.trans (congrArg some (by kernel_rfl))⟩
  f41 := ⟨Try.f97.name, by decide, Try.func97.trans (congrArg some (by kernel_rfl))⟩
  t0 := Try.underlying0
  a0 := Try.isAgg0
  z0 := Try.sizeOf0
  v0 := Try.zeroValue0
  t3 := Try.underlying3
  a3 := Try.isAgg3
  z3 := Try.sizeOf3
  v3 := Try.zeroValue3
  t4 := Try.underlying4
  a4 := Try.isAgg4
  z4 := Try.sizeOf4
  v4 := Try.zeroValue4
  t5 := Try.underlying5
  a5 := Try.isAgg5
  z5 := Try.sizeOf5
  v5 := Try.zeroValue5
  t9 := Try.underlying9
  a9 := Try.isAgg9
  z9 := Try.sizeOf9
  v9 := Try.zeroValue9
  t26 := Try.underlying22
  a26 := Try.isAgg22
  z26 := Try.sizeOf22
  v26 := Try.zeroValue22
  t27 := Try.underlying22
  a27 := Try.isAgg22
  z27 := Try.sizeOf22
  v27 := Try.zeroValue22
  t29 := Try.underlying9
  a29 := Try.isAgg9
  z29 := Try.sizeOf9
  v29 := Try.zeroValue9
  t32 := Try.underlying34
  a32 := Try.isAgg34
  z32 := Try.sizeOf34
  v32 := Try.zeroValue34
  t35 := Try.underlying104
  a35 := Try.isAgg104
  z35 := Try.sizeOf104
  v35 := Try.zeroValue104
  t36 := Try.underlying105
  a36 := Try.isAgg105
  z36 := Try.sizeOf105
  v36 := Try.zeroValue105
  t41 := Try.underlying46
  a41 := Try.isAgg46
  z41 := Try.sizeOf46
  v41 := Try.zeroValue46
  t44 := Try.underlying111
  a44 := Try.isAgg111
  z44 := Try.sizeOf111
  v44 := Try.zeroValue111
  t46 := Try.underlying38
  a46 := Try.isAgg38
  z46 := Try.sizeOf38
  v46 := Try.zeroValue38
  t53 := Try.underlying118
  a53 := Try.isAgg118
  z53 := Try.sizeOf118
  v53 := Try.zeroValue118
  t57 := Try.underlying121
  a57 := Try.isAgg121
  z57 := Try.sizeOf121
  v57 := Try.zeroValue121
  t63 := Try.underlying123
  a63 := Try.isAgg123
  z63 := Try.sizeOf123
  v63 := Try.zeroValue123
  t64 := Try.underlying124
  a64 := Try.isAgg124
  z64 := Try.sizeOf124
  v64 := Try.zeroValue124 }
def Try.lays194_ren : Go.Shelf.Ren := ⟨fun | 194 => 20 | n => n, fun | 31 => 22 | 9 => 9 | 3 => 3 | 4 => 4 | 0 => 0 | n => n, fun | n => n⟩
theorem Try.lays194 : Go.Proofs.Lays.n194 Try.prog Try.lays194_ren := {
  mixed := by kernel_rfl
  f194 := Try.func20.trans (congrArg some (by kernel_rfl))
  t0 := Try.underlying0
  a0 := Try.isAgg0
  z0 := Try.sizeOf0
  v0 := Try.zeroValue0
  t3 := Try.underlying3
  a3 := Try.isAgg3
  z3 := Try.sizeOf3
  v3 := Try.zeroValue3
  t4 := Try.underlying4
  a4 := Try.isAgg4
  z4 := Try.sizeOf4
  v4 := Try.zeroValue4
  t9 := Try.underlying9
  a9 := Try.isAgg9
  z9 := Try.sizeOf9
  v9 := Try.zeroValue9
  t31 := Try.underlying22
  a31 := Try.isAgg22
  z31 := Try.sizeOf22
  v31 := Try.zeroValue22 }
end Go.Proofs
