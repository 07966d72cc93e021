
/-
  DERIVED: THE SHELF's CONTRACTS AT THIS DUMP, IN PLAIN WORDS (tools/lay-plain.mjs out of 'YtpmifpblamjclaaLayH.lean', which tools/lay-shelf.mjs wrote): THE SAME DECLARATIONS UNDER THE SAME NAMES: 'import', 'namespace', 'open', 'def', 'theorem' AND NOTHING ELSE: no command of the shelf's: FOR A HAND-IN. Each laying: the table of numbers ('.._ren') and one theorem, a field a fact of the dump's own or the kernel's comparison; each contract: ONE APPLICATION.
-/
import Derived.Shelf.SlIter.Nil

import Derived.Shelf.SlMaps.Clone

import Derived.Shelf.SortM.Plain

import Derived.Shelf.SortM.SortNone

import Derived.Ground.GgzProg

import Derived.Ground.SlgmProg

import Derived.Ground.SlmcProg

import Derived.Shelf.SlGeneric

import Derived.Test.YtpmifpblamjclaaProg

namespace Go.Proofs

open Go.Shelf

def Try.keys37_ren : Go.Shelf.Ren := ⟨fun | 7 => 37 | 10 => 50 | n => n, fun | 23 => 66 | 26 => 9 | 3 => 72 | 28 => 82 | 0 => 0 | 27 => 81 | 33 => 71 | 4 => 4 | n => n, fun | n => n⟩
theorem Try.keys37 : Go.Proofs.SlLaysZ.n7 Try.prog Try.keys37_ren := {
  mixed := by kernel_rfl
  f7 := ⟨Try.f37.name, by decide, Try.func37.trans (congrArg some (by kernel_rfl))⟩
  f10 := ⟨Try.f50.name, by decide, Try.func50.trans (congrArg some (by kernel_rfl))⟩
  t0 := Try.underlying0
  a0 := Try.isAgg0
  z0 := Try.sizeOf0
  v0 := Try.zeroValue0
  t4 := Try.underlying4
  a4 := Try.isAgg4
  z4 := Try.sizeOf4
  v4 := Try.zeroValue4
  t23 := Try.underlying66
  a23 := Try.isAgg66
  z23 := Try.sizeOf66
  v23 := Try.zeroValue66
  t26 := Try.underlying9
  a26 := Try.isAgg9
  z26 := Try.sizeOf9
  v26 := Try.zeroValue9
  t27 := Try.underlying81
  a27 := Try.isAgg81
  z27 := Try.sizeOf81
  v27 := Try.zeroValue81
  t28 := Try.underlying82
  a28 := Try.isAgg82
  z28 := Try.sizeOf82
  v28 := Try.zeroValue82
  t33 := Try.underlying71
  a33 := Try.isAgg71
  z33 := Try.sizeOf71
  v33 := Try.zeroValue71 }
def Try.sorted36_ren : Go.Shelf.Ren := ⟨fun | 6 => 36 | 8 => 48 | 9 => 49 | 11 => 52 | 13 => 54 | 12 => 53 | 23 => 64 | 24 => 65 | 14 => 55 | 15 => 56 | 16 => 57 | 17 => 58 | 18 => 59 | 19 => 60 | 20 => 61 | 21 => 62 | 22 => 63 | 25 => 66 | 26 => 67 | 27 => 68 | 28 => 69 | 29 => 70 | 30 => 71 | 31 => 72 | n => n, fun | 26 => 9 | 28 => 82 | 24 => 30 | 0 => 0 | 3 => 3 | 37 => 105 | 48 => 116 | 50 => 118 | 4 => 4 | 40 => 108 | 39 => 107 | 45 => 113 | 5 => 5 | 9 => 9 | 51 => 119 | 55 => 123 | 57 => 125 | 58 => 126 | 33 => 71 | n => n, fun | n => n⟩
theorem Try.sorted36 : Go.Proofs.SlLaysZ.n6 Try.prog Try.sorted36_ren := {
  mixed := by kernel_rfl
  f6 := ⟨Try.f36.name, by decide, Try.func36.trans (congrArg some (by kernel_rfl))⟩
  f8 := ⟨Try.f48.name, by decide, Try.func48.trans (congrArg some (by kernel_rfl))⟩
  f11 := ⟨Try.f52.name, by decide, Try.func52.trans (congrArg some (by kernel_rfl))⟩
  t0 := Try.underlying0
  a0 := Try.isAgg0
  z0 := Try.sizeOf0
  v0 := Try.zeroValue0
  t24 := Try.underlying30
  a24 := Try.isAgg30
  z24 := Try.sizeOf30
  v24 := Try.zeroValue30
  t26 := Try.underlying9
  a26 := Try.isAgg9
  z26 := Try.sizeOf9
  v26 := Try.zeroValue9
  t28 := Try.underlying82
  a28 := Try.isAgg82
  z28 := Try.sizeOf82
  v28 := Try.zeroValue82
  i26 := by kernel_rfl }
def Try.sort49_ren : Go.Shelf.Ren := ⟨fun | 6 => 49 | 8 => 54 | 9 => 53 | 19 => 64 | 20 => 65 | 21 => 55 | 22 => 56 | 23 => 57 | 24 => 58 | 25 => 59 | 26 => 60 | 27 => 61 | 28 => 62 | 29 => 63 | 36 => 66 | 31 => 67 | 32 => 68 | 37 => 69 | 38 => 70 | 39 => 71 | 41 => 72 | n => n, fun | 27 => 30 | 29 => 9 | 3 => 3 | 32 => 105 | 26 => 30 | 0 => 0 | 44 => 116 | 46 => 118 | 4 => 4 | 36 => 108 | 35 => 107 | 41 => 113 | 5 => 5 | 9 => 9 | 53 => 119 | 57 => 123 | 63 => 125 | 64 => 126 | n => n, fun | n => n⟩
theorem Try.sort49 : Go.Proofs.SlLaysM.n6 Try.prog Try.sort49_ren := {
  mixed := by kernel_rfl
  f6 := ⟨Try.f49.name, by decide, Try.func49.trans (congrArg some (by kernel_rfl))⟩
  f8 := Try.func54.trans (congrArg some (by kernel_rfl))
  f9 := ⟨Try.f53.name, by decide, Try.func53.trans (congrArg some (by kernel_rfl))⟩
  f19 := Try.func64.trans (congrArg some (by kernel_rfl))
  f20 := Try.func65.trans (congrArg some (by kernel_rfl))
  f21 := ⟨Try.f55.name, by decide, Try.func55.trans (congrArg some (by kernel_rfl))⟩
  f22 := ⟨Try.f56.name, by decide, Try.func56.trans (congrArg some (by kernel_rfl))⟩
  f23 := ⟨Try.f57.name, by decide, Try.func57.trans (congrArg some (by kernel_rfl))⟩
  f24 := ⟨Try.f58.name, by decide, Try.func58.trans (congrArg some (by kernel_rfl))⟩
  f25 := ⟨Try.f59.name, by decide, Try.func59.trans (congrArg some (by kernel_rfl))⟩
  f26 := ⟨Try.f60.name, by decide, Try.func60.trans (congrArg some (by kernel_rfl))⟩
  f27 := ⟨Try.f61.name, by decide, Try.func61.trans (congrArg some (by kernel_rfl))⟩
  f28 := ⟨Try.f62.name, by decide, Try.func62.trans (congrArg some (by kernel_rfl))⟩
  f29 := ⟨Try.f63.name, by decide, Try.func63.trans (congrArg some (by kernel_rfl))⟩
  f31 := Try.func67.trans (congrArg some (by kernel_rfl))
  f32 := Try.func68.trans (congrArg some (by kernel_rfl))
  f36 := ⟨Try.f66.name, by decide, Try.func66.trans (congrArg some (by kernel_rfl))⟩
  f37 := ⟨Try.f69.name, by decide, Try.func69.trans (congrArg some (by kernel_rfl))⟩
  f38 := ⟨Try.f70.name, by decide, Try.func70.trans (congrArg some (by kernel_rfl))⟩
  f39 := ⟨Try.f71.name, by decide, Try.func71.trans (congrArg some (by kernel_rfl))⟩
  f41 := ⟨Try.f72.name, by decide, Try.func72.trans (congrArg some (by kernel_rfl))⟩
  t0 := Try.underlying0
  a0 := Try.isAgg0
  z0 := Try.sizeOf0
  v0 := Try.zeroValue0
  t3 := Try.underlying3
  a3 := Try.isAgg3
  z3 := Try.sizeOf3
  v3 := Try.zeroValue3
  t4 := Try.underlying4
  a4 := Try.isAgg4
  z4 := Try.sizeOf4
  v4 := Try.zeroValue4
  t5 := Try.underlying5
  a5 := Try.isAgg5
  z5 := Try.sizeOf5
  v5 := Try.zeroValue5
  t9 := Try.underlying9
  a9 := Try.isAgg9
  z9 := Try.sizeOf9
  v9 := Try.zeroValue9
  t26 := Try.underlying30
  a26 := Try.isAgg30
  z26 := Try.sizeOf30
  v26 := Try.zeroValue30
  t27 := Try.underlying30
  a27 := Try.isAgg30
  z27 := Try.sizeOf30
  v27 := Try.zeroValue30
  t29 := Try.underlying9
  a29 := Try.isAgg9
  z29 := Try.sizeOf9
  v29 := Try.zeroValue9
  t32 := Try.underlying105
  a32 := Try.isAgg105
  z32 := Try.sizeOf105
  v32 := Try.zeroValue105
  t35 := Try.underlying107
  a35 := Try.isAgg107
  z35 := Try.sizeOf107
  v35 := Try.zeroValue107
  t36 := Try.underlying108
  a36 := Try.isAgg108
  z36 := Try.sizeOf108
  v36 := Try.zeroValue108
  t41 := Try.underlying113
  a41 := Try.isAgg113
  z41 := Try.sizeOf113
  v41 := Try.zeroValue113
  t44 := Try.underlying116
  a44 := Try.isAgg116
  z44 := Try.sizeOf116
  v44 := Try.zeroValue116
  t46 := Try.underlying118
  a46 := Try.isAgg118
  z46 := Try.sizeOf118
  v46 := Try.zeroValue118
  t53 := Try.underlying119
  a53 := Try.isAgg119
  z53 := Try.sizeOf119
  v53 := Try.zeroValue119
  t57 := Try.underlying123
  a57 := Try.isAgg123
  z57 := Try.sizeOf123
  v57 := Try.zeroValue123
  t63 := Try.underlying125
  a63 := Try.isAgg125
  z63 := Try.sizeOf125
  v63 := Try.zeroValue125
  t64 := Try.underlying126
  a64 := Try.isAgg126
  z64 := Try.sizeOf126
  v64 := Try.zeroValue126 }
def Try.clone34_ren : Go.Shelf.Ren := ⟨fun | 5 => 34 | 7 => 47 | n => n, fun | 23 => 66 | 25 => 9 | 3 => 72 | 4 => 4 | 20 => 20 | n => n, fun | n => n⟩
theorem Try.clone34 : Go.Proofs.SlLaysW.n5 Try.prog Try.clone34_ren := {
  mixed := by kernel_rfl
  f5 := ⟨Try.f34.name, by decide, Try.func34.trans (congrArg some (by kernel_rfl))⟩
  f7 := Try.func47.trans (congrArg some (by kernel_rfl))
  t4 := Try.underlying4
  a4 := Try.isAgg4
  z4 := Try.sizeOf4
  v4 := Try.zeroValue4
  t20 := Try.underlying20
  a20 := Try.isAgg20
  z20 := Try.sizeOf20
  v20 := Try.zeroValue20
  t23 := Try.underlying66
  a23 := Try.isAgg66
  z23 := Try.sizeOf66
  v23 := Try.zeroValue66 }
end Go.Proofs
