/-
  DERIVED: THE SHELF's CONTRACTS AT THIS DUMP, IN PLAIN WORDS (tools/lay-plain.mjs out of 'YtfeljngmidhajaaShelfT.lean', which tools/lay-shelf.mjs wrote): THE SAME DECLARATIONS UNDER THE SAME NAMES: 'import', 'namespace', 'open', 'def', 'theorem' AND NOTHING ELSE: no command of the shelf's: FOR A HAND-IN. Each laying: the table of numbers ('.._ren') and one theorem, a field a fact of the dump's own or the kernel's comparison; each contract: ONE APPLICATION.
-/
import Derived.Shelf.SlLaysF0
import Derived.Ground.SlsfProg
import Derived.Test.YtfeljngmidhajaaProg
namespace Go.Proofs
open Go.Shelf
def Try.sortCh_ren : Go.Shelf.Ren := ⟨fun | 6 => 40 | 15 => 74 | 14 => 73 | 28 => 107 | 29 => 108 | 20 => 99 | 21 => 100 | 22 => 101 | 23 => 102 | 24 => 103 | 25 => 104 | 26 => 105 | 27 => 106 | 46 => 117 | 47 => 118 | 48 => 119 | 49 => 120 | 50 => 121 | 57 => 122 | n => n, fun | 22 => 22 | 24 => 31 | 25 => 69 | 3 => 3 | 39 => 101 | 0 => 0 | 53 => 29 | 55 => 78 | 4 => 4 | 46 => 137 | 45 => 136 | 50 => 141 | 5 => 5 | 9 => 9 | 66 => 150 | 70 => 154 | 76 => 156 | 77 => 157 | n => n, fun | n => n⟩
theorem Try.sortCh : Go.Proofs.SlLaysF0.n6 Try.prog Try.sortCh_ren := {
  mixed := by kernel_rfl
  f6 := ⟨Try.f40.name, by decide, Try.func40.trans (congrArg some (by kernel_rfl))⟩
  f14 := ⟨Try.f73.name, by decide, Try.func73.trans (congrArg some (by kernel_rfl))⟩
  f15 := Try.func74.trans (congrArg some (by kernel_rfl))
  f20 := ⟨Try.f99.name, by decide, Try.func99.trans (congrArg some (by kernel_rfl))⟩
  f21 := ⟨Try.f100.name, by decide, Try.func100.trans (congrArg some (by kernel_rfl))⟩
  f22 := ⟨Try.f101.name, by decide, Try.func101.trans (congrArg some (by kernel_rfl))⟩
  f23 := ⟨Try.f102.name, by decide, Try.func102.trans (congrArg some (by kernel_rfl))⟩
  f24 := ⟨Try.f103.name, by decide, Try.func103.trans (congrArg some (by kernel_rfl))⟩
  f25 := ⟨Try.f104.name, by decide, Try.func104.trans (congrArg some (by kernel_rfl))⟩
  f26 := ⟨Try.f105.name, by decide, Try.func105.trans (congrArg some (by kernel_rfl))⟩
  f27 := ⟨Try.f106.name, by decide, Try.func106.trans (congrArg some (by kernel_rfl))⟩
  f28 := Try.func107.trans (congrArg some (by kernel_rfl))
  f29 := Try.func108.trans (congrArg some (by kernel_rfl))
  f46 := ⟨Try.f117.name, by decide, Try.func117.trans (congrArg some (by kernel_rfl))⟩
  f47 := Try.func118.trans (congrArg some (by kernel_rfl))
  f48 := Try.func119.trans (congrArg some (by kernel_rfl))
  f49 := ⟨Try.f120.name, by decide, Try.func120.trans (congrArg some (by kernel_rfl))⟩
  f50 := ⟨Try.f121.name, by decide, Try.func121.trans (congrArg some (by kernel_rfl))⟩
  f57 := ⟨Try.f122.name, by decide, Try.func122.trans (congrArg some (by kernel_rfl))⟩
  t0 := Try.underlying0
  a0 := Try.isAgg0
  z0 := Try.sizeOf0
  v0 := Try.zeroValue0
  t3 := Try.underlying3
  a3 := Try.isAgg3
  z3 := Try.sizeOf3
  v3 := Try.zeroValue3
  t4 := Try.underlying4
  a4 := Try.isAgg4
  z4 := Try.sizeOf4
  v4 := Try.zeroValue4
  t5 := Try.underlying5
  a5 := Try.isAgg5
  z5 := Try.sizeOf5
  v5 := Try.zeroValue5
  t9 := Try.underlying9
  a9 := Try.isAgg9
  z9 := Try.sizeOf9
  v9 := Try.zeroValue9
  t22 := Try.underlying22
  a22 := Try.isAgg22
  z22 := Try.sizeOf22
  v22 := Try.zeroValue22
  t25 := Try.underlying69
  a25 := Try.isAgg69
  z25 := Try.sizeOf69
  v25 := Try.zeroValue69
  t39 := Try.underlying101
  a39 := Try.isAgg101
  z39 := Try.sizeOf101
  v39 := Try.zeroValue101
  t45 := Try.underlying136
  a45 := Try.isAgg136
  z45 := Try.sizeOf136
  v45 := Try.zeroValue136
  t46 := Try.underlying137
  a46 := Try.isAgg137
  z46 := Try.sizeOf137
  v46 := Try.zeroValue137
  t50 := Try.underlying141
  a50 := Try.isAgg141
  z50 := Try.sizeOf141
  v50 := Try.zeroValue141
  t53 := Try.underlying29
  a53 := Try.isAgg29
  z53 := Try.sizeOf29
  v53 := Try.zeroValue29
  t55 := Try.underlying78
  a55 := Try.isAgg78
  z55 := Try.sizeOf78
  v55 := Try.zeroValue78
  t66 := Try.underlying150
  a66 := Try.isAgg150
  z66 := Try.sizeOf150
  v66 := Try.zeroValue150
  t70 := Try.underlying154
  a70 := Try.isAgg154
  z70 := Try.sizeOf154
  v70 := Try.zeroValue154
  t76 := Try.underlying156
  a76 := Try.isAgg156
  z76 := Try.sizeOf156
  v76 := Try.zeroValue156
  t77 := Try.underlying157
  a77 := Try.isAgg157
  z77 := Try.sizeOf157
  v77 := Try.zeroValue157 }
end Go.Proofs
