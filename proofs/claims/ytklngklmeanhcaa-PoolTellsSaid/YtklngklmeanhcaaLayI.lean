/- Contracts of the shelf's structures at this program: the numbers of the library's functions and types, checked field by field by the kernel. Made by a program of this seat (wip/lay.py). -/
import Derived.Shelf.Lay
import Derived.Shelf.Lays
import Derived.Test.YtklngklmeanhcaaProg
import Derived.KernelRfl
namespace Go.Proofs
open Go.Shelf
def Try.srtI_ren : Go.Shelf.Ren := ⟨fun | 189 => 70 | 125 => 88 | 257 => 87 | 128 => 111 | 129 => 112 | 294 => 102 | 295 => 103 | 296 => 104 | 297 => 105 | 298 => 106 | 299 => 107 | 216 => 108 | 300 => 109 | 301 => 110 | 328 => 124 | 329 => 125 | 330 => 126 | 331 => 127 | 332 => 128 | 215 => 86 | 343 => 143 | n => n, fun | 28 => 62 | 3 => 3 | 46 => 129 | 0 => 0 | 51 => 150 | 53 => 23 | 4 => 4 | 183 => 143 | 182 => 142 | 131 => 36 | 5 => 5 | 9 => 9 | 218 => 160 | 222 => 164 | 228 => 182 | 229 => 183 | n => n, fun | n => n⟩
theorem Try.srtI : Go.Proofs.Lays.n189 Try.prog Try.srtI_ren := {
  mixed := by kernel_rfl
  f125 := Try.func88.trans (congrArg some (by kernel_rfl))
  f128 := Try.func111.trans (congrArg some (by kernel_rfl))
  f129 := Try.func112.trans (congrArg some (by kernel_rfl))
  f189 := Try.func70.trans (congrArg some (by kernel_rfl))
  f215 := Try.func86.trans (congrArg some (by kernel_rfl))
  f216 := Try.func108.trans (congrArg some (by kernel_rfl))
  f257 := Try.func87.trans (congrArg some (by kernel_rfl))
  f294 := Try.func102.trans (congrArg some (by kernel_rfl))
  f295 := Try.func103.trans (congrArg some (by kernel_rfl))
  f296 := Try.func104.trans (congrArg some (by kernel_rfl))
  f297 := Try.func105.trans (congrArg some (by kernel_rfl))
  f298 := Try.func106.trans (congrArg some (by kernel_rfl))
  f299 := Try.func107.trans (congrArg some (by kernel_rfl))
  f300 := Try.func109.trans (congrArg some (by kernel_rfl))
  f301 := Try.func110.trans (congrArg some (by kernel_rfl))
  f328 := Try.func124.trans (congrArg some (by kernel_rfl))
  f329 := Try.func125.trans (congrArg some (by kernel_rfl))
  f330 := Try.func126.trans (congrArg some (by kernel_rfl))
  f331 := Try.func127.trans (congrArg some (by kernel_rfl))
  f332 := Try.func128.trans (congrArg some (by kernel_rfl))
  f343 := Try.func143.trans (congrArg some (by kernel_rfl))
  t0 := Try.underlying0
  a0 := Try.isAgg0
  z0 := Try.sizeOf0
  v0 := Try.zeroValue0
  t3 := Try.underlying3
  a3 := Try.isAgg3
  z3 := Try.sizeOf3
  v3 := Try.zeroValue3
  t4 := Try.underlying4
  a4 := Try.isAgg4
  z4 := Try.sizeOf4
  v4 := Try.zeroValue4
  t5 := Try.underlying5
  a5 := Try.isAgg5
  z5 := Try.sizeOf5
  v5 := Try.zeroValue5
  t9 := Try.underlying9
  a9 := Try.isAgg9
  z9 := Try.sizeOf9
  v9 := Try.zeroValue9
  t28 := Try.underlying62
  a28 := Try.isAgg62
  z28 := Try.sizeOf62
  v28 := Try.zeroValue62
  t46 := Try.underlying129
  a46 := Try.isAgg129
  z46 := Try.sizeOf129
  v46 := Try.zeroValue129
  t51 := Try.underlying150
  a51 := Try.isAgg150
  z51 := Try.sizeOf150
  v51 := Try.zeroValue150
  t53 := Try.underlying23
  a53 := Try.isAgg23
  z53 := Try.sizeOf23
  v53 := Try.zeroValue23
  t131 := Try.underlying36
  a131 := Try.isAgg36
  z131 := Try.sizeOf36
  v131 := Try.zeroValue36
  t182 := Try.underlying142
  a182 := Try.isAgg142
  z182 := Try.sizeOf142
  v182 := Try.zeroValue142
  t183 := Try.underlying143
  a183 := Try.isAgg143
  z183 := Try.sizeOf143
  v183 := Try.zeroValue143
  t218 := Try.underlying160
  a218 := Try.isAgg160
  z218 := Try.sizeOf160
  v218 := Try.zeroValue160
  t222 := Try.underlying164
  a222 := Try.isAgg164
  z222 := Try.sizeOf164
  v222 := Try.zeroValue164
  t228 := Try.underlying182
  a228 := Try.isAgg182
  z228 := Try.sizeOf182
  v228 := Try.zeroValue182
  t229 := Try.underlying183
  a229 := Try.isAgg183
  z229 := Try.sizeOf183
  v229 := Try.zeroValue183
}
end Go.Proofs
