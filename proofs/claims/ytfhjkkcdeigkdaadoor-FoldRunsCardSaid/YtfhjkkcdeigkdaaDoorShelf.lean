/- The library's functions at this translation: the shelf's layings in plain words (wip/lay_all.py). -/
import Derived.Shelf.Small.Bits
import Derived.Shelf.Strconv.Itoa0
import Derived.Ground.Names2Prog
import Derived.Shelf.Slices.CompactI
import Derived.Shelf.Slices.SearchI
import Derived.Shelf.Slices.Cells
import Derived.Shelf.Slices.In.SortNone
import Derived.Ground.SlgnProg
import Derived.Shelf.SlicesE.Compact
import Derived.Ground.SlgmProg
import Derived.Shelf.SortM.Plain
import Derived.Test.YtfhjkkcdeigkdaaDoorProg
namespace Go.Proofs
open Go.Shelf
def Tryd.laysNm220_ren : Go.Shelf.Ren := ⟨fun | 20 => 49 | n => n, fun | 22 => 71 | 3 => 3 | 4 => 4 | 0 => 0 | n => n, fun | n => n⟩
theorem Tryd.laysNm220 : Go.Proofs.Lays2.n20 Tryd.prog Tryd.laysNm220_ren := {
  mixed := by kernel_rfl
  f20 := Tryd.func49.trans (congrArg some (by kernel_rfl))
  t0 := Tryd.underlying0
  a0 := Tryd.isAgg0
  z0 := Tryd.sizeOf0
  v0 := Tryd.zeroValue0
  t3 := Tryd.underlying3
  a3 := Tryd.isAgg3
  z3 := Tryd.sizeOf3
  v3 := Tryd.zeroValue3
  t4 := Tryd.underlying4
  a4 := Tryd.isAgg4
  z4 := Tryd.sizeOf4
  v4 := Tryd.zeroValue4
  t22 := Tryd.underlying71
  a22 := Tryd.isAgg71
  z22 := Tryd.sizeOf71
  v22 := Tryd.zeroValue71
  i3 := by kernel_rfl }
open Go.RowKit Go.Lib Go.Sort in
/-- slices.Compact at []int: "Compact replaces consecutive runs of equal elements with a single copy. This is like the uniq command found on Unix. Compact modifies the contents of the slice s and returns the modified slice, which may have a smaller length. Compact zeroes the elements between the new length and the original length. The result preserves the nilness of s.": IT RETURNS THE SLICE CUT TO 'Lib.compact zs'; ITS CELLS HOLD 'Lib.compact zs', THEN ZERO VALUES up to the old length; all else is as it was, but for the count of draws. IN THE WORDS OF slices.Sort's CONTRACT ('Holds', 'putRow'): so the everyday 'slices.Sort(xs); xs = slices.Compact(xs)' goes from the one contract to the other. It asks 'zs.length ≤ cap' (every slice's: the reslicing 's[:k]' looks at it). Length 0, nil: '.._empty'. (LAID: no walk: one application.) -/
theorem Tryd.slices_Compact_int (blk off cap : Nat) (zs : List Int) (w : World) (hH : Holds (Value.int .i64) w blk off zs.toArray) (hsz : zs.length ≤ 9223372036854775807) (hcap : zs.length ≤ cap) :
    Calls Tryd.prog 49 #[.slice (some ⟨blk, off, none⟩) zs.length cap] w fun e w' => e = .returned (.slice (some ⟨blk, off, none⟩) (Lib.compact zs).length cap) ∧ ∃ q, w' = putRow (Value.int .i64) (Sort.ahead w q) blk off (Lib.compact zs ++ List.replicate (zs.length - (Lib.compact zs).length) 0).toArray := Any.slices_Compact_int Tryd.laysNm220 blk off cap zs w hH hsz hcap
open Go.RowKit Go.Lib Go.Sort in
/-- The same at a slice of length 0, a nil one too: it comes back as it is. (LAID: no walk: one application.) -/
theorem Tryd.slices_Compact_int_empty (a : Option Addr) (cap : Nat) (w : World) :
    Calls Tryd.prog 49 #[.slice a 0 cap] w fun e w' => e = .returned (.slice a 0 cap) ∧ w' = w := Any.slices_Compact_int_empty Tryd.laysNm220 a cap w
def Tryd.lays189_ren : Go.Shelf.Ren := ⟨fun | 189 => 48 | 125 => 55 | 257 => 54 | 128 => 89 | 129 => 90 | 294 => 80 | 295 => 81 | 296 => 82 | 297 => 83 | 298 => 84 | 299 => 85 | 216 => 86 | 300 => 87 | 301 => 88 | 328 => 91 | 329 => 92 | 330 => 93 | 331 => 94 | 332 => 95 | 215 => 96 | 343 => 97 | n => n, fun | 28 => 71 | 3 => 3 | 46 => 105 | 0 => 0 | 51 => 123 | 53 => 109 | 4 => 4 | 183 => 115 | 182 => 114 | 131 => 120 | 5 => 5 | 9 => 9 | 218 => 125 | 222 => 129 | 228 => 132 | 229 => 133 | n => n, fun | n => n⟩
theorem Tryd.lays189 : Go.Proofs.Lays.n189 Tryd.prog Tryd.lays189_ren := {
  mixed := by kernel_rfl
  f125 := Tryd.func55.trans (congrArg some (by kernel_rfl))
  f128 := Tryd.func89.trans (congrArg some (by kernel_rfl))
  f129 := Tryd.func90.trans (congrArg some (by kernel_rfl))
  f189 := Tryd.func48.trans (congrArg some (by kernel_rfl))
  f215 := Tryd.func96.trans (congrArg some (by kernel_rfl))
  f216 := Tryd.func86.trans (congrArg some (by kernel_rfl))
  f257 := Tryd.func54.trans (congrArg some (by kernel_rfl))
  f294 := Tryd.func80.trans (congrArg some (by kernel_rfl))
  f295 := Tryd.func81.trans (congrArg some (by kernel_rfl))
  f296 := Tryd.func82.trans (congrArg some (by kernel_rfl))
  f297 := Tryd.func83.trans (congrArg some (by kernel_rfl))
  f298 := Tryd.func84.trans (congrArg some (by kernel_rfl))
  f299 := Tryd.func85.trans (congrArg some (by kernel_rfl))
  f300 := Tryd.func87.trans (congrArg some (by kernel_rfl))
  f301 := Tryd.func88.trans (congrArg some (by kernel_rfl))
  f328 := Tryd.func91.trans (congrArg some (by kernel_rfl))
  f329 := Tryd.func92.trans (congrArg some (by kernel_rfl))
  f330 := Tryd.func93.trans (congrArg some (by kernel_rfl))
  f331 := Tryd.func94.trans (congrArg some (by kernel_rfl))
  f332 := Tryd.func95.trans (congrArg some (by kernel_rfl))
  f343 := Tryd.func97.trans (congrArg some (by kernel_rfl))
  t0 := Tryd.underlying0
  a0 := Tryd.isAgg0
  z0 := Tryd.sizeOf0
  v0 := Tryd.zeroValue0
  t3 := Tryd.underlying3
  a3 := Tryd.isAgg3
  z3 := Tryd.sizeOf3
  v3 := Tryd.zeroValue3
  t4 := Tryd.underlying4
  a4 := Tryd.isAgg4
  z4 := Tryd.sizeOf4
  v4 := Tryd.zeroValue4
  t5 := Tryd.underlying5
  a5 := Tryd.isAgg5
  z5 := Tryd.sizeOf5
  v5 := Tryd.zeroValue5
  t9 := Tryd.underlying9
  a9 := Tryd.isAgg9
  z9 := Tryd.sizeOf9
  v9 := Tryd.zeroValue9
  t28 := Tryd.underlying71
  a28 := Tryd.isAgg71
  z28 := Tryd.sizeOf71
  v28 := Tryd.zeroValue71
  t46 := Tryd.underlying105
  a46 := Tryd.isAgg105
  z46 := Tryd.sizeOf105
  v46 := Tryd.zeroValue105
  t51 := Tryd.underlying123
  a51 := Tryd.isAgg123
  z51 := Tryd.sizeOf123
  v51 := Tryd.zeroValue123
  t53 := Tryd.underlying109
  a53 := Tryd.isAgg109
  z53 := Tryd.sizeOf109
  v53 := Tryd.zeroValue109
  t131 := Tryd.underlying120
  a131 := Tryd.isAgg120
  z131 := Tryd.sizeOf120
  v131 := Tryd.zeroValue120
  t182 := Tryd.underlying114
  a182 := Tryd.isAgg114
  z182 := Tryd.sizeOf114
  v182 := Tryd.zeroValue114
  t183 := Tryd.underlying115
  a183 := Tryd.isAgg115
  z183 := Tryd.sizeOf115
  v183 := Tryd.zeroValue115
  t218 := Tryd.underlying125
  a218 := Tryd.isAgg125
  z218 := Tryd.sizeOf125
  v218 := Tryd.zeroValue125
  t222 := Tryd.underlying129
  a222 := Tryd.isAgg129
  z222 := Tryd.sizeOf129
  v222 := Tryd.zeroValue129
  t228 := Tryd.underlying132
  a228 := Tryd.isAgg132
  z228 := Tryd.sizeOf132
  v228 := Tryd.zeroValue132
  t229 := Tryd.underlying133
  a229 := Tryd.isAgg133
  z229 := Tryd.sizeOf133
  v229 := Tryd.zeroValue133 }
open Go.RowKit Go.Sort in
/-- .. and plain. (LAID: no walk: one application.) -/
theorem Tryd.slices_Sort_int_none (p : Option Addr) (cap : Nat) (w : World) :
    Calls Tryd.prog 48 #[.slice p 0 cap] w fun e w' => e = .returned (.tuple #[]) ∧ w' = w := Any.slices_Sort_int_none Tryd.lays189 p cap w
def Tryd.laysSlM5_f48_ren : Go.Shelf.Ren := ⟨fun | 5 => 48 | 8 => 55 | 7 => 54 | 19 => 89 | 20 => 90 | 10 => 80 | 11 => 81 | 12 => 82 | 13 => 83 | 14 => 84 | 15 => 85 | 16 => 86 | 17 => 87 | 18 => 88 | 30 => 91 | 31 => 92 | 32 => 93 | 33 => 94 | 34 => 95 | 35 => 96 | 40 => 97 | n => n, fun | 23 => 71 | 25 => 3 | 3 => 3 | 32 => 105 | 22 => 71 | 0 => 0 | 44 => 123 | 46 => 109 | 4 => 4 | 36 => 115 | 35 => 114 | 41 => 120 | 5 => 5 | 9 => 9 | 53 => 125 | 57 => 129 | 63 => 132 | 64 => 133 | n => n, fun | n => n⟩
theorem Tryd.laysSlM5_f48 : Go.Proofs.SlLaysM.n5 Tryd.prog Tryd.laysSlM5_f48_ren := {
  mixed := by kernel_rfl
  f5 := ⟨Tryd.f48.name, by decide, Tryd.func48.trans (congrArg some (by kernel_rfl))⟩
  f7 := ⟨Tryd.f54.name, by decide, Tryd.func54.trans (congrArg some (by kernel_rfl))⟩
  f8 := Tryd.func55.trans (congrArg some (by kernel_rfl))
  f10 := ⟨Tryd.f80.name, by decide, Tryd.func80.trans (congrArg some (by kernel_rfl))⟩
  f11 := ⟨Tryd.f81.name, by decide, Tryd.func81.trans (congrArg some (by kernel_rfl))⟩
  f12 := ⟨Tryd.f82.name, by decide, Tryd.func82.trans (congrArg some (by kernel_rfl))⟩
  f13 := ⟨Tryd.f83.name, by decide, Tryd.func83.trans (congrArg some (by kernel_rfl))⟩
  f14 := ⟨Tryd.f84.name, by decide, Tryd.func84.trans (congrArg some (by kernel_rfl))⟩
  f15 := ⟨Tryd.f85.name, by decide, Tryd.func85.trans (congrArg some (by kernel_rfl))⟩
  f16 := ⟨Tryd.f86.name, by decide, Tryd.func86.trans (congrArg some (by kernel_rfl))⟩
  f17 := ⟨Tryd.f87.name, by decide, Tryd.func87.trans (congrArg some (by kernel_rfl))⟩
  f18 := ⟨Tryd.f88.name, by decide, Tryd.func88.trans (congrArg some (by kernel_rfl))⟩
  f19 := Tryd.func89.trans (congrArg some (by kernel_rfl))
  f20 := Tryd.func90.trans (congrArg some (by kernel_rfl))
  f30 := ⟨Tryd.f91.name, by decide, Tryd.func91.trans (congrArg some (by kernel_rfl))⟩
  f31 := Tryd.func92.trans (congrArg some (by kernel_rfl))
  f32 := Tryd.func93.trans (congrArg some (by kernel_rfl))
  f33 := ⟨Tryd.f94.name, by decide, Tryd.func94.trans (congrArg some (by kernel_rfl))⟩
  f34 := ⟨Tryd.f95.name, by decide, Tryd.func95.trans (congrArg some (by kernel_rfl))⟩
  f35 := ⟨Tryd.f96.name, by decide, Tryd.func96.trans (congrArg some (by kernel_rfl))⟩
  f40 := ⟨Tryd.f97.name, by decide, Tryd.func97.trans (congrArg some (by kernel_rfl))⟩
  t0 := Tryd.underlying0
  a0 := Tryd.isAgg0
  z0 := Tryd.sizeOf0
  v0 := Tryd.zeroValue0
  t3 := Tryd.underlying3
  a3 := Tryd.isAgg3
  z3 := Tryd.sizeOf3
  v3 := Tryd.zeroValue3
  t4 := Tryd.underlying4
  a4 := Tryd.isAgg4
  z4 := Tryd.sizeOf4
  v4 := Tryd.zeroValue4
  t5 := Tryd.underlying5
  a5 := Tryd.isAgg5
  z5 := Tryd.sizeOf5
  v5 := Tryd.zeroValue5
  t9 := Tryd.underlying9
  a9 := Tryd.isAgg9
  z9 := Tryd.sizeOf9
  v9 := Tryd.zeroValue9
  t22 := Tryd.underlying71
  a22 := Tryd.isAgg71
  z22 := Tryd.sizeOf71
  v22 := Tryd.zeroValue71
  t23 := Tryd.underlying71
  a23 := Tryd.isAgg71
  z23 := Tryd.sizeOf71
  v23 := Tryd.zeroValue71
  t25 := Tryd.underlying3
  a25 := Tryd.isAgg3
  z25 := Tryd.sizeOf3
  v25 := Tryd.zeroValue3
  t32 := Tryd.underlying105
  a32 := Tryd.isAgg105
  z32 := Tryd.sizeOf105
  v32 := Tryd.zeroValue105
  t35 := Tryd.underlying114
  a35 := Tryd.isAgg114
  z35 := Tryd.sizeOf114
  v35 := Tryd.zeroValue114
  t36 := Tryd.underlying115
  a36 := Tryd.isAgg115
  z36 := Tryd.sizeOf115
  v36 := Tryd.zeroValue115
  t41 := Tryd.underlying120
  a41 := Tryd.isAgg120
  z41 := Tryd.sizeOf120
  v41 := Tryd.zeroValue120
  t44 := Tryd.underlying123
  a44 := Tryd.isAgg123
  z44 := Tryd.sizeOf123
  v44 := Tryd.zeroValue123
  t46 := Tryd.underlying109
  a46 := Tryd.isAgg109
  z46 := Tryd.sizeOf109
  v46 := Tryd.zeroValue109
  t53 := Tryd.underlying125
  a53 := Tryd.isAgg125
  z53 := Tryd.sizeOf125
  v53 := Tryd.zeroValue125
  t57 := Tryd.underlying129
  a57 := Tryd.isAgg129
  z57 := Tryd.sizeOf129
  v57 := Tryd.zeroValue129
  t63 := Tryd.underlying132
  a63 := Tryd.isAgg132
  z63 := Tryd.sizeOf132
  v63 := Tryd.zeroValue132
  t64 := Tryd.underlying133
  a64 := Tryd.isAgg133
  z64 := Tryd.sizeOf133
  v64 := Tryd.zeroValue133 }
open Go.Sort Go.RowKit in
theorem Tryd.slices_Sort_int (blk off cap : Nat) (zs : List Int) (w : World) (hH : Holds (Value.int .i64) w blk off zs.toArray) (hblk : blk < w.heap.size) (hsz : zs.length < 4611686018427387904) :
    Calls Tryd.prog 48 #[.slice (some ⟨blk, off, none⟩) zs.length cap] w fun e w' =>
      e = .returned (.tuple #[]) ∧ ∃ n os, w' = grow (putRow (Value.int .i64) (Sort.ahead w n) blk off (zs.mergeSort fun x y => decide (x ≤ y)).toArray) os := AnyM.slices_Sort_int Tryd.laysSlM5_f48 blk off cap zs w hH hblk hsz
end Go.Proofs
