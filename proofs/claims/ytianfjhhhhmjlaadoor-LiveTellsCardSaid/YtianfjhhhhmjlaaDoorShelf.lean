/- The library's functions at this translation: the shelf's layings in plain words (wip/lay_all.py). -/
import Derived.Shelf.Small.Bits
import Derived.Shelf.Strconv.Itoa0
import Derived.Ground.Names2Prog
import Derived.Shelf.Slices.CompactI
import Derived.Shelf.Slices.In.SortNone
import Derived.Ground.SlgnProg
import Derived.Shelf.SlicesE.Compact
import Derived.Ground.SlgfProg
import Derived.Shelf.SlicesE.IndexFunc
import Derived.Shelf.SlicesE.DeleteFunc
import Derived.Ground.SlgmProg
import Derived.Shelf.SortM.Plain
import Derived.Test.YtianfjhhhhmjlaaDoorProg
namespace Go.Proofs
open Go.Shelf
def Tryd.laysNm220_ren : Go.Shelf.Ren := ⟨fun | 20 => 53 | n => n, fun | 22 => 36 | 3 => 3 | 4 => 4 | 0 => 0 | n => n, fun | n => n⟩
theorem Tryd.laysNm220 : Go.Proofs.Lays2.n20 Tryd.prog Tryd.laysNm220_ren := {
  mixed := by kernel_rfl
  f20 := Tryd.func53.trans (congrArg some (by kernel_rfl))
  t0 := Tryd.underlying0
  a0 := Tryd.isAgg0
  z0 := Tryd.sizeOf0
  v0 := Tryd.zeroValue0
  t3 := Tryd.underlying3
  a3 := Tryd.isAgg3
  z3 := Tryd.sizeOf3
  v3 := Tryd.zeroValue3
  t4 := Tryd.underlying4
  a4 := Tryd.isAgg4
  z4 := Tryd.sizeOf4
  v4 := Tryd.zeroValue4
  t22 := Tryd.underlying36
  a22 := Tryd.isAgg36
  z22 := Tryd.sizeOf36
  v22 := Tryd.zeroValue36
  i3 := by kernel_rfl }
open Go.RowKit Go.Lib Go.Sort in
/-- slices.Compact at []int: "Compact replaces consecutive runs of equal elements with a single copy. This is like the uniq command found on Unix. Compact modifies the contents of the slice s and returns the modified slice, which may have a smaller length. Compact zeroes the elements between the new length and the original length. The result preserves the nilness of s.": IT RETURNS THE SLICE CUT TO 'Lib.compact zs'; ITS CELLS HOLD 'Lib.compact zs', THEN ZERO VALUES up to the old length; all else is as it was, but for the count of draws. IN THE WORDS OF slices.Sort's CONTRACT ('Holds', 'putRow'): so the everyday 'slices.Sort(xs); xs = slices.Compact(xs)' goes from the one contract to the other. It asks 'zs.length ≤ cap' (every slice's: the reslicing 's[:k]' looks at it). Length 0, nil: '.._empty'. (LAID: no walk: one application.) -/
theorem Tryd.slices_Compact_int (blk off cap : Nat) (zs : List Int) (w : World) (hH : Holds (Value.int .i64) w blk off zs.toArray) (hsz : zs.length ≤ 9223372036854775807) (hcap : zs.length ≤ cap) :
    Calls Tryd.prog 53 #[.slice (some ⟨blk, off, none⟩) zs.length cap] w fun e w' => e = .returned (.slice (some ⟨blk, off, none⟩) (Lib.compact zs).length cap) ∧ ∃ q, w' = putRow (Value.int .i64) (Sort.ahead w q) blk off (Lib.compact zs ++ List.replicate (zs.length - (Lib.compact zs).length) 0).toArray := Any.slices_Compact_int Tryd.laysNm220 blk off cap zs w hH hsz hcap
open Go.RowKit Go.Lib Go.Sort in
/-- The same at a slice of length 0, a nil one too: it comes back as it is. (LAID: no walk: one application.) -/
theorem Tryd.slices_Compact_int_empty (a : Option Addr) (cap : Nat) (w : World) :
    Calls Tryd.prog 53 #[.slice a 0 cap] w fun e w' => e = .returned (.slice a 0 cap) ∧ w' = w := Any.slices_Compact_int_empty Tryd.laysNm220 a cap w
def Tryd.lays189_ren : Go.Shelf.Ren := ⟨fun | 189 => 49 | 125 => 57 | 257 => 56 | 128 => 68 | 129 => 69 | 294 => 59 | 295 => 60 | 296 => 61 | 297 => 62 | 298 => 63 | 299 => 64 | 216 => 65 | 300 => 66 | 301 => 67 | 328 => 70 | 329 => 71 | 330 => 72 | 331 => 73 | 332 => 74 | 215 => 75 | 343 => 76 | n => n, fun | 28 => 36 | 3 => 3 | 46 => 84 | 0 => 0 | 51 => 95 | 53 => 97 | 4 => 4 | 183 => 87 | 182 => 86 | 131 => 92 | 5 => 5 | 9 => 9 | 218 => 98 | 222 => 102 | 228 => 104 | 229 => 105 | n => n, fun | n => n⟩
theorem Tryd.lays189 : Go.Proofs.Lays.n189 Tryd.prog Tryd.lays189_ren := {
  mixed := by kernel_rfl
  f125 := Tryd.func57.trans (congrArg some (by kernel_rfl))
  f128 := Tryd.func68.trans (congrArg some (by kernel_rfl))
  f129 := Tryd.func69.trans (congrArg some (by kernel_rfl))
  f189 := Tryd.func49.trans (congrArg some (by kernel_rfl))
  f215 := Tryd.func75.trans (congrArg some (by kernel_rfl))
  f216 := Tryd.func65.trans (congrArg some (by kernel_rfl))
  f257 := Tryd.func56.trans (congrArg some (by kernel_rfl))
  f294 := Tryd.func59.trans (congrArg some (by kernel_rfl))
  f295 := Tryd.func60.trans (congrArg some (by kernel_rfl))
  f296 := Tryd.func61.trans (congrArg some (by kernel_rfl))
  f297 := Tryd.func62.trans (congrArg some (by kernel_rfl))
  f298 := Tryd.func63.trans (congrArg some (by kernel_rfl))
  f299 := Tryd.func64.trans (congrArg some (by kernel_rfl))
  f300 := Tryd.func66.trans (congrArg some (by kernel_rfl))
  f301 := Tryd.func67.trans (congrArg some (by kernel_rfl))
  f328 := Tryd.func70.trans (congrArg some (by kernel_rfl))
  f329 := Tryd.func71.trans (congrArg some (by kernel_rfl))
  f330 := Tryd.func72.trans (congrArg some (by kernel_rfl))
  f331 := Tryd.func73.trans (congrArg some (by kernel_rfl))
  f332 := Tryd.func74.trans (congrArg some (by kernel_rfl))
  f343 := Tryd.func76.trans (congrArg some (by kernel_rfl))
  t0 := Tryd.underlying0
  a0 := Tryd.isAgg0
  z0 := Tryd.sizeOf0
  v0 := Tryd.zeroValue0
  t3 := Tryd.underlying3
  a3 := Tryd.isAgg3
  z3 := Tryd.sizeOf3
  v3 := Tryd.zeroValue3
  t4 := Tryd.underlying4
  a4 := Tryd.isAgg4
  z4 := Tryd.sizeOf4
  v4 := Tryd.zeroValue4
  t5 := Tryd.underlying5
  a5 := Tryd.isAgg5
  z5 := Tryd.sizeOf5
  v5 := Tryd.zeroValue5
  t9 := Tryd.underlying9
  a9 := Tryd.isAgg9
  z9 := Tryd.sizeOf9
  v9 := Tryd.zeroValue9
  t28 := Tryd.underlying36
  a28 := Tryd.isAgg36
  z28 := Tryd.sizeOf36
  v28 := Tryd.zeroValue36
  t46 := Tryd.underlying84
  a46 := Tryd.isAgg84
  z46 := Tryd.sizeOf84
  v46 := Tryd.zeroValue84
  t51 := Tryd.underlying95
  a51 := Tryd.isAgg95
  z51 := Tryd.sizeOf95
  v51 := Tryd.zeroValue95
  t53 := Tryd.underlying97
  a53 := Tryd.isAgg97
  z53 := Tryd.sizeOf97
  v53 := Tryd.zeroValue97
  t131 := Tryd.underlying92
  a131 := Tryd.isAgg92
  z131 := Tryd.sizeOf92
  v131 := Tryd.zeroValue92
  t182 := Tryd.underlying86
  a182 := Tryd.isAgg86
  z182 := Tryd.sizeOf86
  v182 := Tryd.zeroValue86
  t183 := Tryd.underlying87
  a183 := Tryd.isAgg87
  z183 := Tryd.sizeOf87
  v183 := Tryd.zeroValue87
  t218 := Tryd.underlying98
  a218 := Tryd.isAgg98
  z218 := Tryd.sizeOf98
  v218 := Tryd.zeroValue98
  t222 := Tryd.underlying102
  a222 := Tryd.isAgg102
  z222 := Tryd.sizeOf102
  v222 := Tryd.zeroValue102
  t228 := Tryd.underlying104
  a228 := Tryd.isAgg104
  z228 := Tryd.sizeOf104
  v228 := Tryd.zeroValue104
  t229 := Tryd.underlying105
  a229 := Tryd.isAgg105
  z229 := Tryd.sizeOf105
  v229 := Tryd.zeroValue105 }
open Go.RowKit Go.Sort in
/-- .. and plain. (LAID: no walk: one application.) -/
theorem Tryd.slices_Sort_int_none (p : Option Addr) (cap : Nat) (w : World) :
    Calls Tryd.prog 49 #[.slice p 0 cap] w fun e w' => e = .returned (.tuple #[]) ∧ w' = w := Any.slices_Sort_int_none Tryd.lays189 p cap w
def Tryd.laysSlH6_f52_ren : Go.Shelf.Ren := ⟨fun | 6 => 52 | n => n, fun | 22 => 36 | 23 => 3 | 25 => 62 | 3 => 3 | 0 => 0 | 4 => 4 | n => n, fun | n => n⟩
theorem Tryd.laysSlH6_f52 : Go.Proofs.SlLaysH.n6 Tryd.prog Tryd.laysSlH6_f52_ren := {
  mixed := by kernel_rfl
  f6 := ⟨Tryd.f52.name, by decide, Tryd.func52.trans (congrArg some (by kernel_rfl))⟩
  t0 := Tryd.underlying0
  a0 := Tryd.isAgg0
  z0 := Tryd.sizeOf0
  v0 := Tryd.zeroValue0
  t3 := Tryd.underlying3
  a3 := Tryd.isAgg3
  z3 := Tryd.sizeOf3
  v3 := Tryd.zeroValue3
  t4 := Tryd.underlying4
  a4 := Tryd.isAgg4
  z4 := Tryd.sizeOf4
  v4 := Tryd.zeroValue4
  t22 := Tryd.underlying36
  a22 := Tryd.isAgg36
  z22 := Tryd.sizeOf36
  v22 := Tryd.zeroValue36
  a23 := Tryd.isAgg3
  z23 := Tryd.sizeOf3
  t25 := Tryd.underlying62
  a25 := Tryd.isAgg62
  z25 := Tryd.sizeOf62
  v25 := Tryd.zeroValue62 }
open Go.RowKit Go.Lib in
/-- The same at a slice of length 0, a nil one too: the predicate is not called: nothing is asked of it. (LAID AT THE INSTANCE 'slices.IndexFunc[[]int,int]': no walk: one application.) -/
theorem Tryd.slices_IndexFunc_empty {α : Type} [Inhabited α] (a : Option Addr) (c : Nat) (fv : Value) (w : World) :
    Calls Tryd.prog 52 #[.slice a 0 c, fv] w fun e w' => e = .returned (.int .i64 (-1)) ∧ w' = w := AnyE.slices_IndexFunc_empty Tryd.laysSlH6_f52 a c fv w
def Tryd.laysSlH10_f44_ren : Go.Shelf.Ren := ⟨fun | 10 => 44 | 6 => 52 | n => n, fun | 22 => 36 | 23 => 3 | 25 => 62 | 3 => 3 | 4 => 4 | 0 => 0 | n => n, fun | n => n⟩
theorem Tryd.laysSlH10_f44 : Go.Proofs.SlLaysH.n10 Tryd.prog Tryd.laysSlH10_f44_ren := {
  mixed := by kernel_rfl
  f6 := ⟨Tryd.f52.name, by decide, Tryd.func52.trans (congrArg some (by kernel_rfl))⟩
  f10 := ⟨Tryd.f44.name, by decide, Tryd.func44.trans (congrArg some (by kernel_rfl))⟩
  t0 := Tryd.underlying0
  a0 := Tryd.isAgg0
  z0 := Tryd.sizeOf0
  v0 := Tryd.zeroValue0
  t3 := Tryd.underlying3
  a3 := Tryd.isAgg3
  z3 := Tryd.sizeOf3
  v3 := Tryd.zeroValue3
  t4 := Tryd.underlying4
  a4 := Tryd.isAgg4
  z4 := Tryd.sizeOf4
  v4 := Tryd.zeroValue4
  t22 := Tryd.underlying36
  a22 := Tryd.isAgg36
  z22 := Tryd.sizeOf36
  v22 := Tryd.zeroValue36
  a23 := Tryd.isAgg3
  z23 := Tryd.sizeOf3
  t25 := Tryd.underlying62
  a25 := Tryd.isAgg62
  z25 := Tryd.sizeOf62
  v25 := Tryd.zeroValue62 }
open Go.RowKit Go.Lib Go.Sort in
theorem Tryd.slices_DeleteFunc {α : Type} [Inhabited α] (enc : α → Value) (hO : OneCell enc) (p : α → Bool) (g : Nat) (lb : Array Value) (eg : ∀ args w, (callFunc g args).run Tryd.prog w = .ok (.enter g args) w) (zr : α) (v23 : ∀ w, (zeroValue 3).run Tryd.prog w = .ok (enc zr) w) (blk off cap : Nat) (d : Array α) (w : World) (hp : PredAt Tryd.prog g lb enc p w) (hpo : PredOver Tryd.prog g lb enc p blk off d.size w) (hH : Holds enc w blk off d) (hsz : d.size ≤ 9223372036854775807) (hcap : d.size ≤ cap) :
    Calls Tryd.prog 44 #[.slice (some ⟨blk, off, none⟩) d.size cap, .func (.func g) #[] lb] w fun e w' => e = .returned (.slice (some ⟨blk, off, none⟩) (d.toList.filter fun x => !p x).length cap) ∧ ∃ q, w' = putRow enc (Sort.ahead w q) blk off ((d.toList.filter fun x => !p x) ++ List.replicate (d.size - (d.toList.filter fun x => !p x).length) zr).toArray := AnyE.slices_DeleteFunc Tryd.laysSlH10_f44 enc hO p g lb eg zr v23 blk off cap d w hp hpo hH hsz hcap
def Tryd.laysSlM5_f49_ren : Go.Shelf.Ren := ⟨fun | 5 => 49 | 8 => 57 | 7 => 56 | 19 => 68 | 20 => 69 | 10 => 59 | 11 => 60 | 12 => 61 | 13 => 62 | 14 => 63 | 15 => 64 | 16 => 65 | 17 => 66 | 18 => 67 | 30 => 70 | 31 => 71 | 32 => 72 | 33 => 73 | 34 => 74 | 35 => 75 | 40 => 76 | n => n, fun | 23 => 36 | 25 => 3 | 3 => 3 | 32 => 84 | 22 => 36 | 0 => 0 | 44 => 95 | 46 => 97 | 4 => 4 | 36 => 87 | 35 => 86 | 41 => 92 | 5 => 5 | 9 => 9 | 53 => 98 | 57 => 102 | 63 => 104 | 64 => 105 | n => n, fun | n => n⟩
theorem Tryd.laysSlM5_f49 : Go.Proofs.SlLaysM.n5 Tryd.prog Tryd.laysSlM5_f49_ren := {
  mixed := by kernel_rfl
  f5 := ⟨Tryd.f49.name, by decide, Tryd.func49.trans (congrArg some (by kernel_rfl))⟩
  f7 := ⟨Tryd.f56.name, by decide, Tryd.func56.trans (congrArg some (by kernel_rfl))⟩
  f8 := Tryd.func57.trans (congrArg some (by kernel_rfl))
  f10 := ⟨Tryd.f59.name, by decide, Tryd.func59.trans (congrArg some (by kernel_rfl))⟩
  f11 := ⟨Tryd.f60.name, by decide, Tryd.func60.trans (congrArg some (by kernel_rfl))⟩
  f12 := ⟨Tryd.f61.name, by decide, Tryd.func61.trans (congrArg some (by kernel_rfl))⟩
  f13 := ⟨Tryd.f62.name, by decide, Tryd.func62.trans (congrArg some (by kernel_rfl))⟩
  f14 := ⟨Tryd.f63.name, by decide, Tryd.func63.trans (congrArg some (by kernel_rfl))⟩
  f15 := ⟨Tryd.f64.name, by decide, Tryd.func64.trans (congrArg some (by kernel_rfl))⟩
  f16 := ⟨Tryd.f65.name, by decide, Tryd.func65.trans (congrArg some (by kernel_rfl))⟩
  f17 := ⟨Tryd.f66.name, by decide, Tryd.func66.trans (congrArg some (by kernel_rfl))⟩
  f18 := ⟨Tryd.f67.name, by decide, Tryd.func67.trans (congrArg some (by kernel_rfl))⟩
  f19 := Tryd.func68.trans (congrArg some (by kernel_rfl))
  f20 := Tryd.func69.trans (congrArg some (by kernel_rfl))
  f30 := ⟨Tryd.f70.name, by decide, Tryd.func70.trans (congrArg some (by kernel_rfl))⟩
  f31 := Tryd.func71.trans (congrArg some (by kernel_rfl))
  f32 := Tryd.func72.trans (congrArg some (by kernel_rfl))
  f33 := ⟨Tryd.f73.name, by decide, Tryd.func73.trans (congrArg some (by kernel_rfl))⟩
  f34 := ⟨Tryd.f74.name, by decide, Tryd.func74.trans (congrArg some (by kernel_rfl))⟩
  f35 := ⟨Tryd.f75.name, by decide, Tryd.func75.trans (congrArg some (by kernel_rfl))⟩
  f40 := ⟨Tryd.f76.name, by decide, Tryd.func76.trans (congrArg some (by kernel_rfl))⟩
  t0 := Tryd.underlying0
  a0 := Tryd.isAgg0
  z0 := Tryd.sizeOf0
  v0 := Tryd.zeroValue0
  t3 := Tryd.underlying3
  a3 := Tryd.isAgg3
  z3 := Tryd.sizeOf3
  v3 := Tryd.zeroValue3
  t4 := Tryd.underlying4
  a4 := Tryd.isAgg4
  z4 := Tryd.sizeOf4
  v4 := Tryd.zeroValue4
  t5 := Tryd.underlying5
  a5 := Tryd.isAgg5
  z5 := Tryd.sizeOf5
  v5 := Tryd.zeroValue5
  t9 := Tryd.underlying9
  a9 := Tryd.isAgg9
  z9 := Tryd.sizeOf9
  v9 := Tryd.zeroValue9
  t22 := Tryd.underlying36
  a22 := Tryd.isAgg36
  z22 := Tryd.sizeOf36
  v22 := Tryd.zeroValue36
  t23 := Tryd.underlying36
  a23 := Tryd.isAgg36
  z23 := Tryd.sizeOf36
  v23 := Tryd.zeroValue36
  t25 := Tryd.underlying3
  a25 := Tryd.isAgg3
  z25 := Tryd.sizeOf3
  v25 := Tryd.zeroValue3
  t32 := Tryd.underlying84
  a32 := Tryd.isAgg84
  z32 := Tryd.sizeOf84
  v32 := Tryd.zeroValue84
  t35 := Tryd.underlying86
  a35 := Tryd.isAgg86
  z35 := Tryd.sizeOf86
  v35 := Tryd.zeroValue86
  t36 := Tryd.underlying87
  a36 := Tryd.isAgg87
  z36 := Tryd.sizeOf87
  v36 := Tryd.zeroValue87
  t41 := Tryd.underlying92
  a41 := Tryd.isAgg92
  z41 := Tryd.sizeOf92
  v41 := Tryd.zeroValue92
  t44 := Tryd.underlying95
  a44 := Tryd.isAgg95
  z44 := Tryd.sizeOf95
  v44 := Tryd.zeroValue95
  t46 := Tryd.underlying97
  a46 := Tryd.isAgg97
  z46 := Tryd.sizeOf97
  v46 := Tryd.zeroValue97
  t53 := Tryd.underlying98
  a53 := Tryd.isAgg98
  z53 := Tryd.sizeOf98
  v53 := Tryd.zeroValue98
  t57 := Tryd.underlying102
  a57 := Tryd.isAgg102
  z57 := Tryd.sizeOf102
  v57 := Tryd.zeroValue102
  t63 := Tryd.underlying104
  a63 := Tryd.isAgg104
  z63 := Tryd.sizeOf104
  v63 := Tryd.zeroValue104
  t64 := Tryd.underlying105
  a64 := Tryd.isAgg105
  z64 := Tryd.sizeOf105
  v64 := Tryd.zeroValue105 }
open Go.Sort Go.RowKit in
theorem Tryd.slices_Sort_int (blk off cap : Nat) (zs : List Int) (w : World) (hH : Holds (Value.int .i64) w blk off zs.toArray) (hblk : blk < w.heap.size) (hsz : zs.length < 4611686018427387904) :
    Calls Tryd.prog 49 #[.slice (some ⟨blk, off, none⟩) zs.length cap] w fun e w' =>
      e = .returned (.tuple #[]) ∧ ∃ n os, w' = grow (putRow (Value.int .i64) (Sort.ahead w n) blk off (zs.mergeSort fun x y => decide (x ≤ y)).toArray) os := AnyM.slices_Sort_int Tryd.laysSlM5_f49 blk off cap zs w hH hblk hsz
end Go.Proofs
