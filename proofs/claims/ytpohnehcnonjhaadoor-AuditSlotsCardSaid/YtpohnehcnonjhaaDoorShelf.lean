/- The library contracts of slices.Sort and slices.Compact at this program, in plain words (written by the kit's lay-shelf.mjs and lay-plain.mjs; the numbers are of r7's door seat). -/
import Derived.Shelf.Sort.Plain
import Derived.Ground.Names2Prog
import Derived.Shelf.Slices.CompactI
import Derived.Shelf.Slices.In.SortNone
import Derived.Test.YtpohnehcnonjhaaDoorProg
namespace Go.Proofs
open Go.Shelf
def Tryd.lays189_ren : Go.Shelf.Ren := ⟨fun | 189 => 21 | 125 => 34 | 257 => 33 | 128 => 51 | 129 => 52 | 294 => 42 | 295 => 43 | 296 => 44 | 297 => 45 | 298 => 46 | 299 => 47 | 216 => 48 | 300 => 49 | 301 => 50 | 328 => 55 | 329 => 56 | 330 => 57 | 331 => 58 | 332 => 59 | 215 => 60 | 343 => 63 | n => n, fun | 28 => 28 | 3 => 3 | 46 => 65 | 0 => 0 | 51 => 83 | 53 => 23 | 4 => 4 | 183 => 77 | 182 => 76 | 131 => 30 | 5 => 5 | 9 => 9 | 218 => 89 | 222 => 93 | 228 => 96 | 229 => 49 | n => n, fun | n => n⟩
theorem Tryd.lays189 : Go.Proofs.Lays.n189 Tryd.prog Tryd.lays189_ren := {
  mixed := by kernel_rfl
  f125 := Tryd.func34.trans (congrArg some (by kernel_rfl))
  f128 := Tryd.func51.trans (congrArg some (by kernel_rfl))
  f129 := Tryd.func52.trans (congrArg some (by kernel_rfl))
  f189 := Tryd.func21.trans (congrArg some (by kernel_rfl))
  f215 := Tryd.func60.trans (congrArg some (by kernel_rfl))
  f216 := Tryd.func48.trans (congrArg some (by kernel_rfl))
  f257 := Tryd.func33.trans (congrArg some (by kernel_rfl))
  f294 := Tryd.func42.trans (congrArg some (by kernel_rfl))
  f295 := Tryd.func43.trans (congrArg some (by kernel_rfl))
  f296 := Tryd.func44.trans (congrArg some (by kernel_rfl))
  f297 := Tryd.func45.trans (congrArg some (by kernel_rfl))
  f298 := Tryd.func46.trans (congrArg some (by kernel_rfl))
  f299 := Tryd.func47.trans (congrArg some (by kernel_rfl))
  f300 := Tryd.func49.trans (congrArg some (by kernel_rfl))
  f301 := Tryd.func50.trans (congrArg some (by kernel_rfl))
  f328 := Tryd.func55.trans (congrArg some (by kernel_rfl))
  f329 := Tryd.func56.trans (congrArg some (by kernel_rfl))
  f330 := Tryd.func57.trans (congrArg some (by kernel_rfl))
  f331 := Tryd.func58.trans (congrArg some (by kernel_rfl))
  f332 := Tryd.func59.trans (congrArg some (by kernel_rfl))
  f343 := Tryd.func63.trans (congrArg some (by kernel_rfl))
  t0 := Tryd.underlying0
  a0 := Tryd.isAgg0
  z0 := Tryd.sizeOf0
  v0 := Tryd.zeroValue0
  t3 := Tryd.underlying3
  a3 := Tryd.isAgg3
  z3 := Tryd.sizeOf3
  v3 := Tryd.zeroValue3
  t4 := Tryd.underlying4
  a4 := Tryd.isAgg4
  z4 := Tryd.sizeOf4
  v4 := Tryd.zeroValue4
  t5 := Tryd.underlying5
  a5 := Tryd.isAgg5
  z5 := Tryd.sizeOf5
  v5 := Tryd.zeroValue5
  t9 := Tryd.underlying9
  a9 := Tryd.isAgg9
  z9 := Tryd.sizeOf9
  v9 := Tryd.zeroValue9
  t28 := Tryd.underlying28
  a28 := Tryd.isAgg28
  z28 := Tryd.sizeOf28
  v28 := Tryd.zeroValue28
  t46 := Tryd.underlying65
  a46 := Tryd.isAgg65
  z46 := Tryd.sizeOf65
  v46 := Tryd.zeroValue65
  t51 := Tryd.underlying83
  a51 := Tryd.isAgg83
  z51 := Tryd.sizeOf83
  v51 := Tryd.zeroValue83
  t53 := Tryd.underlying23
  a53 := Tryd.isAgg23
  z53 := Tryd.sizeOf23
  v53 := Tryd.zeroValue23
  t131 := Tryd.underlying30
  a131 := Tryd.isAgg30
  z131 := Tryd.sizeOf30
  v131 := Tryd.zeroValue30
  t182 := Tryd.underlying76
  a182 := Tryd.isAgg76
  z182 := Tryd.sizeOf76
  v182 := Tryd.zeroValue76
  t183 := Tryd.underlying77
  a183 := Tryd.isAgg77
  z183 := Tryd.sizeOf77
  v183 := Tryd.zeroValue77
  t218 := Tryd.underlying89
  a218 := Tryd.isAgg89
  z218 := Tryd.sizeOf89
  v218 := Tryd.zeroValue89
  t222 := Tryd.underlying93
  a222 := Tryd.isAgg93
  z222 := Tryd.sizeOf93
  v222 := Tryd.zeroValue93
  t228 := Tryd.underlying96
  a228 := Tryd.isAgg96
  z228 := Tryd.sizeOf96
  v228 := Tryd.zeroValue96
  t229 := Tryd.underlying49
  a229 := Tryd.isAgg49
  z229 := Tryd.sizeOf49
  v229 := Tryd.zeroValue49 }
open Go.Sort Go.RowKit in
theorem Tryd.slices_Sort_int (blk off cap : Nat) (zs : List Int) (w : World) (hH : Holds (Value.int .i64) w blk off zs.toArray) (hblk : blk < w.heap.size) (hsz : zs.length < 4611686018427387904) :
    Calls Tryd.prog 21 #[.slice (some ⟨blk, off, none⟩) zs.length cap] w fun e w' =>
      e = .returned (.tuple #[]) ∧ ∃ n os, w' = grow (putRow (Value.int .i64) (Sort.ahead w n) blk off (zs.mergeSort fun x y => decide (x ≤ y)).toArray) os := Any.slices_Sort_int Tryd.lays189 blk off cap zs w hH hblk hsz
def Tryd.laysNm220_ren : Go.Shelf.Ren := ⟨fun | 20 => 22 | n => n, fun | 22 => 28 | 3 => 3 | 4 => 4 | 0 => 0 | n => n, fun | n => n⟩
theorem Tryd.laysNm220 : Go.Proofs.Lays2.n20 Tryd.prog Tryd.laysNm220_ren := {
  mixed := by kernel_rfl
  f20 := Tryd.func22.trans (congrArg some (by kernel_rfl))
  t0 := Tryd.underlying0
  a0 := Tryd.isAgg0
  z0 := Tryd.sizeOf0
  v0 := Tryd.zeroValue0
  t3 := Tryd.underlying3
  a3 := Tryd.isAgg3
  z3 := Tryd.sizeOf3
  v3 := Tryd.zeroValue3
  t4 := Tryd.underlying4
  a4 := Tryd.isAgg4
  z4 := Tryd.sizeOf4
  v4 := Tryd.zeroValue4
  t22 := Tryd.underlying28
  a22 := Tryd.isAgg28
  z22 := Tryd.sizeOf28
  v22 := Tryd.zeroValue28
  i3 := by kernel_rfl }
open Go.RowKit Go.Lib Go.Sort in
theorem Tryd.slices_Compact_int (blk off cap : Nat) (zs : List Int) (w : World) (hH : Holds (Value.int .i64) w blk off zs.toArray) (hsz : zs.length ≤ 9223372036854775807) (hcap : zs.length ≤ cap) :
    Calls Tryd.prog 22 #[.slice (some ⟨blk, off, none⟩) zs.length cap] w fun e w' => e = .returned (.slice (some ⟨blk, off, none⟩) (Lib.compact zs).length cap) ∧ ∃ q, w' = putRow (Value.int .i64) (Sort.ahead w q) blk off (Lib.compact zs ++ List.replicate (zs.length - (Lib.compact zs).length) 0).toArray := Any.slices_Compact_int Tryd.laysNm220 blk off cap zs w hH hsz hcap
open Go.RowKit Go.Lib Go.Sort in
theorem Tryd.slices_Compact_int_empty (a : Option Addr) (cap : Nat) (w : World) :
    Calls Tryd.prog 22 #[.slice a 0 cap] w fun e w' => e = .returned (.slice a 0 cap) ∧ w' = w := Any.slices_Compact_int_empty Tryd.laysNm220 a cap w
open Go.RowKit Go.Sort in
theorem Tryd.slices_Sort_int_none (p : Option Addr) (cap : Nat) (w : World) :
    Calls Tryd.prog 21 #[.slice p 0 cap] w fun e w' => e = .returned (.tuple #[]) ∧ w' = w := Any.slices_Sort_int_none Tryd.lays189 p cap w
end Go.Proofs
