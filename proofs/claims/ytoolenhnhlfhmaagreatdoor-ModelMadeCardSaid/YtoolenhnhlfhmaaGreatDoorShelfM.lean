/- The library's contract of slices.Sort at this program, in plain words (written by the kit's lay-shelf.mjs and lay-plain.mjs; the numbers are of r11's seat). -/
import Derived.Shelf.Sort.Plain
import Derived.Shelf.Slices.In.SortNone
import Derived.Sort.OwnSortedInts
import Derived.Test.YtoolenhnhlfhmaaGreatDoorProg
namespace Go.Proofs
open Go.Shelf
def Tryz.lays189_ren : Go.Shelf.Ren:=⟨fun | 189=>108 | 125=>135 | 257=>134 | 128=>150 | 129=>151 | 294=>141 | 295=>142 | 296=>143 | 297=>144 | 298=>145 | 299=>146 | 216=>147 | 300=>148 | 301=>149 | 328=>155 | 329=>156 | 330=>157 | 331=>158 | 332=>159 | 215=>130 | 343=>161 | n=>n,fun | 28=>28 | 3=>3 | 46=>35 | 0=>0 | 51=>159 | 53=>32 | 4=>4 | 183=>154 | 182=>153 | 131=>79 | 5=>5 | 9=>9 | 218=>162 | 222=>166 | 228=>169 | 229=>170 | n=>n,fun | n=>n⟩
theorem Tryz.lays189 : Go.Proofs.Lays.n189 Tryz.prog Tryz.lays189_ren:={
 mixed:=by kernel_rfl
 f125:=Tryz.func135.trans (congrArg some (by kernel_rfl))
 f128:=Tryz.func150.trans (congrArg some (by kernel_rfl))
 f129:=Tryz.func151.trans (congrArg some (by kernel_rfl))
 f189:=Tryz.func108.trans (congrArg some (by kernel_rfl))
 f215:=Tryz.func130.trans (congrArg some (by kernel_rfl))
 f216:=Tryz.func147.trans (congrArg some (by kernel_rfl))
 f257:=Tryz.func134.trans (congrArg some (by kernel_rfl))
 f294:=Tryz.func141.trans (congrArg some (by kernel_rfl))
 f295:=Tryz.func142.trans (congrArg some (by kernel_rfl))
 f296:=Tryz.func143.trans (congrArg some (by kernel_rfl))
 f297:=Tryz.func144.trans (congrArg some (by kernel_rfl))
 f298:=Tryz.func145.trans (congrArg some (by kernel_rfl))
 f299:=Tryz.func146.trans (congrArg some (by kernel_rfl))
 f300:=Tryz.func148.trans (congrArg some (by kernel_rfl))
 f301:=Tryz.func149.trans (congrArg some (by kernel_rfl))
 f328:=Tryz.func155.trans (congrArg some (by kernel_rfl))
 f329:=Tryz.func156.trans (congrArg some (by kernel_rfl))
 f330:=Tryz.func157.trans (congrArg some (by kernel_rfl))
 f331:=Tryz.func158.trans (congrArg some (by kernel_rfl))
 f332:=Tryz.func159.trans (congrArg some (by kernel_rfl))
 f343:=Tryz.func161.trans (congrArg some (by kernel_rfl))
 t0:=Tryz.underlying0
 a0:=Tryz.isAgg0
 z0:=Tryz.sizeOf0
 v0:=Tryz.zeroValue0
 t3:=Tryz.underlying3
 a3:=Tryz.isAgg3
 z3:=Tryz.sizeOf3
 v3:=Tryz.zeroValue3
 t4:=Tryz.underlying4
 a4:=Tryz.isAgg4
 z4:=Tryz.sizeOf4
 v4:=Tryz.zeroValue4
 t5:=Tryz.underlying5
 a5:=Tryz.isAgg5
 z5:=Tryz.sizeOf5
 v5:=Tryz.zeroValue5
 t9:=Tryz.underlying9
 a9:=Tryz.isAgg9
 z9:=Tryz.sizeOf9
 v9:=Tryz.zeroValue9
 t28:=Tryz.underlying28
 a28:=Tryz.isAgg28
 z28:=Tryz.sizeOf28
 v28:=Tryz.zeroValue28
 t46:=Tryz.underlying35
 a46:=Tryz.isAgg35
 z46:=Tryz.sizeOf35
 v46:=Tryz.zeroValue35
 t51:=Tryz.underlying159
 a51:=Tryz.isAgg159
 z51:=Tryz.sizeOf159
 v51:=Tryz.zeroValue159
 t53:=Tryz.underlying32
 a53:=Tryz.isAgg32
 z53:=Tryz.sizeOf32
 v53:=Tryz.zeroValue32
 t131:=Tryz.underlying79
 a131:=Tryz.isAgg79
 z131:=Tryz.sizeOf79
 v131:=Tryz.zeroValue79
 t182:=Tryz.underlying153
 a182:=Tryz.isAgg153
 z182:=Tryz.sizeOf153
 v182:=Tryz.zeroValue153
 t183:=Tryz.underlying154
 a183:=Tryz.isAgg154
 z183:=Tryz.sizeOf154
 v183:=Tryz.zeroValue154
 t218:=Tryz.underlying162
 a218:=Tryz.isAgg162
 z218:=Tryz.sizeOf162
 v218:=Tryz.zeroValue162
 t222:=Tryz.underlying166
 a222:=Tryz.isAgg166
 z222:=Tryz.sizeOf166
 v222:=Tryz.zeroValue166
 t228:=Tryz.underlying169
 a228:=Tryz.isAgg169
 z228:=Tryz.sizeOf169
 v228:=Tryz.zeroValue169
 t229:=Tryz.underlying170
 a229:=Tryz.isAgg170
 z229:=Tryz.sizeOf170
 v229:=Tryz.zeroValue170 }
open Go.Sort Go.RowKit in
theorem Tryz.slices_Sort_int (blk off cap : Nat) (zs : List Int) (w : World) (hH : Holds (Value.int .i64) w blk off zs.toArray) (hblk : blk < w.heap.size) (hsz : zs.length < 4611686018427387904) :
  Calls Tryz.prog 108 #[.slice (some ⟨blk,off,none⟩) zs.length cap] w fun e w' =>
   e=.returned (.tuple #[])∧∃ n os,w'=grow (putRow (Value.int .i64) (Sort.ahead w n) blk off (zs.mergeSort fun x y=>decide (x≤y)).toArray) os:=Any.slices_Sort_int Tryz.lays189 blk off cap zs w hH hblk hsz
open Go.RowKit Go.Sort in
/-- .. and plain. (LAID: no walk: one application.) -/
theorem Tryz.slices_Sort_int_none (p : Option Addr) (cap : Nat) (w : World) :
  Calls Tryz.prog 108 #[.slice p 0 cap] w fun e w'=>e=.returned (.tuple #[])∧w'=w:=Any.slices_Sort_int_none Tryz.lays189 p cap w
end Go.Proofs
