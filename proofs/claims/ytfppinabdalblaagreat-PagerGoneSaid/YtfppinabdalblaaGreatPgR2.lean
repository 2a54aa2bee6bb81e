/- PagerGone: runs, with numbers that are not looked into, in pieces (printed by gen_pg.py). -/
import Derived.Test.YtfppinabdalblaaGreatPgL1
import Derived.Test.YtfppinabdalblaaGreatPgL2
import Derived.Test.YtfppinabdalblaaGreatPgP
namespace Go.Proofs.YtfppinabdalblaaGreat
open Go.RowKit Go.IntWalk
set_option linter.unusedVariables false
set_option linter.unusedSimpArgs false
set_option maxRecDepth 100000
def Pgde : List Ent := [⟨.conv 5 3, [kf 5], kf 16⟩,
  ⟨.bin .rem 3, [kf 16, vI 128], kf 17⟩,
  ⟨.bin .add 3, [vI 1, kf 17], kf 9⟩,
  ⟨.bin .geq 3, [kf 9, vI 1], .bool true⟩,
  ⟨.bin .leq 3, [kf 9, vI 4096], .bool true⟩,
  ⟨.bin .mul 3, [vI 5, kf 9], kf 18⟩,
  ⟨.bin .add 3, [vI 82, kf 18], kf 19⟩,
  ⟨.bin .add 3, [kf 19, kf 9], kf 1⟩,
  ⟨.bin .add 3, [kf 9, vI 64], kf 20⟩,
  ⟨.bin .sub 3, [kf 20, vI 1], kf 21⟩,
  ⟨.bin .quo 3, [kf 21, vI 64], vI 1⟩,
  ⟨.bin .add 3, [kf 1, vI 1], kf 2⟩,
  ⟨.bin .add 3, [kf 2, vI 1], kf 0⟩,
  ⟨.bin .lss 3, [kf 0, vI 1], .bool false⟩,
  ⟨.bin .gtr 3, [kf 0, vI 65536], .bool false⟩,
  ⟨.bin .geq 3, [vI 0, kf 0], .bool false⟩,
  ⟨.bin .lss 3, [kf 9, vI 1], .bool false⟩,
  ⟨.bin .gtr 3, [kf 9, vI 4096], .bool false⟩,
  ⟨.bin .mul 3, [vI 8192, kf 9], kf 22⟩,
  ⟨.bin .add 3, [kf 22, vI 0], kf 22⟩,
  ⟨.bin .add 3, [vI 0, kf 9], kf 9⟩,
  ⟨.bin .mul 3, [vI 6, kf 9], kf 23⟩,
  ⟨.bin .add 3, [vI 82, kf 23], kf 1⟩,
  ⟨.bin .add 3, [kf 9, vI 63], kf 21⟩,
  ⟨.bin .add 3, [kf 1, vI 2], kf 0⟩,
  ⟨.conv 5 3, [kf 6], kf 24⟩,
  ⟨.bin .rem 3, [kf 24, kf 9], kf 17⟩,
  ⟨.bin .lss 3, [vI 0, kf 9], .bool true⟩,
  ⟨.bin .sub 3, [kf 9, vI 0], kf 9⟩,
  ⟨.bin .and 22, [kf 7, kf 11], kf 25⟩,
  ⟨.bin .add 3, [kf 1, vI 0], kf 1⟩,
  ⟨.bin .lss 3, [kf 2, vI 0], .bool false⟩,
  ⟨.bin .geq 3, [kf 2, kf 0], .bool false⟩,
  ⟨.bin .geq 3, [kf 2, vI 0], .bool true⟩,
  ⟨.bin .lss 3, [kf 2, kf 0], .bool true⟩,
  ⟨.bin .lss 3, [vI 64, kf 9], .bool false⟩,
  ⟨.bin .neq 38, [vG [kf 9, vI 1], vG [kf 9, vI 1]], .bool false⟩,
  ⟨.bin .geq 3, [vI 2, kf 0], .bool false⟩,
  ⟨.bin .gtr 3, [kf 9, kf 9], .bool false⟩,
  ⟨.bin .lss 3, [kf 22, kf 22], .bool false⟩,
  ⟨.bin .neq 3, [kf 22, kf 22], .bool false⟩,
  ⟨.bin .neq 3, [kf 9, kf 9], .bool false⟩,
  ⟨.bin .lss 3, [kf 9, kf 9], .bool false⟩,
  ⟨.bin .sub 3, [kf 9, kf 9], kf 26⟩,
  ⟨.bin .gtr 3, [kf 9, vI 1048576], .bool false⟩,
  ⟨.mn #[3, 3], [kf 9, vI 64], kf 9⟩,
  ⟨.bin .shl 22, [kf 11, vI 0], kf 11⟩,
  ⟨.bin .add 3, [kf 2, vI 0], kf 2⟩,
  ⟨.conv 3 22, [kf 9], kf 27⟩,
  ⟨.conv 3 22, [kf 26], kf 28⟩,
  ⟨.bin .lss 3, [kf 1, vI 0], .bool false⟩,
  ⟨.bin .geq 3, [kf 1, kf 0], .bool false⟩,
  ⟨.bin .add 22, [.int .u64 0, kf 11], kf 11⟩,
  ⟨.bin .and 22, [kf 25, kf 11], kf 29⟩,
  ⟨.bin .eql 22, [kf 29, .int .u64 0], .bool true⟩]
def Pgdf : List FnEnt := [⟨14, [], .bool true⟩,
  ⟨44, [kf 9, vZ], vA⟩,
  ⟨5, [kf 9], kf 11⟩,
  ⟨106, [kf 9], kf 11⟩]
def PgdO : Orc := orcS Pgde Pgdf 2 rdG noMkS
def Pgdv0 : List Value := [kf 5, kf 6, kf 7, kf 8, vX, vX, vX, vX, vB false, vX, vX, vX]
def Pgdv1 : List Value := [vX, vX, vX, vX, vX, vX, vX, vX, vX, vX, vX, vX]
def Pgdv2 : List Value := [vX, vX, vX, vX, vX, vX]
def Pgdl3 : List Value := Pgdv0 ++ (Pgdv1 ++ (Pgdv1 ++ (Pgdv1 ++ (Pgdv1 ++ (Pgdv1 ++ (Pgdv1 ++ (Pgdv1 ++ (Pgdv1 ++ (Pgdv1 ++ (Pgdv1 ++ (Pgdv1 ++ Pgdv2)))))))))))
def Pgdh4 : List Obj := []
def Pgdv3 : List Value := [kf 5, kf 6, kf 7, kf 8, vX, vX, vX, vX, vB false, vP 0 0, vX, vX]
def Pgdv4 : List Value := [kf 5, kf 16, kf 17, kf 9, vG [kf 9, vI 1, vZ], vX, vX, vX, vX, vX, vX, vX]
def Pgdl7 : List Value := Pgdv3 ++ (Pgdv1 ++ (Pgdv4 ++ (Pgdv1 ++ (Pgdv1 ++ (Pgdv1 ++ (Pgdv1 ++ (Pgdv1 ++ (Pgdv1 ++ (Pgdv1 ++ (Pgdv1 ++ (Pgdv1 ++ Pgdv2)))))))))))
def Pgdo5 : Obj := oC 25 [kf 9, vI 1, vZ]
def Pgdh9 : List Obj := [Pgdo5]
def Pgdv6 : List Value := [kf 5, kf 6, kf 7, kf 8, vX, vX, vX, vX, vB false, vP 0 0, vP 7 0, vP 10 0]
def Pgdv7 : List Value := [kf 5, kf 16, kf 17, kf 9, vG [kf 9, vI 1, vZ], vT [vP 7 0, vP 10 0], vG [kf 9, vI 1, vZ], vT [vP 7 0, vP 10 0], vP 7 0, vP 10 0, vX, vX]
def Pgdl12 : List Value := Pgdv6 ++ (Pgdv1 ++ (Pgdv7 ++ (Pgdv1 ++ (Pgdv1 ++ (Pgdv1 ++ (Pgdv1 ++ (Pgdv1 ++ (Pgdv1 ++ (Pgdv1 ++ (Pgdv1 ++ (Pgdv1 ++ Pgdv2)))))))))))
def Pgdo8 : Obj := oC 2 [vU 1, vU 0, vU 0, vU 0, vU 0, vU 0, vU 0, vU 0, vU 0, vU 0, vU 0, vU 0, vU 0, vU 0, vU 0, vU 0, vU 0, vU 0, vU 0, vU 0, vU 0, vU 0, vU 0, vU 0, vU 0, vU 0, vU 0, vU 0, vU 0, vU 0, vU 0, vU 0, vU 0, vU 0, vU 0, vU 0, vU 0, vU 0, vU 0, vU 0, vU 0, vU 0, vU 0, vU 0, vU 0, vU 0, vU 0, vU 0, vU 0, vU 0, vU 0, vU 0, vU 0, vU 0, vU 0, vU 0, vU 0, vU 0, vU 0, vU 0, vU 0, vU 0, vU 0, vU 0, vU 0, vU 0, vU 0, vU 0, vU 0, vU 0, vU 0, vU 0, vU 0, vU 0, vU 0, vU 0, vU 0]
def Pgdo9 : Obj := oC 109 [.complex .f32 1 0, vI 0, vI 0, vU 0, vU 0, vI 0]
def Pgdo10 : Obj := oC 147 [vP 5 0, vI 1]
def Pgdo11 : Obj := oC 119 [kf 9, vZ, vI 1, vP 3 0, vS 6 0 1 1, kf 9]
def Pgdo12 : Obj := oC 167 [kf 22, .int .u32 0, vI 0, kf 9, vN, vN]
def Pgdo13 : Obj := oC 86 [kf 9, vI 1, vP 2 0, vP 4 0]
def Pgdo14 : Obj := oC 64 [.complex .f32 8 0, vI 0, vI 0, vU 0, vU 0, vI 0]
def Pgdo15 : Obj := oC 40 [vP 9 0, vA, kf 9, vI 1]
def Pgdh21 : List Obj := [Pgdo5, Pgdo8, Pgdo9, Pgdo10, Pgdo11, Pgdo12, oC 116 [vI 0, kf 9], Pgdo13, Pgdo8, Pgdo14, Pgdo15]
def Pgdv16 : List Value := [kf 5, kf 16, kf 17, kf 9, vG [kf 9, vI 1, vZ], vT [vP 7 0, vP 10 0], vG [kf 9, vI 1, vZ], vT [vP 7 0, vP 10 0], vP 7 0, vP 10 0, vP 7 0, vB false]
def Pgdl23 : List Value := Pgdv6 ++ (Pgdv1 ++ (Pgdv16 ++ (Pgdv1 ++ (Pgdv1 ++ (Pgdv1 ++ (Pgdv1 ++ (Pgdv1 ++ (Pgdv1 ++ (Pgdv1 ++ (Pgdv1 ++ (Pgdv1 ++ Pgdv2)))))))))))
def Pgdh24 : List Obj := [Pgdo5, Pgdo8, Pgdo9, Pgdo10, Pgdo11, Pgdo12, oC 116 [vI 0, kf 9], Pgdo13, Pgdo8, Pgdo14, Pgdo15]
def Pgdl25 : List Value := Pgdv6 ++ (Pgdv1 ++ (Pgdv16 ++ (Pgdv1 ++ (Pgdv1 ++ (Pgdv1 ++ (Pgdv1 ++ (Pgdv1 ++ (Pgdv1 ++ (Pgdv1 ++ (Pgdv1 ++ (Pgdv1 ++ Pgdv2)))))))))))
def Pgdh26 : List Obj := [Pgdo5, Pgdo8, Pgdo9, Pgdo10, Pgdo11, Pgdo12, oC 116 [vI 0, kf 9], Pgdo13, Pgdo8, Pgdo14, Pgdo15]
def Pgdv17 : List Value := [kf 9, vX, vX, vX, vX, vX, vX, vX, vX, vX, vX, vX]
def Pgdv18 : List Value := [kf 6, kf 24, vP 0 0, kf 9, kf 17, kf 9, vX, vX, vX, vX, vX, vX]
def Pgdl29 : List Value := Pgdv6 ++ (Pgdv17 ++ (Pgdv16 ++ (Pgdv18 ++ (Pgdv1 ++ (Pgdv1 ++ (Pgdv1 ++ (Pgdv1 ++ (Pgdv1 ++ (Pgdv1 ++ (Pgdv1 ++ (Pgdv1 ++ Pgdv2)))))))))))
def Pgdh30 : List Obj := [Pgdo5, Pgdo8, Pgdo9, Pgdo10, Pgdo11, Pgdo12, oC 116 [vI 0, kf 9], Pgdo13, Pgdo8, Pgdo14, Pgdo15]
def Pgdv19 : List Value := [kf 9, vP 11 0, vX, vX, vX, vX, vX, vX, vX, vX, vX, vX]
def Pgdl32 : List Value := Pgdv6 ++ (Pgdv19 ++ (Pgdv16 ++ (Pgdv18 ++ (Pgdv1 ++ (Pgdv1 ++ (Pgdv1 ++ (Pgdv1 ++ (Pgdv1 ++ (Pgdv1 ++ (Pgdv1 ++ (Pgdv1 ++ Pgdv2)))))))))))
def Pgdh33 : List Obj := [Pgdo5, Pgdo8, Pgdo9, Pgdo10, Pgdo11, Pgdo12, oC 116 [vI 0, kf 9], Pgdo13, Pgdo8, Pgdo14, Pgdo15, oC 30 [vU 0, vU 0]]
def Pgdv20 : List Value := [kf 9, vP 11 0, vI 0, vX, vX, vX, vX, vX, vX, vX, vX, vX]
def Pgdl35 : List Value := Pgdv6 ++ (Pgdv20 ++ (Pgdv16 ++ (Pgdv18 ++ (Pgdv1 ++ (Pgdv1 ++ (Pgdv1 ++ (Pgdv1 ++ (Pgdv1 ++ (Pgdv1 ++ (Pgdv1 ++ (Pgdv1 ++ Pgdv2)))))))))))
def Pgdh36 : List Obj := [Pgdo5, Pgdo8, Pgdo9, Pgdo10, Pgdo11, Pgdo12, oC 116 [vI 0, kf 9], Pgdo13, Pgdo8, Pgdo14, Pgdo15, oC 30 [vU 0, vU 0]]
def Pgdv21 : List Value := [kf 9, vP 11 0, vI 1, kf 2, vB true, vX, vX, vX, vX, vX, vX, vX]
def Pgdv22 : List Value := [kf 6, kf 24, vP 0 0, kf 9, kf 17, kf 9, vI 0, vI 0, vP 0 0, kf 9, vB true, vI 0]
def Pgdv23 : List Value := [vI 1, vI 0, kf 7, kf 8, vS 12 0 2 2, vI 0, vP 12 0, kf 7, vP 0 0, kf 9, vI 0, vI 0]
def Pgdv24 : List Value := [kf 9, kf 11, kf 25, vP 11 0, vT [kf 2, vB true], vP 10 0, vP 10 0, vP 10 2, vG [kf 9, vI 1], vI 0, vT [kf 2, vB true], kf 2]
def Pgdv25 : List Value := [vB true, vP 7 0, vP 10 0, kf 2, vI 0, vP 11 0, kf 25, vB true, vB false, vX, vX, vX]
def Pgdl42 : List Value := Pgdv6 ++ (Pgdv21 ++ (Pgdv16 ++ (Pgdv22 ++ (Pgdv23 ++ (Pgdv24 ++ (Pgdv25 ++ (Pgdv1 ++ (Pgdv1 ++ (Pgdv1 ++ (Pgdv1 ++ (Pgdv1 ++ Pgdv2)))))))))))
def Pgdo26 : Obj := oC 260002 [vU 1, vU 0, vU 0, vU 0, vU 0, vU 0, vU 0, vU 0, vU 0, vU 0, vU 0, vU 0, vU 0, vU 0, vU 0, vU 0, vU 0, vU 0, vU 0, vU 0, vU 0, vU 0, vU 0, vU 0, vU 0, vU 0, vU 0, vU 0, vU 0, vU 0, vU 0, vU 0, vU 0, vU 0, vU 0, vU 0, vU 0, vU 0, vU 0, vU 0, vU 0, vU 0, vU 0, vU 0, vU 0, vU 0, vU 0, vU 0, vU 0, vU 0, vU 0, vU 0, vU 0, vU 0, vU 0, vU 0, vU 0, vU 0, vU 0, vU 0, vU 0, vU 0, vU 0, vU 0, vU 0, vU 0, vU 0, vU 0, vU 0, vU 0, vU 0, vU 0, vU 0, vU 0, vU 0, vU 0, vU 0]
def Pgdo27 : Obj := oC 109 [.complex .f32 1 0, vI 2, kf 2, vU 0, kf 25, vI 1]
def Pgdo28 : Obj := oC 64 [.complex .f32 8 0, vI 2, kf 2, vU 0, kf 25, vI 1]
def Pgdh46 : List Obj := [Pgdo5, Pgdo26, Pgdo27, Pgdo10, Pgdo11, Pgdo12, oC 116 [vI 0, kf 9], Pgdo13, Pgdo26, Pgdo28, Pgdo15, oC 30 [kf 25, vU 0], oC 22 [kf 7, kf 8]]
def Pgdv29 : List Value := [kf 6, kf 24, vP 0 0, kf 9, kf 17, kf 9, vI 1, vI 64, vP 0 0, kf 9, vB false, vI 0]
def Pgdl48 : List Value := Pgdv6 ++ (Pgdv21 ++ (Pgdv16 ++ (Pgdv29 ++ (Pgdv23 ++ (Pgdv24 ++ (Pgdv25 ++ (Pgdv1 ++ (Pgdv1 ++ (Pgdv1 ++ (Pgdv1 ++ (Pgdv1 ++ Pgdv2)))))))))))
def Pgdh49 : List Obj := [Pgdo5, Pgdo26, Pgdo27, Pgdo10, Pgdo11, Pgdo12, oC 116 [vI 0, kf 9], Pgdo13, Pgdo26, Pgdo28, Pgdo15, oC 30 [kf 25, vU 0], oC 22 [kf 7, kf 8]]
def Pgdv30 : List Value := [kf 9, vP 11 0, vI 1, kf 2, vB true, vP 15 0, vX, vX, vX, vX, vX, vX]
def Pgdv31 : List Value := [vB true, vP 7 0, vP 10 0, kf 2, vI 0, vP 11 0, kf 25, vB true, vB false, vP 10 0, vP 10 0, vP 10 2]
def Pgdv32 : List Value := [vG [kf 9, vI 1], kf 9, vP 15 0, vX, vX, vX, vX, vX, vX, vX, vX, vX]
def Pgdl53 : List Value := Pgdv6 ++ (Pgdv30 ++ (Pgdv16 ++ (Pgdv29 ++ (Pgdv23 ++ (Pgdv24 ++ (Pgdv31 ++ (Pgdv32 ++ (Pgdv1 ++ (Pgdv1 ++ (Pgdv1 ++ (Pgdv1 ++ Pgdv2)))))))))))
def Pgdo33 : Obj := oC 75 [kf 9, vI 1, vF 51 [] [vP 22 0, vP 23 0], kf 9, vZ, vZ, vZ, vI 0, vI 2]
def Pgdo34 : Obj := oC 100 [kf 9, vI 1, vF 75 [] [vP 18 0, vP 19 0, vP 20 0, vP 21 0]]
def Pgdo35 : Obj := oC 102 [vF 53 [] [vP 17 0]]
def Pgdo36 : Obj := oC 98 [.iface 77 (vP 16 0)]
def Pgdo37 : Obj := oC 1 [vF 32 [] [vP 14 0, vP 13 0]]
def Pgdh59 : List Obj := [Pgdo5, Pgdo26, Pgdo27, Pgdo10, Pgdo11, Pgdo12, oC 116 [vI 0, kf 9], Pgdo13, Pgdo26, Pgdo28, Pgdo15, oC 30 [kf 25, vU 0], oC 22 [kf 7, kf 8], oC 3 [kf 9], oC 42 [vP 15 0], Pgdo33, Pgdo34, oC 77 [vP 16 0], oC 3 [vI 2], oC 22 [vU 0], oC 22 [vU 1], Pgdo35, Pgdo36, Pgdo37]
def Pgdv38 : List Value := [kf 9, vP 11 0, vI 1, kf 2, vB true, vP 15 0, vI 0, vX, vX, vX, vX, vX]
def Pgdl61 : List Value := Pgdv6 ++ (Pgdv38 ++ (Pgdv16 ++ (Pgdv29 ++ (Pgdv23 ++ (Pgdv24 ++ (Pgdv31 ++ (Pgdv32 ++ (Pgdv1 ++ (Pgdv1 ++ (Pgdv1 ++ (Pgdv1 ++ Pgdv2)))))))))))
def Pgdh62 : List Obj := [Pgdo5, Pgdo26, Pgdo27, Pgdo10, Pgdo11, Pgdo12, oC 116 [vI 0, kf 9], Pgdo13, Pgdo26, Pgdo28, Pgdo15, oC 30 [kf 25, vU 0], oC 22 [kf 7, kf 8], oC 3 [kf 9], oC 42 [vP 15 0], Pgdo33, Pgdo34, oC 77 [vP 16 0], oC 3 [vI 2], oC 22 [vU 0], oC 22 [vU 1], Pgdo35, Pgdo36, Pgdo37]
def Pgdv39 : List Value := [kf 9, vP 11 0, vI 1, kf 2, vB true, vP 13 0, vI 1, vX, vX, vX, vX, vX]
def Pgdv40 : List Value := [vG [kf 9, vI 1], kf 9, vP 13 0, vP 13 0, vB true, vB true, vI 0, vB true, vB true, vB true, vP 13 0, vB false]
def Pgdv41 : List Value := [vB true, vB true, vI 0, vI 1, vP 13 0, vP 7 0, vG [vI 3, vI 2, vU 0, vU 1], vX, vX, vX, vX, vX]
def Pgdl66 : List Value := Pgdv6 ++ (Pgdv39 ++ (Pgdv16 ++ (Pgdv29 ++ (Pgdv23 ++ (Pgdv24 ++ (Pgdv31 ++ (Pgdv40 ++ (Pgdv41 ++ (Pgdv1 ++ (Pgdv1 ++ (Pgdv1 ++ Pgdv2)))))))))))
def Pgdo42 : Obj := oC 260002 [vU 1, vU 0, vU 1, vU 0, vU 0, vU 0, vU 0, vU 0, vU 0, vU 0, vU 0, vU 0, vU 0, vU 0, vU 0, vU 0, vU 0, vU 0, vU 0, vU 0, vU 0, vU 0, vU 0, vU 0, vU 0, vU 0, vU 0, vU 0, vU 0, vU 0, vU 0, vU 0, vU 0, vU 0, vU 0, vU 0, vU 0, vU 0, vU 0, vU 0, vU 0, vU 0, vU 0, vU 0, vU 0, vU 0, vU 0, vU 0, vU 0, vU 0, vU 0, vU 0, vU 0, vU 0, vU 0, vU 0, vU 0, vU 0, vU 0, vU 0, vU 0, vU 0, vU 0, vU 0, vU 0, vU 0, vU 0, vU 0, vU 0, vU 0, vU 0, vU 0, vU 0, vU 0, vU 0, vU 0, vU 0]
def Pgdo43 : Obj := oC 109 [.complex .f32 1 0, vI 3, vI 2, vU 0, vU 1, vI 2]
def Pgdo44 : Obj := oC 75 [kf 9, vI 1, vF 55 [] [vP 15 0, vP 16 0, vP 14 0], kf 9, vZ, vZ, vZ, vI 0, vI 2]
def Pgdo45 : Obj := oC 80 [vF 34 [vP 13 0] []]
def Pgdo46 : Obj := oC 81 [vF 35 [vP 13 0] []]
def Pgdh72 : List Obj := [Pgdo5, Pgdo42, Pgdo43, Pgdo10, Pgdo11, Pgdo12, oC 116 [vI 0, kf 9], Pgdo13, Pgdo26, Pgdo28, Pgdo15, oC 30 [kf 25, vU 0], oC 22 [kf 7, kf 8], Pgdo44, oC 3 [kf 9], Pgdo45, Pgdo46]
def Pgdv47 : List Value := [kf 5, kf 6, kf 7, kf 8, vX, vX, vX, vX, vB false, vP 0 0, vP 6 0, vP 9 0]
def Pgdv48 : List Value := [kf 9, vP 10 0, vI 1, kf 2, vB true, vP 12 0, vI 2, vX, vX, vX, vX, vX]
def Pgdv49 : List Value := [kf 5, kf 16, kf 17, kf 9, vG [kf 9, vI 1, vZ], vT [vP 6 0, vP 9 0], vG [kf 9, vI 1, vZ], vT [vP 6 0, vP 9 0], vP 6 0, vP 9 0, vP 6 0, vB false]
def Pgdv50 : List Value := [vI 1, vI 0, kf 7, kf 8, vS 11 0 2 2, vI 0, vP 11 0, kf 7, vP 0 0, kf 9, vI 0, vI 0]
def Pgdv51 : List Value := [kf 9, kf 11, kf 25, vP 10 0, vT [kf 2, vB true], vP 9 0, vP 9 0, vP 9 2, vG [kf 9, vI 1], vI 0, vT [kf 2, vB true], kf 2]
def Pgdv52 : List Value := [vB true, vP 6 0, vP 9 0, kf 2, vI 0, vP 10 0, kf 25, vB true, vB false, vP 9 0, vP 9 0, vP 9 2]
def Pgdv53 : List Value := [vG [kf 9, vI 1], kf 9, vP 12 0, vP 12 0, vB true, vB true, vI 1, vB true, vB true, vB true, vP 12 0, vB false]
def Pgdv54 : List Value := [vB true, vB true, vI 1, vI 2, vP 12 0, vP 6 0, vG [vI 6, vI 0, kf 27, kf 28], vX, vX, vX, vX, vX]
def Pgdl81 : List Value := Pgdv47 ++ (Pgdv48 ++ (Pgdv49 ++ (Pgdv29 ++ (Pgdv50 ++ (Pgdv51 ++ (Pgdv52 ++ (Pgdv53 ++ (Pgdv54 ++ (Pgdv1 ++ (Pgdv1 ++ (Pgdv1 ++ Pgdv2)))))))))))
def Pgdo55 : Obj := oC 119 [kf 9, vZ, vI 1, vP 3 0, vS 5 0 0 1, kf 26]
def Pgdo56 : Obj := oC 64 [.complex .f32 7 0, vI 2, kf 2, vU 0, kf 25, vI 1]
def Pgdo57 : Obj := oC 40 [vP 8 0, vA, kf 9, vI 1]
def Pgdo58 : Obj := oC 75 [kf 9, vI 1, vF 108 [] [vP 18 0, vP 19 0, vP 20 0], kf 9, vZ, vZ, vS 13 0 1 1, vI 0, vI 2]
def Pgdo59 : Obj := oC 137 [vF 88 [] [vP 14 0, vP 17 0, vP 16 0, vP 15 0]]
def Pgdh87 : List Obj := [Pgdo5, Pgdo42, Pgdo43, oC 147 [vN, vI 0], Pgdo55, oC 116 [vI 0, vI 0], Pgdo13, Pgdo26, Pgdo56, Pgdo57, oC 30 [kf 25, vU 0], oC 22 [kf 7, kf 8], Pgdo58, oC 142 [vI 0, kf 11], oC 42 [vP 12 0], oC 3 [vI 0], oC 142 [vI 0, kf 11], oC 3 [kf 2], oC 3 [kf 1], oC 22 [kf 11], Pgdo59]
def Pgdv60 : List Value := [kf 9, vP 10 0, vI 1, kf 2, vB true, vP 12 0, vI 3, vX, vX, vX, vX, vX]
def Pgdv61 : List Value := [vG [kf 9, vI 1], kf 9, vP 12 0, vP 12 0, vB true, vB true, vI 2, vB true, vB true, vB true, vP 12 0, vB false]
def Pgdv62 : List Value := [vB true, vB true, vI 2, vI 3, vP 12 0, vP 6 0, vG [vI 5, kf 1, vU 0, kf 11], vX, vX, vX, vX, vX]
def Pgdl91 : List Value := Pgdv47 ++ (Pgdv60 ++ (Pgdv49 ++ (Pgdv29 ++ (Pgdv50 ++ (Pgdv51 ++ (Pgdv52 ++ (Pgdv61 ++ (Pgdv62 ++ (Pgdv1 ++ (Pgdv1 ++ (Pgdv1 ++ Pgdv2)))))))))))
def Pgdo63 : Obj := oC 260122 [vU 1, vU 0, vU 1, vU 0, vU 0, vU 0, vU 0, vU 0, vU 0, vU 0, vU 0, vU 0, vU 0, vU 0, vU 0, vU 0, vU 0, vU 0, vU 0, vU 0, vU 0, vU 0, vU 0, vU 0, vU 0, vU 0, vU 0, vU 0, vU 0, vU 0, vU 0, vU 0, vU 0, vU 0, vU 0, vU 0, vU 0, vU 0, vU 0, vU 0, vU 0, vU 0, vU 0, vU 0, vU 0, vU 0, vU 0, vU 0, vU 0, vU 0, vU 0, vU 0, vU 0, vU 0, vU 0, vU 0, vU 0, vU 0, vU 0, vU 0, vU 0, vU 0, vU 0, vU 0, vU 0, vU 0, vU 0, vU 0, vU 0, vU 0, vU 0, vU 0, vU 0, vU 0, vU 0, vU 0, vU 0]
def Pgdo64 : Obj := oC 109 [.complex .f32 1 0, vI 5, kf 1, vU 0, kf 11, vI 3]
def Pgdo65 : Obj := oC 75 [kf 9, vI 1, vF 100 [] [vP 18 0, vP 19 0], kf 9, vZ, vZ, vS 13 0 1 1, vI 0, vI 2]
def Pgdo66 : Obj := oC 137 [vF 89 [] [vP 16 0, vP 14 0, vP 15 0, vP 17 0]]
def Pgdh96 : List Obj := [Pgdo5, Pgdo63, Pgdo64, oC 147 [vN, vI 0], Pgdo55, oC 116 [vI 0, vI 0], Pgdo13, Pgdo26, Pgdo56, Pgdo57, oC 30 [kf 25, vU 0], oC 22 [kf 7, kf 8], Pgdo65, oC 142 [vI 0, kf 11], oC 42 [vP 12 0], oC 3 [vI 0], oC 142 [vI 0, kf 11], oC 3 [kf 2], oC 3 [kf 2], Pgdo66]
def Pgdv67 : List Value := [kf 9, vP 10 0, vI 1, kf 2, vB true, vP 12 0, vI 4, vX, vX, vX, vX, vX]
def Pgdv68 : List Value := [vG [kf 9, vI 1], kf 9, vP 12 0, vP 12 0, vB true, vB true, vI 3, vB true, vB true, vB true, vP 12 0, vB false]
def Pgdv69 : List Value := [vB true, vB true, vI 3, vI 4, vP 12 0, vP 6 0, vG [vI 1, kf 2, kf 25, kf 25], vX, vX, vX, vX, vX]
def Pgdl100 : List Value := Pgdv47 ++ (Pgdv67 ++ (Pgdv49 ++ (Pgdv29 ++ (Pgdv50 ++ (Pgdv51 ++ (Pgdv52 ++ (Pgdv68 ++ (Pgdv69 ++ (Pgdv1 ++ (Pgdv1 ++ (Pgdv1 ++ Pgdv2)))))))))))
def Pgdo70 : Obj := oC 109 [.complex .f32 1 0, vI 1, kf 2, kf 25, kf 25, vI 4]
def Pgdo71 : Obj := oC 75 [kf 9, vI 1, vF 51 [] [vP 20 0, vP 21 0], kf 9, vZ, vZ, vS 13 0 1 1, vI 0, vI 2]
def Pgdo72 : Obj := oC 176 [kf 9, vI 1, vF 125 [] [vP 17 0, vP 18 0, vP 19 0]]
def Pgdo73 : Obj := oC 1 [vF 54 [vP 16 0] []]
def Pgdo74 : Obj := oC 98 [.iface 158 (vP 16 0)]
def Pgdo75 : Obj := oC 1 [vF 104 [] [vP 15 0, vP 14 0]]
def Pgdh107 : List Obj := [Pgdo5, Pgdo63, Pgdo70, oC 147 [vN, vI 0], Pgdo55, oC 116 [vI 0, vI 0], Pgdo13, Pgdo26, Pgdo56, Pgdo57, oC 30 [kf 25, vU 0], oC 22 [kf 7, kf 8], Pgdo71, oC 142 [vI 0, kf 11], oC 42 [vP 12 0], oC 48 [vI 0], Pgdo72, oC 3 [vI 2], oC 22 [vU 0], Pgdo73, Pgdo74, Pgdo75]
def Pgdv76 : List Value := [kf 9, vP 10 0, vI 1, kf 2, vB true, vP 12 0, vI 5, vX, vX, vX, vX, vX]
def Pgdv77 : List Value := [vG [kf 9, vI 1], kf 9, vP 12 0, vP 12 0, vB true, vB true, vI 4, vB true, vB true, vB true, vP 12 0, vB false]
def Pgdv78 : List Value := [vB true, vB true, vI 4, vI 5, vP 12 0, vP 6 0, vG [vI 2, vI 2, vU 1, vU 0], vX, vX, vX, vX, vX]
def Pgdl111 : List Value := Pgdv47 ++ (Pgdv76 ++ (Pgdv49 ++ (Pgdv29 ++ (Pgdv50 ++ (Pgdv51 ++ (Pgdv52 ++ (Pgdv77 ++ (Pgdv78 ++ (Pgdv1 ++ (Pgdv1 ++ (Pgdv1 ++ Pgdv2)))))))))))
def Pgdo79 : Obj := oC 260122 [vU 1, vU 0, vU 0, vU 0, vU 0, vU 0, vU 0, vU 0, vU 0, vU 0, vU 0, vU 0, vU 0, vU 0, vU 0, vU 0, vU 0, vU 0, vU 0, vU 0, vU 0, vU 0, vU 0, vU 0, vU 0, vU 0, vU 0, vU 0, vU 0, vU 0, vU 0, vU 0, vU 0, vU 0, vU 0, vU 0, vU 0, vU 0, vU 0, vU 0, vU 0, vU 0, vU 0, vU 0, vU 0, vU 0, vU 0, vU 0, vU 0, vU 0, vU 0, vU 0, vU 0, vU 0, vU 0, vU 0, vU 0, vU 0, vU 0, vU 0, vU 0, vU 0, vU 0, vU 0, vU 0, vU 0, vU 0, vU 0, vU 0, vU 0, vU 0, vU 0, vU 0, vU 0, vU 0, vU 0, vU 0]
def Pgdo80 : Obj := oC 109 [.complex .f32 1 0, vI 2, vI 2, vU 1, vU 0, vI 5]
def Pgdo81 : Obj := oC 75 [kf 9, vI 1, .nilFunc, kf 9, vZ, vZ, vS 13 0 1 1, vI 0, vI 0]
def Pgdh115 : List Obj := [Pgdo5, Pgdo79, Pgdo80, oC 147 [vN, vI 0], Pgdo55, oC 116 [vI 0, vI 0], Pgdo13, Pgdo26, Pgdo56, Pgdo57, oC 30 [kf 25, vU 0], oC 22 [kf 7, kf 8], Pgdo81, oC 142 [vI 0, kf 11]]
def Pgdv82 : List Value := [vG [kf 9, vI 1], kf 9, vP 12 0, vP 12 0, vB true, vB true, vI 5, vB true, vB true, vB true, vP 12 0, vB true]
def Pgdv83 : List Value := [vB false, vB false, vI 4, vI 5, vP 12 0, vP 6 0, vG [vI 2, vI 2, vU 1, vU 0], vX, vX, vX, vX, vX]
def Pgdl118 : List Value := Pgdv47 ++ (Pgdv76 ++ (Pgdv49 ++ (Pgdv29 ++ (Pgdv50 ++ (Pgdv51 ++ (Pgdv52 ++ (Pgdv82 ++ (Pgdv83 ++ (Pgdv1 ++ (Pgdv1 ++ (Pgdv1 ++ Pgdv2)))))))))))
def Pgdh119 : List Obj := [Pgdo5, Pgdo79, Pgdo80, oC 147 [vN, vI 0], Pgdo55, oC 116 [vI 0, vI 0], Pgdo13, Pgdo26, Pgdo56, Pgdo57, oC 30 [kf 25, vU 0], oC 22 [kf 7, kf 8], Pgdo81, oC 142 [vI 0, kf 11]]
def Pgdv84 : List Value := [kf 9, vP 10 0, vI 1, kf 2, vB true, vP 12 0, vI 5, vI 0, vI 0, vX, vX, vX]
def Pgdv85 : List Value := [vB false, vB false, vI 4, vI 5, vP 12 0, vP 6 0, vG [vI 2, vI 2, vU 1, vU 0], vT [vI 0, vI 0], vP 12 0, vT [vI 0, vI 0], vI 0, vI 0]
def Pgdl122 : List Value := Pgdv47 ++ (Pgdv84 ++ (Pgdv49 ++ (Pgdv29 ++ (Pgdv50 ++ (Pgdv51 ++ (Pgdv52 ++ (Pgdv82 ++ (Pgdv85 ++ (Pgdv1 ++ (Pgdv1 ++ (Pgdv1 ++ Pgdv2)))))))))))
def Pgdh123 : List Obj := [Pgdo5, Pgdo79, Pgdo80, oC 147 [vN, vI 0], Pgdo55, oC 116 [vI 0, vI 0], Pgdo13, Pgdo26, Pgdo56, Pgdo57, oC 30 [kf 25, vU 0], oC 22 [kf 7, kf 8], Pgdo81, oC 142 [vI 0, kf 11]]
def Pgdv86 : List Value := [vI 0, vB false, vB false, vI 0, vB false, vB false, vX, vX, vX, vX, vX, vX]
def Pgdl125 : List Value := Pgdv47 ++ (Pgdv84 ++ (Pgdv49 ++ (Pgdv29 ++ (Pgdv50 ++ (Pgdv51 ++ (Pgdv52 ++ (Pgdv82 ++ (Pgdv85 ++ (Pgdv86 ++ (Pgdv1 ++ (Pgdv1 ++ Pgdv2)))))))))))
def Pgdh126 : List Obj := [Pgdo5, Pgdo79, Pgdo80, oC 147 [vN, vI 0], Pgdo55, oC 116 [vI 0, vI 0], Pgdo13, Pgdo26, Pgdo56, Pgdo57, oC 30 [kf 25, vU 0], oC 22 [kf 7, kf 8], Pgdo81, oC 142 [vI 0, kf 11]]
def Pgdl127 : List Value := Pgdv47 ++ (Pgdv84 ++ (Pgdv49 ++ (Pgdv29 ++ (Pgdv50 ++ (Pgdv51 ++ (Pgdv52 ++ (Pgdv82 ++ (Pgdv85 ++ (Pgdv86 ++ (Pgdv1 ++ (Pgdv1 ++ Pgdv2)))))))))))
def Pgdh128 : List Obj := [Pgdo5, Pgdo79, Pgdo80, oC 147 [vN, vI 0], Pgdo55, oC 116 [vI 0, vI 0], Pgdo13, Pgdo26, Pgdo56, Pgdo57, oC 30 [kf 25, vU 0], oC 22 [kf 7, kf 8], Pgdo81, oC 142 [vI 0, kf 11]]
theorem Pgdp0 : PgS PgdO (seqL (pgC 0)) Pg0 [] .normal Pgdl3 Pgdh4 := pgS_ev [] (by decide +kernel)
theorem Pgdp1 : PgS PgdO (seqL (pgC 1)) Pgdl3 Pgdh4 .normal Pgdl7 Pgdh9 := pgS_ev [0] (by decide +kernel)
theorem Pgdp2 : PgS PgdO (seqL (pgC 2)) Pgdl7 Pgdh9 .normal Pgdl12 Pgdh21 := pgS_ev [0, 13, 14, 15, 16, 20, 22, 23, 30, 31, 32] (by decide +kernel)
theorem Pgdp3 : PgS PgdO (seqL (seqL (pgC 3))) Pgdl12 Pgdh21 .normal Pgdl23 Pgdh24 := pgS_ev [0, 1, 2, 3, 4, 5, 6, 7, 8, 9, 10] (by decide +kernel)
theorem Pgdp4 : PgS PgdO (seqR (seqL (pgC 3))) Pgdl23 Pgdh24 .normal Pgdl25 Pgdh26 := pgS_ev [0, 1, 2, 3, 4, 5, 6, 7, 8, 9, 10] (by decide +kernel)
theorem Pgdp5 : PgS PgdO (seqL (pgC 4)) Pgdl25 Pgdh26 .normal Pgdl29 Pgdh30 := pgS_ev [0, 1, 2, 3, 4, 5, 6, 7, 8, 9, 10] (by decide +kernel)
theorem Pgdp6 : PgS PgdO (seqL (pgC 5)) Pgdl29 Pgdh30 .normal Pgdl32 Pgdh33 := pgS_ev [0, 1, 2, 3, 4, 5, 6, 7, 8, 9, 10, 11] (by decide +kernel)
theorem Pgdp7 : PgS PgdO (seqL (seqL (pgC 6))) Pgdl32 Pgdh33 .normal Pgdl35 Pgdh36 := pgS_ev [0, 1, 2, 3, 4, 5, 6, 7, 8, 9, 10, 11] (by decide +kernel)
theorem Pgdp8 : PgS PgdO (inL (inB (seqR (seqL (pgC 6))))) Pgdl35 Pgdh36 .normal Pgdl42 Pgdh46 := pgS_ev [0, 1, 2, 3, 4, 5, 6, 7, 8, 9, 10, 11, 12] (by decide +kernel)
theorem Pgdp9 : PgS PgdO (inL (inB (seqR (seqL (pgC 6))))) Pgdl42 Pgdh46 (.exit 0) Pgdl48 Pgdh49 := pgS_ev [0, 1, 2, 3, 4, 5, 6, 7, 8, 9, 10, 11, 12] (by decide +kernel)
theorem Pgdp10 : PgS PgdO (seqL (pgC 7)) Pgdl48 Pgdh49 .normal Pgdl53 Pgdh59 := pgS_ev [0, 1, 2, 3, 4, 5, 6, 7, 8, 9, 10, 11, 12, 14, 17, 18, 22, 23, 24, 25, 26, 27, 28, 29] (by decide +kernel)
theorem Pgdp11 : PgS PgdO (seqL (seqL (pgC 8))) Pgdl53 Pgdh59 .normal Pgdl61 Pgdh62 := pgS_ev [0, 1, 2, 3, 4, 5, 6, 7, 8, 9, 10, 11, 12, 13, 14, 15, 16, 17, 18, 19, 20, 21, 22, 23] (by decide +kernel)
theorem Pgdp12 : PgS PgdO (inL (inB (seqR (seqL (pgC 8))))) Pgdl61 Pgdh62 .normal Pgdl66 Pgdh72 := pgS_ev [0, 1, 2, 3, 4, 5, 6, 7, 8, 9, 10, 11, 12, 15, 34, 35, 36] (by decide +kernel)
theorem Pgdp13 : PgS PgdO (inL (inB (seqR (seqL (pgC 8))))) Pgdl66 Pgdh72 .normal Pgdl81 Pgdh87 := pgS_ev [0, 1, 2, 3, 4, 6, 7, 8, 9, 10, 11, 12, 13, 35, 36, 37, 38, 39, 56, 57, 58] (by decide +kernel)
theorem Pgdp14 : PgS PgdO (inL (inB (seqR (seqL (pgC 8))))) Pgdl81 Pgdh87 .normal Pgdl91 Pgdh96 := pgS_ev [0, 1, 2, 3, 4, 5, 6, 7, 8, 9, 10, 11, 12, 13, 14, 15, 16, 17, 25, 26] (by decide +kernel)
theorem Pgdp15 : PgS PgdO (inL (inB (seqR (seqL (pgC 8))))) Pgdl91 Pgdh96 .normal Pgdl100 Pgdh107 := pgS_ev [0, 1, 2, 3, 4, 5, 6, 7, 8, 9, 10, 11, 12, 13, 26, 27, 30, 31, 32, 33, 34, 35] (by decide +kernel)
theorem Pgdp16 : PgS PgdO (inL (inB (seqR (seqL (pgC 8))))) Pgdl100 Pgdh107 .normal Pgdl111 Pgdh115 := pgS_ev [0, 1, 2, 3, 4, 5, 6, 7, 8, 9, 10, 11, 12, 13] (by decide +kernel)
theorem Pgdp17 : PgS PgdO (inL (inB (seqR (seqL (pgC 8))))) Pgdl111 Pgdh115 (.exit 2) Pgdl118 Pgdh119 := pgS_ev [0, 1, 2, 3, 4, 5, 6, 7, 8, 9, 10, 11, 12, 13] (by decide +kernel)
theorem Pgdp18 : PgS PgdO (seqL (pgC 9)) Pgdl118 Pgdh119 .normal Pgdl122 Pgdh123 := pgS_ev [0, 1, 2, 3, 4, 5, 6, 7, 8, 9, 10, 11, 12, 13] (by decide +kernel)
theorem Pgdp19 : PgS PgdO (seqL (seqL (pgC 10))) Pgdl122 Pgdh123 .normal Pgdl125 Pgdh126 := pgS_ev [0, 1, 2, 3, 4, 5, 6, 7, 8, 9, 10, 11, 12, 13] (by decide +kernel)
theorem Pgdp20 : PgS PgdO (seqR (seqL (pgC 10))) Pgdl125 Pgdh126 .normal Pgdl127 Pgdh128 := pgS_ev [0, 1, 2, 3, 4, 5, 6, 7, 8, 9, 10, 11, 12, 13] (by decide +kernel)
theorem Pgdw : shrOk (fun j => decide (j < 11)) [(kf 9, kf 10), (kf 25, kf 11), (kf 11, kf 15), (kf 25, kf 13)] 0 [0, 1, 2, 6, 9, 10] Pgdl127 Pgdh128 Pg1A Pg1H = true := by decide +kernel
def Pgee : List Ent := [⟨.conv 5 3, [kf 5], kf 16⟩,
  ⟨.bin .rem 3, [kf 16, vI 128], kf 17⟩,
  ⟨.bin .add 3, [vI 1, kf 17], kf 9⟩,
  ⟨.bin .geq 3, [kf 9, vI 1], .bool true⟩,
  ⟨.bin .leq 3, [kf 9, vI 4096], .bool true⟩,
  ⟨.bin .mul 3, [vI 5, kf 9], kf 18⟩,
  ⟨.bin .add 3, [vI 82, kf 18], kf 19⟩,
  ⟨.bin .add 3, [kf 19, kf 9], kf 1⟩,
  ⟨.bin .add 3, [kf 9, vI 64], kf 20⟩,
  ⟨.bin .sub 3, [kf 20, vI 1], kf 21⟩,
  ⟨.bin .quo 3, [kf 21, vI 64], vI 2⟩,
  ⟨.bin .add 3, [kf 1, vI 2], kf 3⟩,
  ⟨.bin .add 3, [kf 3, vI 2], kf 0⟩,
  ⟨.bin .lss 3, [kf 0, vI 1], .bool false⟩,
  ⟨.bin .gtr 3, [kf 0, vI 65536], .bool false⟩,
  ⟨.bin .geq 3, [vI 0, kf 0], .bool false⟩,
  ⟨.bin .lss 3, [kf 9, vI 1], .bool false⟩,
  ⟨.bin .gtr 3, [kf 9, vI 4096], .bool false⟩,
  ⟨.bin .mul 3, [vI 8192, kf 9], kf 22⟩,
  ⟨.bin .add 3, [kf 22, vI 0], kf 22⟩,
  ⟨.bin .add 3, [vI 0, kf 9], kf 9⟩,
  ⟨.bin .mul 3, [vI 6, kf 9], kf 23⟩,
  ⟨.bin .add 3, [vI 82, kf 23], kf 1⟩,
  ⟨.bin .add 3, [kf 9, vI 63], kf 21⟩,
  ⟨.bin .add 3, [kf 1, vI 4], kf 0⟩,
  ⟨.conv 5 3, [kf 6], kf 24⟩,
  ⟨.bin .rem 3, [kf 24, kf 9], kf 25⟩,
  ⟨.bin .add 3, [vI 1, kf 25], kf 10⟩,
  ⟨.bin .lss 3, [vI 0, kf 9], .bool true⟩,
  ⟨.bin .sub 3, [kf 9, vI 0], kf 9⟩,
  ⟨.bin .and 22, [kf 7, .int .u64 18446744073709551615], kf 7⟩,
  ⟨.bin .add 3, [kf 1, vI 0], kf 1⟩,
  ⟨.bin .lss 3, [kf 3, vI 0], .bool false⟩,
  ⟨.bin .geq 3, [kf 3, kf 0], .bool false⟩,
  ⟨.bin .geq 3, [kf 3, vI 0], .bool true⟩,
  ⟨.bin .lss 3, [kf 3, kf 0], .bool true⟩,
  ⟨.bin .lss 3, [vI 64, kf 9], .bool true⟩,
  ⟨.bin .sub 3, [kf 9, vI 64], kf 15⟩,
  ⟨.bin .and 22, [kf 8, kf 11], kf 26⟩,
  ⟨.bin .add 3, [kf 1, vI 1], kf 2⟩,
  ⟨.bin .add 3, [kf 2, vI 2], kf 4⟩,
  ⟨.bin .lss 3, [kf 4, vI 0], .bool false⟩,
  ⟨.bin .geq 3, [kf 4, kf 0], .bool false⟩,
  ⟨.bin .geq 3, [kf 4, vI 0], .bool true⟩,
  ⟨.bin .lss 3, [kf 4, kf 0], .bool true⟩,
  ⟨.bin .lss 3, [vI 128, kf 9], .bool false⟩,
  ⟨.bin .lss 3, [kf 10, vI 1], .bool false⟩,
  ⟨.bin .gtr 3, [kf 10, vI 4096], .bool false⟩,
  ⟨.bin .neq 38, [vG [kf 9, vI 1], vG [kf 9, vI 1]], .bool false⟩,
  ⟨.bin .geq 3, [vI 2, kf 0], .bool false⟩,
  ⟨.bin .gtr 3, [kf 10, kf 9], .bool false⟩,
  ⟨.bin .mul 3, [vI 8192, kf 10], kf 27⟩,
  ⟨.bin .lss 3, [kf 22, kf 27], .bool false⟩,
  ⟨.bin .neq 3, [kf 22, kf 22], .bool false⟩,
  ⟨.bin .neq 3, [kf 9, kf 9], .bool false⟩,
  ⟨.bin .lss 3, [kf 9, kf 9], .bool false⟩,
  ⟨.bin .gtr 3, [kf 9, kf 9], .bool false⟩,
  ⟨.bin .sub 3, [kf 9, kf 9], kf 28⟩,
  ⟨.bin .gtr 3, [kf 9, kf 10], .bool true⟩,
  ⟨.bin .add 3, [vI 0, kf 10], kf 10⟩,
  ⟨.bin .sub 3, [kf 9, kf 10], kf 29⟩,
  ⟨.bin .mul 3, [vI 8192, kf 29], kf 30⟩,
  ⟨.bin .add 3, [kf 30, kf 10], kf 31⟩,
  ⟨.bin .add 3, [kf 28, kf 29], kf 29⟩,
  ⟨.bin .gtr 3, [kf 10, vI 1048576], .bool false⟩,
  ⟨.bin .lss 3, [vI 0, kf 10], .bool true⟩,
  ⟨.mn #[3, 3], [kf 10, vI 64], kf 10⟩,
  ⟨.bin .sub 3, [kf 10, vI 0], kf 10⟩,
  ⟨.bin .shl 22, [kf 12, vI 0], kf 12⟩,
  ⟨.bin .lss 3, [kf 10, kf 10], .bool false⟩,
  ⟨.bin .add 3, [kf 3, vI 0], kf 3⟩,
  ⟨.conv 3 22, [kf 10], kf 32⟩,
  ⟨.conv 3 22, [kf 29], kf 33⟩,
  ⟨.bin .lss 3, [kf 1, vI 0], .bool false⟩,
  ⟨.bin .geq 3, [kf 1, kf 0], .bool false⟩,
  ⟨.bin .add 22, [.int .u64 0, kf 12], kf 12⟩,
  ⟨.bin .and 22, [kf 7, kf 12], kf 34⟩,
  ⟨.bin .eql 22, [kf 34, .int .u64 0], .bool false⟩,
  ⟨.un .neg, [kf 34], kf 35⟩,
  ⟨.bin .add 22, [kf 7, kf 35], kf 36⟩]
def Pgef : List FnEnt := [⟨14, [], .bool true⟩,
  ⟨44, [kf 9, vZ], vA⟩,
  ⟨5, [kf 9], .int .u64 18446744073709551615⟩,
  ⟨5, [kf 15], kf 11⟩,
  ⟨106, [kf 10], kf 12⟩]
def PgeO : Orc := orcS Pgee Pgef 4 rdG noMkS
def Pgev0 : List Value := [kf 5, kf 6, kf 7, kf 8, vX, vX, vX, vX, vB false, vX, vX, vX]
def Pgev1 : List Value := [vX, vX, vX, vX, vX, vX, vX, vX, vX, vX, vX, vX]
def Pgev2 : List Value := [vX, vX, vX, vX, vX, vX]
def Pgel3 : List Value := Pgev0 ++ (Pgev1 ++ (Pgev1 ++ (Pgev1 ++ (Pgev1 ++ (Pgev1 ++ (Pgev1 ++ (Pgev1 ++ (Pgev1 ++ (Pgev1 ++ (Pgev1 ++ (Pgev1 ++ Pgev2)))))))))))
def Pgeh4 : List Obj := []
def Pgev3 : List Value := [kf 5, kf 6, kf 7, kf 8, vX, vX, vX, vX, vB false, vP 0 0, vX, vX]
def Pgev4 : List Value := [kf 5, kf 16, kf 17, kf 9, vG [kf 9, vI 1, vZ], vX, vX, vX, vX, vX, vX, vX]
def Pgel7 : List Value := Pgev3 ++ (Pgev1 ++ (Pgev4 ++ (Pgev1 ++ (Pgev1 ++ (Pgev1 ++ (Pgev1 ++ (Pgev1 ++ (Pgev1 ++ (Pgev1 ++ (Pgev1 ++ (Pgev1 ++ Pgev2)))))))))))
def Pgeo5 : Obj := oC 25 [kf 9, vI 1, vZ]
def Pgeh9 : List Obj := [Pgeo5]
def Pgev6 : List Value := [kf 5, kf 6, kf 7, kf 8, vX, vX, vX, vX, vB false, vP 0 0, vP 7 0, vP 10 0]
def Pgev7 : List Value := [kf 5, kf 16, kf 17, kf 9, vG [kf 9, vI 1, vZ], vT [vP 7 0, vP 10 0], vG [kf 9, vI 1, vZ], vT [vP 7 0, vP 10 0], vP 7 0, vP 10 0, vX, vX]
def Pgel12 : List Value := Pgev6 ++ (Pgev1 ++ (Pgev7 ++ (Pgev1 ++ (Pgev1 ++ (Pgev1 ++ (Pgev1 ++ (Pgev1 ++ (Pgev1 ++ (Pgev1 ++ (Pgev1 ++ (Pgev1 ++ Pgev2)))))))))))
def Pgeo8 : Obj := oC 4 [vU 1, vU 0, vU 0, vU 0, vU 0, vU 0, vU 0, vU 0, vU 0, vU 0, vU 0, vU 0, vU 0, vU 0, vU 0, vU 0, vU 0, vU 0, vU 0, vU 0, vU 0, vU 0, vU 0, vU 0, vU 0, vU 0, vU 0, vU 0, vU 0, vU 0, vU 0, vU 0, vU 0, vU 0, vU 0, vU 0, vU 0, vU 0, vU 0, vU 0, vU 0, vU 0, vU 0, vU 0, vU 0, vU 0, vU 0, vU 0, vU 0, vU 0, vU 0, vU 0, vU 0, vU 0, vU 0, vU 0, vU 0, vU 0, vU 0, vU 0, vU 0, vU 0, vU 0, vU 0, vU 0, vU 0, vU 0, vU 0, vU 0, vU 0, vU 0, vU 0, vU 0, vU 0, vU 0, vU 0, vU 0]
def Pgeo9 : Obj := oC 109 [.complex .f32 1 0, vI 0, vI 0, vU 0, vU 0, vI 0]
def Pgeo10 : Obj := oC 147 [vP 5 0, vI 1]
def Pgeo11 : Obj := oC 119 [kf 9, vZ, vI 1, vP 3 0, vS 6 0 1 1, kf 9]
def Pgeo12 : Obj := oC 167 [kf 22, .int .u32 0, vI 0, kf 9, vN, vN]
def Pgeo13 : Obj := oC 86 [kf 9, vI 1, vP 2 0, vP 4 0]
def Pgeo14 : Obj := oC 64 [.complex .f32 8 0, vI 0, vI 0, vU 0, vU 0, vI 0]
def Pgeo15 : Obj := oC 40 [vP 9 0, vA, kf 9, vI 1]
def Pgeh21 : List Obj := [Pgeo5, Pgeo8, Pgeo9, Pgeo10, Pgeo11, Pgeo12, oC 116 [vI 0, kf 9], Pgeo13, Pgeo8, Pgeo14, Pgeo15]
def Pgev16 : List Value := [kf 5, kf 16, kf 17, kf 9, vG [kf 9, vI 1, vZ], vT [vP 7 0, vP 10 0], vG [kf 9, vI 1, vZ], vT [vP 7 0, vP 10 0], vP 7 0, vP 10 0, vP 7 0, vB false]
def Pgel23 : List Value := Pgev6 ++ (Pgev1 ++ (Pgev16 ++ (Pgev1 ++ (Pgev1 ++ (Pgev1 ++ (Pgev1 ++ (Pgev1 ++ (Pgev1 ++ (Pgev1 ++ (Pgev1 ++ (Pgev1 ++ Pgev2)))))))))))
def Pgeh24 : List Obj := [Pgeo5, Pgeo8, Pgeo9, Pgeo10, Pgeo11, Pgeo12, oC 116 [vI 0, kf 9], Pgeo13, Pgeo8, Pgeo14, Pgeo15]
def Pgel25 : List Value := Pgev6 ++ (Pgev1 ++ (Pgev16 ++ (Pgev1 ++ (Pgev1 ++ (Pgev1 ++ (Pgev1 ++ (Pgev1 ++ (Pgev1 ++ (Pgev1 ++ (Pgev1 ++ (Pgev1 ++ Pgev2)))))))))))
def Pgeh26 : List Obj := [Pgeo5, Pgeo8, Pgeo9, Pgeo10, Pgeo11, Pgeo12, oC 116 [vI 0, kf 9], Pgeo13, Pgeo8, Pgeo14, Pgeo15]
def Pgev17 : List Value := [kf 10, vX, vX, vX, vX, vX, vX, vX, vX, vX, vX, vX]
def Pgev18 : List Value := [kf 6, kf 24, vP 0 0, kf 9, kf 25, kf 10, vX, vX, vX, vX, vX, vX]
def Pgel29 : List Value := Pgev6 ++ (Pgev17 ++ (Pgev16 ++ (Pgev18 ++ (Pgev1 ++ (Pgev1 ++ (Pgev1 ++ (Pgev1 ++ (Pgev1 ++ (Pgev1 ++ (Pgev1 ++ (Pgev1 ++ Pgev2)))))))))))
def Pgeh30 : List Obj := [Pgeo5, Pgeo8, Pgeo9, Pgeo10, Pgeo11, Pgeo12, oC 116 [vI 0, kf 9], Pgeo13, Pgeo8, Pgeo14, Pgeo15]
def Pgev19 : List Value := [kf 10, vP 11 0, vX, vX, vX, vX, vX, vX, vX, vX, vX, vX]
def Pgel32 : List Value := Pgev6 ++ (Pgev19 ++ (Pgev16 ++ (Pgev18 ++ (Pgev1 ++ (Pgev1 ++ (Pgev1 ++ (Pgev1 ++ (Pgev1 ++ (Pgev1 ++ (Pgev1 ++ (Pgev1 ++ Pgev2)))))))))))
def Pgeh33 : List Obj := [Pgeo5, Pgeo8, Pgeo9, Pgeo10, Pgeo11, Pgeo12, oC 116 [vI 0, kf 9], Pgeo13, Pgeo8, Pgeo14, Pgeo15, oC 30 [vU 0, vU 0]]
def Pgev20 : List Value := [kf 10, vP 11 0, vI 0, vX, vX, vX, vX, vX, vX, vX, vX, vX]
def Pgel35 : List Value := Pgev6 ++ (Pgev20 ++ (Pgev16 ++ (Pgev18 ++ (Pgev1 ++ (Pgev1 ++ (Pgev1 ++ (Pgev1 ++ (Pgev1 ++ (Pgev1 ++ (Pgev1 ++ (Pgev1 ++ Pgev2)))))))))))
def Pgeh36 : List Obj := [Pgeo5, Pgeo8, Pgeo9, Pgeo10, Pgeo11, Pgeo12, oC 116 [vI 0, kf 9], Pgeo13, Pgeo8, Pgeo14, Pgeo15, oC 30 [vU 0, vU 0]]
def Pgev21 : List Value := [kf 10, vP 11 0, vI 1, kf 3, vB true, vX, vX, vX, vX, vX, vX, vX]
def Pgev22 : List Value := [kf 6, kf 24, vP 0 0, kf 9, kf 25, kf 10, vI 0, vI 0, vP 0 0, kf 9, vB true, vI 0]
def Pgev23 : List Value := [vI 1, vI 0, kf 7, kf 8, vS 12 0 2 2, vI 0, vP 12 0, kf 7, vP 0 0, kf 9, vI 0, vI 0]
def Pgev24 : List Value := [kf 9, vU 18446744073709551615, kf 7, vP 11 0, vT [kf 3, vB true], vP 10 0, vP 10 0, vP 10 2, vG [kf 9, vI 1], vI 0, vT [kf 3, vB true], kf 3]
def Pgev25 : List Value := [vB true, vP 7 0, vP 10 0, kf 3, vI 0, vP 11 0, kf 7, vB true, vB false, vX, vX, vX]
def Pgel42 : List Value := Pgev6 ++ (Pgev21 ++ (Pgev16 ++ (Pgev22 ++ (Pgev23 ++ (Pgev24 ++ (Pgev25 ++ (Pgev1 ++ (Pgev1 ++ (Pgev1 ++ (Pgev1 ++ (Pgev1 ++ Pgev2)))))))))))
def Pgeo26 : Obj := oC 80000004 [vU 1, vU 0, vU 0, vU 0, vU 0, vU 0, vU 0, vU 0, vU 0, vU 0, vU 0, vU 0, vU 0, vU 0, vU 0, vU 0, vU 0, vU 0, vU 0, vU 0, vU 0, vU 0, vU 0, vU 0, vU 0, vU 0, vU 0, vU 0, vU 0, vU 0, vU 0, vU 0, vU 0, vU 0, vU 0, vU 0, vU 0, vU 0, vU 0, vU 0, vU 0, vU 0, vU 0, vU 0, vU 0, vU 0, vU 0, vU 0, vU 0, vU 0, vU 0, vU 0, vU 0, vU 0, vU 0, vU 0, vU 0, vU 0, vU 0, vU 0, vU 0, vU 0, vU 0, vU 0, vU 0, vU 0, vU 0, vU 0, vU 0, vU 0, vU 0, vU 0, vU 0, vU 0, vU 0, vU 0, vU 0]
def Pgeo27 : Obj := oC 109 [.complex .f32 1 0, vI 2, kf 3, vU 0, kf 7, vI 1]
def Pgeo28 : Obj := oC 64 [.complex .f32 8 0, vI 2, kf 3, vU 0, kf 7, vI 1]
def Pgeh46 : List Obj := [Pgeo5, Pgeo26, Pgeo27, Pgeo10, Pgeo11, Pgeo12, oC 116 [vI 0, kf 9], Pgeo13, Pgeo26, Pgeo28, Pgeo15, oC 30 [kf 7, vU 0], oC 22 [kf 7, kf 8]]
def Pgev29 : List Value := [kf 10, vP 11 0, vI 2, kf 4, vB true, vX, vX, vX, vX, vX, vX, vX]
def Pgev30 : List Value := [kf 6, kf 24, vP 0 0, kf 9, kf 25, kf 10, vI 1, vI 64, vP 0 0, kf 9, vB true, vI 1]
def Pgev31 : List Value := [vI 2, vI 1, kf 7, kf 8, vS 12 0 2 2, vI 1, vP 12 1, kf 8, vP 0 0, kf 9, vI 1, vI 64]
def Pgev32 : List Value := [kf 15, kf 11, kf 26, vP 11 1, vT [kf 4, vB true], vP 10 0, vP 10 0, vP 10 2, vG [kf 9, vI 1], vI 1, vT [kf 4, vB true], kf 4]
def Pgev33 : List Value := [vB true, vP 7 0, vP 10 0, kf 4, vI 1, vP 11 1, kf 26, vB true, vB false, vX, vX, vX]
def Pgel52 : List Value := Pgev6 ++ (Pgev29 ++ (Pgev16 ++ (Pgev30 ++ (Pgev31 ++ (Pgev32 ++ (Pgev33 ++ (Pgev1 ++ (Pgev1 ++ (Pgev1 ++ (Pgev1 ++ (Pgev1 ++ Pgev2)))))))))))
def Pgeo34 : Obj := oC 270080000004 [vU 1, vU 0, vU 0, vU 0, vU 0, vU 0, vU 0, vU 0, vU 0, vU 0, vU 0, vU 0, vU 0, vU 0, vU 0, vU 0, vU 0, vU 0, vU 0, vU 0, vU 0, vU 0, vU 0, vU 0, vU 0, vU 0, vU 0, vU 0, vU 0, vU 0, vU 0, vU 0, vU 0, vU 0, vU 0, vU 0, vU 0, vU 0, vU 0, vU 0, vU 0, vU 0, vU 0, vU 0, vU 0, vU 0, vU 0, vU 0, vU 0, vU 0, vU 0, vU 0, vU 0, vU 0, vU 0, vU 0, vU 0, vU 0, vU 0, vU 0, vU 0, vU 0, vU 0, vU 0, vU 0, vU 0, vU 0, vU 0, vU 0, vU 0, vU 0, vU 0, vU 0, vU 0, vU 0, vU 0, vU 0]
def Pgeo35 : Obj := oC 109 [.complex .f32 1 0, vI 2, kf 4, vU 0, kf 26, vI 2]
def Pgeo36 : Obj := oC 64 [.complex .f32 8 0, vI 2, kf 4, vU 0, kf 26, vI 2]
def Pgeh56 : List Obj := [Pgeo5, Pgeo34, Pgeo35, Pgeo10, Pgeo11, Pgeo12, oC 116 [vI 0, kf 9], Pgeo13, Pgeo34, Pgeo36, Pgeo15, oC 30 [kf 7, kf 26], oC 22 [kf 7, kf 8]]
def Pgev37 : List Value := [kf 6, kf 24, vP 0 0, kf 9, kf 25, kf 10, vI 2, vI 128, vP 0 0, kf 9, vB false, vI 1]
def Pgel58 : List Value := Pgev6 ++ (Pgev29 ++ (Pgev16 ++ (Pgev37 ++ (Pgev31 ++ (Pgev32 ++ (Pgev33 ++ (Pgev1 ++ (Pgev1 ++ (Pgev1 ++ (Pgev1 ++ (Pgev1 ++ Pgev2)))))))))))
def Pgeh59 : List Obj := [Pgeo5, Pgeo34, Pgeo35, Pgeo10, Pgeo11, Pgeo12, oC 116 [vI 0, kf 9], Pgeo13, Pgeo34, Pgeo36, Pgeo15, oC 30 [kf 7, kf 26], oC 22 [kf 7, kf 8]]
def Pgev38 : List Value := [kf 10, vP 11 0, vI 2, kf 4, vB true, vP 15 0, vX, vX, vX, vX, vX, vX]
def Pgev39 : List Value := [vB true, vP 7 0, vP 10 0, kf 4, vI 1, vP 11 1, kf 26, vB true, vB false, vP 10 0, vP 10 0, vP 10 2]
def Pgev40 : List Value := [vG [kf 9, vI 1], kf 10, vP 15 0, vX, vX, vX, vX, vX, vX, vX, vX, vX]
def Pgel63 : List Value := Pgev6 ++ (Pgev38 ++ (Pgev16 ++ (Pgev37 ++ (Pgev31 ++ (Pgev32 ++ (Pgev39 ++ (Pgev40 ++ (Pgev1 ++ (Pgev1 ++ (Pgev1 ++ (Pgev1 ++ Pgev2)))))))))))
def Pgeo41 : Obj := oC 75 [kf 9, vI 1, vF 51 [] [vP 22 0, vP 23 0], kf 10, vZ, vZ, vZ, vI 0, vI 2]
def Pgeo42 : Obj := oC 100 [kf 9, vI 1, vF 75 [] [vP 18 0, vP 19 0, vP 20 0, vP 21 0]]
def Pgeo43 : Obj := oC 102 [vF 53 [] [vP 17 0]]
def Pgeo44 : Obj := oC 98 [.iface 77 (vP 16 0)]
def Pgeo45 : Obj := oC 1 [vF 32 [] [vP 14 0, vP 13 0]]
def Pgeh69 : List Obj := [Pgeo5, Pgeo34, Pgeo35, Pgeo10, Pgeo11, Pgeo12, oC 116 [vI 0, kf 9], Pgeo13, Pgeo34, Pgeo36, Pgeo15, oC 30 [kf 7, kf 26], oC 22 [kf 7, kf 8], oC 3 [kf 10], oC 42 [vP 15 0], Pgeo41, Pgeo42, oC 77 [vP 16 0], oC 3 [vI 2], oC 22 [vU 0], oC 22 [vU 1], Pgeo43, Pgeo44, Pgeo45]
def Pgev46 : List Value := [kf 10, vP 11 0, vI 2, kf 4, vB true, vP 15 0, vI 0, vX, vX, vX, vX, vX]
def Pgel71 : List Value := Pgev6 ++ (Pgev46 ++ (Pgev16 ++ (Pgev37 ++ (Pgev31 ++ (Pgev32 ++ (Pgev39 ++ (Pgev40 ++ (Pgev1 ++ (Pgev1 ++ (Pgev1 ++ (Pgev1 ++ Pgev2)))))))))))
def Pgeh72 : List Obj := [Pgeo5, Pgeo34, Pgeo35, Pgeo10, Pgeo11, Pgeo12, oC 116 [vI 0, kf 9], Pgeo13, Pgeo34, Pgeo36, Pgeo15, oC 30 [kf 7, kf 26], oC 22 [kf 7, kf 8], oC 3 [kf 10], oC 42 [vP 15 0], Pgeo41, Pgeo42, oC 77 [vP 16 0], oC 3 [vI 2], oC 22 [vU 0], oC 22 [vU 1], Pgeo43, Pgeo44, Pgeo45]
def Pgev47 : List Value := [kf 10, vP 11 0, vI 2, kf 4, vB true, vP 13 0, vI 1, vX, vX, vX, vX, vX]
def Pgev48 : List Value := [vG [kf 9, vI 1], kf 10, vP 13 0, vP 13 0, vB true, vB true, vI 0, vB true, vB true, vB true, vP 13 0, vB false]
def Pgev49 : List Value := [vB true, vB true, vI 0, vI 1, vP 13 0, vP 7 0, vG [vI 3, vI 2, vU 0, vU 1], vX, vX, vX, vX, vX]
def Pgel76 : List Value := Pgev6 ++ (Pgev47 ++ (Pgev16 ++ (Pgev37 ++ (Pgev31 ++ (Pgev32 ++ (Pgev39 ++ (Pgev48 ++ (Pgev49 ++ (Pgev1 ++ (Pgev1 ++ (Pgev1 ++ Pgev2)))))))))))
def Pgeo50 : Obj := oC 270080000004 [vU 1, vU 0, vU 1, vU 0, vU 0, vU 0, vU 0, vU 0, vU 0, vU 0, vU 0, vU 0, vU 0, vU 0, vU 0, vU 0, vU 0, vU 0, vU 0, vU 0, vU 0, vU 0, vU 0, vU 0, vU 0, vU 0, vU 0, vU 0, vU 0, vU 0, vU 0, vU 0, vU 0, vU 0, vU 0, vU 0, vU 0, vU 0, vU 0, vU 0, vU 0, vU 0, vU 0, vU 0, vU 0, vU 0, vU 0, vU 0, vU 0, vU 0, vU 0, vU 0, vU 0, vU 0, vU 0, vU 0, vU 0, vU 0, vU 0, vU 0, vU 0, vU 0, vU 0, vU 0, vU 0, vU 0, vU 0, vU 0, vU 0, vU 0, vU 0, vU 0, vU 0, vU 0, vU 0, vU 0, vU 0]
def Pgeo51 : Obj := oC 109 [.complex .f32 1 0, vI 3, vI 2, vU 0, vU 1, vI 3]
def Pgeo52 : Obj := oC 75 [kf 9, vI 1, vF 55 [] [vP 15 0, vP 16 0, vP 14 0], kf 10, vZ, vZ, vZ, vI 0, vI 2]
def Pgeo53 : Obj := oC 80 [vF 34 [vP 13 0] []]
def Pgeo54 : Obj := oC 81 [vF 35 [vP 13 0] []]
def Pgeh82 : List Obj := [Pgeo5, Pgeo50, Pgeo51, Pgeo10, Pgeo11, Pgeo12, oC 116 [vI 0, kf 9], Pgeo13, Pgeo34, Pgeo36, Pgeo15, oC 30 [kf 7, kf 26], oC 22 [kf 7, kf 8], Pgeo52, oC 3 [kf 10], Pgeo53, Pgeo54]
def Pgev55 : List Value := [kf 5, kf 6, kf 7, kf 8, vX, vX, vX, vX, vB false, vP 0 0, vP 6 0, vP 9 0]
def Pgev56 : List Value := [kf 10, vP 10 0, vI 2, kf 4, vB true, vP 12 0, vI 2, vX, vX, vX, vX, vX]
def Pgev57 : List Value := [kf 5, kf 16, kf 17, kf 9, vG [kf 9, vI 1, vZ], vT [vP 6 0, vP 9 0], vG [kf 9, vI 1, vZ], vT [vP 6 0, vP 9 0], vP 6 0, vP 9 0, vP 6 0, vB false]
def Pgev58 : List Value := [vI 2, vI 1, kf 7, kf 8, vS 11 0 2 2, vI 1, vP 11 1, kf 8, vP 0 0, kf 9, vI 1, vI 64]
def Pgev59 : List Value := [kf 15, kf 11, kf 26, vP 10 1, vT [kf 4, vB true], vP 9 0, vP 9 0, vP 9 2, vG [kf 9, vI 1], vI 1, vT [kf 4, vB true], kf 4]
def Pgev60 : List Value := [vB true, vP 6 0, vP 9 0, kf 4, vI 1, vP 10 1, kf 26, vB true, vB false, vP 9 0, vP 9 0, vP 9 2]
def Pgev61 : List Value := [vG [kf 9, vI 1], kf 10, vP 12 0, vP 12 0, vB true, vB true, vI 1, vB true, vB true, vB true, vP 12 0, vB false]
def Pgev62 : List Value := [vB true, vB true, vI 1, vI 2, vP 12 0, vP 6 0, vG [vI 6, vI 0, kf 32, kf 33], vX, vX, vX, vX, vX]
def Pgel91 : List Value := Pgev55 ++ (Pgev56 ++ (Pgev57 ++ (Pgev37 ++ (Pgev58 ++ (Pgev59 ++ (Pgev60 ++ (Pgev61 ++ (Pgev62 ++ (Pgev1 ++ (Pgev1 ++ (Pgev1 ++ Pgev2)))))))))))
def Pgeo63 : Obj := oC 147 [vP 13 0, vI 1]
def Pgeo64 : Obj := oC 119 [kf 9, vZ, vI 2, vP 3 0, vS 5 0 1 1, kf 29]
def Pgeo65 : Obj := oC 116 [kf 10, kf 29]
def Pgeo66 : Obj := oC 64 [.complex .f32 7 0, vI 2, kf 4, vU 0, kf 26, vI 2]
def Pgeo67 : Obj := oC 40 [vP 8 0, vA, kf 9, vI 1]
def Pgeo68 : Obj := oC 75 [kf 9, vI 1, vF 108 [] [vP 19 0, vP 20 0, vP 21 0], kf 10, vZ, vZ, vS 14 0 1 1, vI 0, vI 2]
def Pgeo69 : Obj := oC 167 [kf 31, .int .u32 0, kf 10, kf 29, vN, vN]
def Pgeo70 : Obj := oC 137 [vF 88 [] [vP 15 0, vP 18 0, vP 17 0, vP 16 0]]
def Pgeh100 : List Obj := [Pgeo5, Pgeo50, Pgeo51, Pgeo63, Pgeo64, Pgeo65, Pgeo13, Pgeo34, Pgeo66, Pgeo67, oC 30 [kf 7, kf 26], oC 22 [kf 7, kf 8], Pgeo68, Pgeo69, oC 142 [vI 0, kf 12], oC 42 [vP 12 0], oC 3 [vI 0], oC 142 [vI 0, kf 12], oC 3 [kf 3], oC 3 [kf 1], oC 22 [kf 12], Pgeo70]
def Pgev71 : List Value := [kf 10, vP 10 0, vI 2, kf 4, vB true, vP 12 0, vI 3, vX, vX, vX, vX, vX]
def Pgev72 : List Value := [vG [kf 9, vI 1], kf 10, vP 12 0, vP 12 0, vB true, vB true, vI 2, vB true, vB true, vB true, vP 12 0, vB false]
def Pgev73 : List Value := [vB true, vB true, vI 2, vI 3, vP 12 0, vP 6 0, vG [vI 5, kf 1, vU 0, kf 12], vX, vX, vX, vX, vX]
def Pgel104 : List Value := Pgev55 ++ (Pgev71 ++ (Pgev57 ++ (Pgev37 ++ (Pgev58 ++ (Pgev59 ++ (Pgev60 ++ (Pgev72 ++ (Pgev73 ++ (Pgev1 ++ (Pgev1 ++ (Pgev1 ++ Pgev2)))))))))))
def Pgeo74 : Obj := oC 270080000134 [vU 1, vU 0, vU 1, vU 0, vU 0, vU 0, vU 0, vU 0, vU 0, vU 0, vU 0, vU 0, vU 0, vU 0, vU 0, vU 0, vU 0, vU 0, vU 0, vU 0, vU 0, vU 0, vU 0, vU 0, vU 0, vU 0, vU 0, vU 0, vU 0, vU 0, vU 0, vU 0, vU 0, vU 0, vU 0, vU 0, vU 0, vU 0, vU 0, vU 0, vU 0, vU 0, vU 0, vU 0, vU 0, vU 0, vU 0, vU 0, vU 0, vU 0, vU 0, vU 0, vU 0, vU 0, vU 0, vU 0, vU 0, vU 0, vU 0, vU 0, vU 0, vU 0, vU 0, vU 0, vU 0, vU 0, vU 0, vU 0, vU 0, vU 0, vU 0, vU 0, vU 0, vU 0, vU 0, vU 0, vU 0]
def Pgeo75 : Obj := oC 109 [.complex .f32 1 0, vI 5, kf 1, vU 0, kf 12, vI 4]
def Pgeo76 : Obj := oC 75 [kf 9, vI 1, vF 100 [] [vP 19 0, vP 20 0], kf 10, vZ, vZ, vS 14 0 1 1, vI 0, vI 2]
def Pgeo77 : Obj := oC 137 [vF 89 [] [vP 17 0, vP 15 0, vP 16 0, vP 18 0]]
def Pgeh109 : List Obj := [Pgeo5, Pgeo74, Pgeo75, Pgeo63, Pgeo64, Pgeo65, Pgeo13, Pgeo34, Pgeo66, Pgeo67, oC 30 [kf 7, kf 26], oC 22 [kf 7, kf 8], Pgeo76, Pgeo69, oC 142 [vI 0, kf 12], oC 42 [vP 12 0], oC 3 [vI 0], oC 142 [vI 0, kf 12], oC 3 [kf 3], oC 3 [kf 3], Pgeo77]
def Pgev78 : List Value := [kf 10, vP 10 0, vI 2, kf 4, vB true, vP 12 0, vI 4, vX, vX, vX, vX, vX]
def Pgev79 : List Value := [vG [kf 9, vI 1], kf 10, vP 12 0, vP 12 0, vB true, vB true, vI 3, vB true, vB true, vB true, vP 12 0, vB false]
def Pgev80 : List Value := [vB true, vB true, vI 3, vI 4, vP 12 0, vP 6 0, vG [vI 1, kf 3, kf 7, kf 7], vX, vX, vX, vX, vX]
def Pgel113 : List Value := Pgev55 ++ (Pgev78 ++ (Pgev57 ++ (Pgev37 ++ (Pgev58 ++ (Pgev59 ++ (Pgev60 ++ (Pgev79 ++ (Pgev80 ++ (Pgev1 ++ (Pgev1 ++ (Pgev1 ++ Pgev2)))))))))))
def Pgeo81 : Obj := oC 109 [.complex .f32 1 0, vI 1, kf 3, kf 7, kf 7, vI 5]
def Pgeo82 : Obj := oC 75 [kf 9, vI 1, vF 108 [] [vP 17 0, vP 18 0, vP 19 0], kf 10, vZ, vZ, vS 14 0 1 1, vI 0, vI 2]
def Pgeo83 : Obj := oC 137 [vF 90 [] [vP 15 0, vP 16 0]]
def Pgeh117 : List Obj := [Pgeo5, Pgeo74, Pgeo81, Pgeo63, Pgeo64, Pgeo65, Pgeo13, Pgeo34, Pgeo66, Pgeo67, oC 30 [kf 7, kf 26], oC 22 [kf 7, kf 8], Pgeo82, Pgeo69, oC 142 [vI 0, kf 12], oC 42 [vP 12 0], oC 3 [vI 0], oC 3 [kf 3], oC 22 [kf 35], Pgeo83]
def Pgev84 : List Value := [kf 10, vP 10 0, vI 2, kf 4, vB true, vP 12 0, vI 5, vX, vX, vX, vX, vX]
def Pgev85 : List Value := [vG [kf 9, vI 1], kf 10, vP 12 0, vP 12 0, vB true, vB true, vI 4, vB true, vB true, vB true, vP 12 0, vB false]
def Pgev86 : List Value := [vB true, vB true, vI 4, vI 5, vP 12 0, vP 6 0, vG [vI 5, kf 3, kf 7, kf 36], vX, vX, vX, vX, vX]
def Pgel121 : List Value := Pgev55 ++ (Pgev84 ++ (Pgev57 ++ (Pgev37 ++ (Pgev58 ++ (Pgev59 ++ (Pgev60 ++ (Pgev85 ++ (Pgev86 ++ (Pgev1 ++ (Pgev1 ++ (Pgev1 ++ Pgev2)))))))))))
def Pgeo87 : Obj := oC 270370000134 [vU 1, vU 0, vU 1, vU 0, vU 0, vU 0, vU 0, vU 0, vU 0, vU 0, vU 0, vU 0, vU 0, vU 0, vU 0, vU 0, vU 0, vU 0, vU 0, vU 0, vU 0, vU 0, vU 0, vU 0, vU 0, vU 0, vU 0, vU 0, vU 0, vU 0, vU 0, vU 0, vU 0, vU 0, vU 0, vU 0, vU 0, vU 0, vU 0, vU 0, vU 0, vU 0, vU 0, vU 0, vU 0, vU 0, vU 0, vU 0, vU 0, vU 0, vU 0, vU 0, vU 0, vU 0, vU 0, vU 0, vU 0, vU 0, vU 0, vU 0, vU 0, vU 0, vU 0, vU 0, vU 0, vU 0, vU 0, vU 0, vU 0, vU 0, vU 0, vU 0, vU 0, vU 0, vU 0, vU 0, vU 0]
def Pgeo88 : Obj := oC 109 [.complex .f32 1 0, vI 5, kf 3, kf 7, kf 36, vI 6]
def Pgeo89 : Obj := oC 75 [kf 9, vI 1, vF 51 [] [vP 21 0, vP 22 0], kf 10, vZ, vZ, vS 14 0 1 1, vI 0, vI 2]
def Pgeo90 : Obj := oC 176 [kf 9, vI 1, vF 125 [] [vP 18 0, vP 19 0, vP 20 0]]
def Pgeo91 : Obj := oC 1 [vF 54 [vP 17 0] []]
def Pgeo92 : Obj := oC 98 [.iface 158 (vP 17 0)]
def Pgeo93 : Obj := oC 1 [vF 104 [] [vP 16 0, vP 15 0]]
def Pgeh129 : List Obj := [Pgeo5, Pgeo87, Pgeo88, Pgeo63, Pgeo64, Pgeo65, Pgeo13, Pgeo34, Pgeo66, Pgeo67, oC 30 [kf 7, kf 26], oC 22 [kf 7, kf 8], Pgeo89, Pgeo69, oC 142 [vI 0, kf 12], oC 42 [vP 12 0], oC 48 [vI 0], Pgeo90, oC 3 [vI 2], oC 22 [vU 0], Pgeo91, Pgeo92, Pgeo93]
def Pgev94 : List Value := [kf 10, vP 10 0, vI 2, kf 4, vB true, vP 12 0, vI 6, vX, vX, vX, vX, vX]
def Pgev95 : List Value := [vG [kf 9, vI 1], kf 10, vP 12 0, vP 12 0, vB true, vB true, vI 5, vB true, vB true, vB true, vP 12 0, vB false]
def Pgev96 : List Value := [vB true, vB true, vI 5, vI 6, vP 12 0, vP 6 0, vG [vI 2, vI 2, vU 1, vU 0], vX, vX, vX, vX, vX]
def Pgel133 : List Value := Pgev55 ++ (Pgev94 ++ (Pgev57 ++ (Pgev37 ++ (Pgev58 ++ (Pgev59 ++ (Pgev60 ++ (Pgev95 ++ (Pgev96 ++ (Pgev1 ++ (Pgev1 ++ (Pgev1 ++ Pgev2)))))))))))
def Pgeo97 : Obj := oC 270370000134 [vU 1, vU 0, vU 0, vU 0, vU 0, vU 0, vU 0, vU 0, vU 0, vU 0, vU 0, vU 0, vU 0, vU 0, vU 0, vU 0, vU 0, vU 0, vU 0, vU 0, vU 0, vU 0, vU 0, vU 0, vU 0, vU 0, vU 0, vU 0, vU 0, vU 0, vU 0, vU 0, vU 0, vU 0, vU 0, vU 0, vU 0, vU 0, vU 0, vU 0, vU 0, vU 0, vU 0, vU 0, vU 0, vU 0, vU 0, vU 0, vU 0, vU 0, vU 0, vU 0, vU 0, vU 0, vU 0, vU 0, vU 0, vU 0, vU 0, vU 0, vU 0, vU 0, vU 0, vU 0, vU 0, vU 0, vU 0, vU 0, vU 0, vU 0, vU 0, vU 0, vU 0, vU 0, vU 0, vU 0, vU 0]
def Pgeo98 : Obj := oC 109 [.complex .f32 1 0, vI 2, vI 2, vU 1, vU 0, vI 7]
def Pgeo99 : Obj := oC 75 [kf 9, vI 1, .nilFunc, kf 10, vZ, vZ, vS 14 0 1 1, vI 0, vI 0]
def Pgeh137 : List Obj := [Pgeo5, Pgeo97, Pgeo98, Pgeo63, Pgeo64, Pgeo65, Pgeo13, Pgeo34, Pgeo66, Pgeo67, oC 30 [kf 7, kf 26], oC 22 [kf 7, kf 8], Pgeo99, Pgeo69, oC 142 [vI 0, kf 12]]
def Pgev100 : List Value := [vG [kf 9, vI 1], kf 10, vP 12 0, vP 12 0, vB true, vB true, vI 6, vB true, vB true, vB true, vP 12 0, vB true]
def Pgev101 : List Value := [vB false, vB false, vI 5, vI 6, vP 12 0, vP 6 0, vG [vI 2, vI 2, vU 1, vU 0], vX, vX, vX, vX, vX]
def Pgel140 : List Value := Pgev55 ++ (Pgev94 ++ (Pgev57 ++ (Pgev37 ++ (Pgev58 ++ (Pgev59 ++ (Pgev60 ++ (Pgev100 ++ (Pgev101 ++ (Pgev1 ++ (Pgev1 ++ (Pgev1 ++ Pgev2)))))))))))
def Pgeh141 : List Obj := [Pgeo5, Pgeo97, Pgeo98, Pgeo63, Pgeo64, Pgeo65, Pgeo13, Pgeo34, Pgeo66, Pgeo67, oC 30 [kf 7, kf 26], oC 22 [kf 7, kf 8], Pgeo99, Pgeo69, oC 142 [vI 0, kf 12]]
def Pgev102 : List Value := [kf 10, vP 10 0, vI 2, kf 4, vB true, vP 12 0, vI 6, vI 0, vI 0, vX, vX, vX]
def Pgev103 : List Value := [vB false, vB false, vI 5, vI 6, vP 12 0, vP 6 0, vG [vI 2, vI 2, vU 1, vU 0], vT [vI 0, vI 0], vP 12 0, vT [vI 0, vI 0], vI 0, vI 0]
def Pgel144 : List Value := Pgev55 ++ (Pgev102 ++ (Pgev57 ++ (Pgev37 ++ (Pgev58 ++ (Pgev59 ++ (Pgev60 ++ (Pgev100 ++ (Pgev103 ++ (Pgev1 ++ (Pgev1 ++ (Pgev1 ++ Pgev2)))))))))))
def Pgeh145 : List Obj := [Pgeo5, Pgeo97, Pgeo98, Pgeo63, Pgeo64, Pgeo65, Pgeo13, Pgeo34, Pgeo66, Pgeo67, oC 30 [kf 7, kf 26], oC 22 [kf 7, kf 8], Pgeo99, Pgeo69, oC 142 [vI 0, kf 12]]
def Pgev104 : List Value := [vI 0, vB false, vB false, vI 0, vB false, vB false, vX, vX, vX, vX, vX, vX]
def Pgel147 : List Value := Pgev55 ++ (Pgev102 ++ (Pgev57 ++ (Pgev37 ++ (Pgev58 ++ (Pgev59 ++ (Pgev60 ++ (Pgev100 ++ (Pgev103 ++ (Pgev104 ++ (Pgev1 ++ (Pgev1 ++ Pgev2)))))))))))
def Pgeh148 : List Obj := [Pgeo5, Pgeo97, Pgeo98, Pgeo63, Pgeo64, Pgeo65, Pgeo13, Pgeo34, Pgeo66, Pgeo67, oC 30 [kf 7, kf 26], oC 22 [kf 7, kf 8], Pgeo99, Pgeo69, oC 142 [vI 0, kf 12]]
def Pgel149 : List Value := Pgev55 ++ (Pgev102 ++ (Pgev57 ++ (Pgev37 ++ (Pgev58 ++ (Pgev59 ++ (Pgev60 ++ (Pgev100 ++ (Pgev103 ++ (Pgev104 ++ (Pgev1 ++ (Pgev1 ++ Pgev2)))))))))))
def Pgeh150 : List Obj := [Pgeo5, Pgeo97, Pgeo98, Pgeo63, Pgeo64, Pgeo65, Pgeo13, Pgeo34, Pgeo66, Pgeo67, oC 30 [kf 7, kf 26], oC 22 [kf 7, kf 8], Pgeo99, Pgeo69, oC 142 [vI 0, kf 12]]
theorem Pgep0 : PgS PgeO (seqL (pgC 0)) Pg0 [] .normal Pgel3 Pgeh4 := pgS_ev [] (by decide +kernel)
theorem Pgep1 : PgS PgeO (seqL (pgC 1)) Pgel3 Pgeh4 .normal Pgel7 Pgeh9 := pgS_ev [0] (by decide +kernel)
theorem Pgep2 : PgS PgeO (seqL (pgC 2)) Pgel7 Pgeh9 .normal Pgel12 Pgeh21 := pgS_ev [0, 13, 14, 15, 16, 20, 22, 23, 30, 31, 32] (by decide +kernel)
theorem Pgep3 : PgS PgeO (seqL (seqL (pgC 3))) Pgel12 Pgeh21 .normal Pgel23 Pgeh24 := pgS_ev [0, 1, 2, 3, 4, 5, 6, 7, 8, 9, 10] (by decide +kernel)
theorem Pgep4 : PgS PgeO (seqR (seqL (pgC 3))) Pgel23 Pgeh24 .normal Pgel25 Pgeh26 := pgS_ev [0, 1, 2, 3, 4, 5, 6, 7, 8, 9, 10] (by decide +kernel)
theorem Pgep5 : PgS PgeO (seqL (pgC 4)) Pgel25 Pgeh26 .normal Pgel29 Pgeh30 := pgS_ev [0, 1, 2, 3, 4, 5, 6, 7, 8, 9, 10] (by decide +kernel)
theorem Pgep6 : PgS PgeO (seqL (pgC 5)) Pgel29 Pgeh30 .normal Pgel32 Pgeh33 := pgS_ev [0, 1, 2, 3, 4, 5, 6, 7, 8, 9, 10, 11] (by decide +kernel)
theorem Pgep7 : PgS PgeO (seqL (seqL (pgC 6))) Pgel32 Pgeh33 .normal Pgel35 Pgeh36 := pgS_ev [0, 1, 2, 3, 4, 5, 6, 7, 8, 9, 10, 11] (by decide +kernel)
theorem Pgep8 : PgS PgeO (inL (inB (seqR (seqL (pgC 6))))) Pgel35 Pgeh36 .normal Pgel42 Pgeh46 := pgS_ev [0, 1, 2, 3, 4, 5, 6, 7, 8, 9, 10, 11, 12] (by decide +kernel)
theorem Pgep9 : PgS PgeO (inL (inB (seqR (seqL (pgC 6))))) Pgel42 Pgeh46 .normal Pgel52 Pgeh56 := pgS_ev [0, 1, 2, 3, 4, 5, 6, 7, 8, 9, 10, 11, 13] (by decide +kernel)
theorem Pgep10 : PgS PgeO (inL (inB (seqR (seqL (pgC 6))))) Pgel52 Pgeh56 (.exit 0) Pgel58 Pgeh59 := pgS_ev [0, 1, 2, 3, 4, 5, 6, 7, 8, 9, 10, 11, 12] (by decide +kernel)
theorem Pgep11 : PgS PgeO (seqL (pgC 7)) Pgel58 Pgeh59 .normal Pgel63 Pgeh69 := pgS_ev [0, 1, 2, 3, 4, 5, 6, 7, 8, 9, 10, 11, 12, 14, 17, 18, 22, 23, 24, 25, 26, 27, 28, 29] (by decide +kernel)
theorem Pgep12 : PgS PgeO (seqL (seqL (pgC 8))) Pgel63 Pgeh69 .normal Pgel71 Pgeh72 := pgS_ev [0, 1, 2, 3, 4, 5, 6, 7, 8, 9, 10, 11, 12, 13, 14, 15, 16, 17, 18, 19, 20, 21, 22, 23] (by decide +kernel)
theorem Pgep13 : PgS PgeO (inL (inB (seqR (seqL (pgC 8))))) Pgel71 Pgeh72 .normal Pgel76 Pgeh82 := pgS_ev [0, 1, 2, 3, 4, 5, 6, 7, 8, 9, 10, 11, 12, 15, 34, 35, 36] (by decide +kernel)
theorem Pgep14 : PgS PgeO (inL (inB (seqR (seqL (pgC 8))))) Pgel76 Pgeh82 .normal Pgel91 Pgeh100 := pgS_ev [0, 1, 2, 3, 4, 6, 7, 8, 9, 10, 11, 12, 13, 33, 40, 41, 42, 43, 44, 61, 62, 63] (by decide +kernel)
theorem Pgep15 : PgS PgeO (inL (inB (seqR (seqL (pgC 8))))) Pgel91 Pgeh100 .normal Pgel104 Pgeh109 := pgS_ev [0, 1, 2, 3, 4, 5, 6, 7, 8, 9, 10, 11, 12, 13, 14, 15, 16, 17, 18, 26, 27] (by decide +kernel)
theorem Pgep16 : PgS PgeO (inL (inB (seqR (seqL (pgC 8))))) Pgel104 Pgeh109 .normal Pgel113 Pgeh117 := pgS_ev [0, 1, 2, 3, 4, 5, 6, 7, 8, 9, 10, 11, 12, 13, 14, 15, 16, 25, 26, 27] (by decide +kernel)
theorem Pgep17 : PgS PgeO (inL (inB (seqR (seqL (pgC 8))))) Pgel113 Pgeh117 .normal Pgel121 Pgeh129 := pgS_ev [0, 1, 2, 3, 4, 5, 6, 7, 8, 9, 10, 11, 12, 13, 14, 26, 27, 30, 31, 32, 33, 34, 35] (by decide +kernel)
theorem Pgep18 : PgS PgeO (inL (inB (seqR (seqL (pgC 8))))) Pgel121 Pgeh129 .normal Pgel133 Pgeh137 := pgS_ev [0, 1, 2, 3, 4, 5, 6, 7, 8, 9, 10, 11, 12, 13, 14] (by decide +kernel)
theorem Pgep19 : PgS PgeO (inL (inB (seqR (seqL (pgC 8))))) Pgel133 Pgeh137 (.exit 2) Pgel140 Pgeh141 := pgS_ev [0, 1, 2, 3, 4, 5, 6, 7, 8, 9, 10, 11, 12, 13, 14] (by decide +kernel)
theorem Pgep20 : PgS PgeO (seqL (pgC 9)) Pgel140 Pgeh141 .normal Pgel144 Pgeh145 := pgS_ev [0, 1, 2, 3, 4, 5, 6, 7, 8, 9, 10, 11, 12, 13, 14] (by decide +kernel)
theorem Pgep21 : PgS PgeO (seqL (seqL (pgC 10))) Pgel144 Pgeh145 .normal Pgel147 Pgeh148 := pgS_ev [0, 1, 2, 3, 4, 5, 6, 7, 8, 9, 10, 11, 12, 13, 14] (by decide +kernel)
theorem Pgep22 : PgS PgeO (seqR (seqL (pgC 10))) Pgel147 Pgeh148 .normal Pgel149 Pgeh150 := pgS_ev [0, 1, 2, 3, 4, 5, 6, 7, 8, 9, 10, 11, 12, 13, 14] (by decide +kernel)
theorem Pgew : shrOk (fun j => decide (j < 11)) [(kf 10, kf 10), (kf 7, kf 11), (kf 26, kf 12), (kf 12, kf 15), (vU 0, kf 16), (kf 36, kf 13), (kf 26, kf 14)] 0 [0, 1, 2, 6, 9, 10] Pgel149 Pgeh150 Pg2A Pg2H = true := by decide +kernel
def Pgfe : List Ent := [⟨.conv 5 3, [kf 5], kf 16⟩,
  ⟨.bin .rem 3, [kf 16, vI 128], kf 17⟩,
  ⟨.bin .add 3, [vI 1, kf 17], kf 9⟩,
  ⟨.bin .geq 3, [kf 9, vI 1], .bool true⟩,
  ⟨.bin .leq 3, [kf 9, vI 4096], .bool true⟩,
  ⟨.bin .mul 3, [vI 5, kf 9], kf 18⟩,
  ⟨.bin .add 3, [vI 82, kf 18], kf 19⟩,
  ⟨.bin .add 3, [kf 19, kf 9], kf 1⟩,
  ⟨.bin .add 3, [kf 9, vI 64], kf 20⟩,
  ⟨.bin .sub 3, [kf 20, vI 1], kf 21⟩,
  ⟨.bin .quo 3, [kf 21, vI 64], vI 2⟩,
  ⟨.bin .add 3, [kf 1, vI 2], kf 3⟩,
  ⟨.bin .add 3, [kf 3, vI 2], kf 0⟩,
  ⟨.bin .lss 3, [kf 0, vI 1], .bool false⟩,
  ⟨.bin .gtr 3, [kf 0, vI 65536], .bool false⟩,
  ⟨.bin .geq 3, [vI 0, kf 0], .bool false⟩,
  ⟨.bin .lss 3, [kf 9, vI 1], .bool false⟩,
  ⟨.bin .gtr 3, [kf 9, vI 4096], .bool false⟩,
  ⟨.bin .mul 3, [vI 8192, kf 9], kf 22⟩,
  ⟨.bin .add 3, [kf 22, vI 0], kf 22⟩,
  ⟨.bin .add 3, [vI 0, kf 9], kf 9⟩,
  ⟨.bin .mul 3, [vI 6, kf 9], kf 23⟩,
  ⟨.bin .add 3, [vI 82, kf 23], kf 1⟩,
  ⟨.bin .add 3, [kf 9, vI 63], kf 21⟩,
  ⟨.bin .add 3, [kf 1, vI 4], kf 0⟩,
  ⟨.conv 5 3, [kf 6], kf 24⟩,
  ⟨.bin .rem 3, [kf 24, kf 9], kf 25⟩,
  ⟨.bin .add 3, [vI 1, kf 25], kf 10⟩,
  ⟨.bin .lss 3, [vI 0, kf 9], .bool true⟩,
  ⟨.bin .sub 3, [kf 9, vI 0], kf 9⟩,
  ⟨.bin .and 22, [kf 7, .int .u64 18446744073709551615], kf 7⟩,
  ⟨.bin .add 3, [kf 1, vI 0], kf 1⟩,
  ⟨.bin .lss 3, [kf 3, vI 0], .bool false⟩,
  ⟨.bin .geq 3, [kf 3, kf 0], .bool false⟩,
  ⟨.bin .geq 3, [kf 3, vI 0], .bool true⟩,
  ⟨.bin .lss 3, [kf 3, kf 0], .bool true⟩,
  ⟨.bin .lss 3, [vI 64, kf 9], .bool true⟩,
  ⟨.bin .sub 3, [kf 9, vI 64], kf 15⟩,
  ⟨.bin .and 22, [kf 8, kf 11], kf 26⟩,
  ⟨.bin .add 3, [kf 1, vI 1], kf 2⟩,
  ⟨.bin .add 3, [kf 2, vI 2], kf 4⟩,
  ⟨.bin .lss 3, [kf 4, vI 0], .bool false⟩,
  ⟨.bin .geq 3, [kf 4, kf 0], .bool false⟩,
  ⟨.bin .geq 3, [kf 4, vI 0], .bool true⟩,
  ⟨.bin .lss 3, [kf 4, kf 0], .bool true⟩,
  ⟨.bin .lss 3, [vI 128, kf 9], .bool false⟩,
  ⟨.bin .lss 3, [kf 10, vI 1], .bool false⟩,
  ⟨.bin .gtr 3, [kf 10, vI 4096], .bool false⟩,
  ⟨.bin .neq 38, [vG [kf 9, vI 1], vG [kf 9, vI 1]], .bool false⟩,
  ⟨.bin .geq 3, [vI 2, kf 0], .bool false⟩,
  ⟨.bin .gtr 3, [kf 10, kf 9], .bool false⟩,
  ⟨.bin .mul 3, [vI 8192, kf 10], kf 27⟩,
  ⟨.bin .lss 3, [kf 22, kf 27], .bool false⟩,
  ⟨.bin .neq 3, [kf 22, kf 22], .bool false⟩,
  ⟨.bin .neq 3, [kf 9, kf 9], .bool false⟩,
  ⟨.bin .lss 3, [kf 9, kf 9], .bool false⟩,
  ⟨.bin .gtr 3, [kf 9, kf 9], .bool false⟩,
  ⟨.bin .sub 3, [kf 9, kf 9], kf 28⟩,
  ⟨.bin .gtr 3, [kf 9, kf 10], .bool true⟩,
  ⟨.bin .add 3, [vI 0, kf 10], kf 10⟩,
  ⟨.bin .sub 3, [kf 9, kf 10], kf 29⟩,
  ⟨.bin .mul 3, [vI 8192, kf 29], kf 30⟩,
  ⟨.bin .add 3, [kf 30, kf 10], kf 31⟩,
  ⟨.bin .add 3, [kf 28, kf 29], kf 29⟩,
  ⟨.bin .gtr 3, [kf 10, vI 1048576], .bool false⟩,
  ⟨.bin .lss 3, [vI 0, kf 10], .bool true⟩,
  ⟨.mn #[3, 3], [kf 10, vI 64], kf 10⟩,
  ⟨.bin .sub 3, [kf 10, vI 0], kf 10⟩,
  ⟨.bin .shl 22, [kf 12, vI 0], kf 12⟩,
  ⟨.bin .lss 3, [kf 10, kf 10], .bool false⟩,
  ⟨.bin .add 3, [kf 3, vI 0], kf 3⟩,
  ⟨.conv 3 22, [kf 10], kf 32⟩,
  ⟨.conv 3 22, [kf 29], kf 33⟩,
  ⟨.bin .lss 3, [kf 1, vI 0], .bool false⟩,
  ⟨.bin .geq 3, [kf 1, kf 0], .bool false⟩,
  ⟨.bin .add 22, [.int .u64 0, kf 12], kf 12⟩,
  ⟨.bin .and 22, [kf 7, kf 12], kf 34⟩,
  ⟨.bin .eql 22, [kf 34, .int .u64 0], .bool true⟩]
def Pgff : List FnEnt := [⟨14, [], .bool true⟩,
  ⟨44, [kf 9, vZ], vA⟩,
  ⟨5, [kf 9], .int .u64 18446744073709551615⟩,
  ⟨5, [kf 15], kf 11⟩,
  ⟨106, [kf 10], kf 12⟩]
def PgfO : Orc := orcS Pgfe Pgff 4 rdG noMkS
def Pgfv0 : List Value := [kf 5, kf 6, kf 7, kf 8, vX, vX, vX, vX, vB false, vX, vX, vX]
def Pgfv1 : List Value := [vX, vX, vX, vX, vX, vX, vX, vX, vX, vX, vX, vX]
def Pgfv2 : List Value := [vX, vX, vX, vX, vX, vX]
def Pgfl3 : List Value := Pgfv0 ++ (Pgfv1 ++ (Pgfv1 ++ (Pgfv1 ++ (Pgfv1 ++ (Pgfv1 ++ (Pgfv1 ++ (Pgfv1 ++ (Pgfv1 ++ (Pgfv1 ++ (Pgfv1 ++ (Pgfv1 ++ Pgfv2)))))))))))
def Pgfh4 : List Obj := []
def Pgfv3 : List Value := [kf 5, kf 6, kf 7, kf 8, vX, vX, vX, vX, vB false, vP 0 0, vX, vX]
def Pgfv4 : List Value := [kf 5, kf 16, kf 17, kf 9, vG [kf 9, vI 1, vZ], vX, vX, vX, vX, vX, vX, vX]
def Pgfl7 : List Value := Pgfv3 ++ (Pgfv1 ++ (Pgfv4 ++ (Pgfv1 ++ (Pgfv1 ++ (Pgfv1 ++ (Pgfv1 ++ (Pgfv1 ++ (Pgfv1 ++ (Pgfv1 ++ (Pgfv1 ++ (Pgfv1 ++ Pgfv2)))))))))))
def Pgfo5 : Obj := oC 25 [kf 9, vI 1, vZ]
def Pgfh9 : List Obj := [Pgfo5]
def Pgfv6 : List Value := [kf 5, kf 6, kf 7, kf 8, vX, vX, vX, vX, vB false, vP 0 0, vP 7 0, vP 10 0]
def Pgfv7 : List Value := [kf 5, kf 16, kf 17, kf 9, vG [kf 9, vI 1, vZ], vT [vP 7 0, vP 10 0], vG [kf 9, vI 1, vZ], vT [vP 7 0, vP 10 0], vP 7 0, vP 10 0, vX, vX]
def Pgfl12 : List Value := Pgfv6 ++ (Pgfv1 ++ (Pgfv7 ++ (Pgfv1 ++ (Pgfv1 ++ (Pgfv1 ++ (Pgfv1 ++ (Pgfv1 ++ (Pgfv1 ++ (Pgfv1 ++ (Pgfv1 ++ (Pgfv1 ++ Pgfv2)))))))))))
def Pgfo8 : Obj := oC 4 [vU 1, vU 0, vU 0, vU 0, vU 0, vU 0, vU 0, vU 0, vU 0, vU 0, vU 0, vU 0, vU 0, vU 0, vU 0, vU 0, vU 0, vU 0, vU 0, vU 0, vU 0, vU 0, vU 0, vU 0, vU 0, vU 0, vU 0, vU 0, vU 0, vU 0, vU 0, vU 0, vU 0, vU 0, vU 0, vU 0, vU 0, vU 0, vU 0, vU 0, vU 0, vU 0, vU 0, vU 0, vU 0, vU 0, vU 0, vU 0, vU 0, vU 0, vU 0, vU 0, vU 0, vU 0, vU 0, vU 0, vU 0, vU 0, vU 0, vU 0, vU 0, vU 0, vU 0, vU 0, vU 0, vU 0, vU 0, vU 0, vU 0, vU 0, vU 0, vU 0, vU 0, vU 0, vU 0, vU 0, vU 0]
def Pgfo9 : Obj := oC 109 [.complex .f32 1 0, vI 0, vI 0, vU 0, vU 0, vI 0]
def Pgfo10 : Obj := oC 147 [vP 5 0, vI 1]
def Pgfo11 : Obj := oC 119 [kf 9, vZ, vI 1, vP 3 0, vS 6 0 1 1, kf 9]
def Pgfo12 : Obj := oC 167 [kf 22, .int .u32 0, vI 0, kf 9, vN, vN]
def Pgfo13 : Obj := oC 86 [kf 9, vI 1, vP 2 0, vP 4 0]
def Pgfo14 : Obj := oC 64 [.complex .f32 8 0, vI 0, vI 0, vU 0, vU 0, vI 0]
def Pgfo15 : Obj := oC 40 [vP 9 0, vA, kf 9, vI 1]
def Pgfh21 : List Obj := [Pgfo5, Pgfo8, Pgfo9, Pgfo10, Pgfo11, Pgfo12, oC 116 [vI 0, kf 9], Pgfo13, Pgfo8, Pgfo14, Pgfo15]
def Pgfv16 : List Value := [kf 5, kf 16, kf 17, kf 9, vG [kf 9, vI 1, vZ], vT [vP 7 0, vP 10 0], vG [kf 9, vI 1, vZ], vT [vP 7 0, vP 10 0], vP 7 0, vP 10 0, vP 7 0, vB false]
def Pgfl23 : List Value := Pgfv6 ++ (Pgfv1 ++ (Pgfv16 ++ (Pgfv1 ++ (Pgfv1 ++ (Pgfv1 ++ (Pgfv1 ++ (Pgfv1 ++ (Pgfv1 ++ (Pgfv1 ++ (Pgfv1 ++ (Pgfv1 ++ Pgfv2)))))))))))
def Pgfh24 : List Obj := [Pgfo5, Pgfo8, Pgfo9, Pgfo10, Pgfo11, Pgfo12, oC 116 [vI 0, kf 9], Pgfo13, Pgfo8, Pgfo14, Pgfo15]
def Pgfl25 : List Value := Pgfv6 ++ (Pgfv1 ++ (Pgfv16 ++ (Pgfv1 ++ (Pgfv1 ++ (Pgfv1 ++ (Pgfv1 ++ (Pgfv1 ++ (Pgfv1 ++ (Pgfv1 ++ (Pgfv1 ++ (Pgfv1 ++ Pgfv2)))))))))))
def Pgfh26 : List Obj := [Pgfo5, Pgfo8, Pgfo9, Pgfo10, Pgfo11, Pgfo12, oC 116 [vI 0, kf 9], Pgfo13, Pgfo8, Pgfo14, Pgfo15]
def Pgfv17 : List Value := [kf 10, vX, vX, vX, vX, vX, vX, vX, vX, vX, vX, vX]
def Pgfv18 : List Value := [kf 6, kf 24, vP 0 0, kf 9, kf 25, kf 10, vX, vX, vX, vX, vX, vX]
def Pgfl29 : List Value := Pgfv6 ++ (Pgfv17 ++ (Pgfv16 ++ (Pgfv18 ++ (Pgfv1 ++ (Pgfv1 ++ (Pgfv1 ++ (Pgfv1 ++ (Pgfv1 ++ (Pgfv1 ++ (Pgfv1 ++ (Pgfv1 ++ Pgfv2)))))))))))
def Pgfh30 : List Obj := [Pgfo5, Pgfo8, Pgfo9, Pgfo10, Pgfo11, Pgfo12, oC 116 [vI 0, kf 9], Pgfo13, Pgfo8, Pgfo14, Pgfo15]
def Pgfv19 : List Value := [kf 10, vP 11 0, vX, vX, vX, vX, vX, vX, vX, vX, vX, vX]
def Pgfl32 : List Value := Pgfv6 ++ (Pgfv19 ++ (Pgfv16 ++ (Pgfv18 ++ (Pgfv1 ++ (Pgfv1 ++ (Pgfv1 ++ (Pgfv1 ++ (Pgfv1 ++ (Pgfv1 ++ (Pgfv1 ++ (Pgfv1 ++ Pgfv2)))))))))))
def Pgfh33 : List Obj := [Pgfo5, Pgfo8, Pgfo9, Pgfo10, Pgfo11, Pgfo12, oC 116 [vI 0, kf 9], Pgfo13, Pgfo8, Pgfo14, Pgfo15, oC 30 [vU 0, vU 0]]
def Pgfv20 : List Value := [kf 10, vP 11 0, vI 0, vX, vX, vX, vX, vX, vX, vX, vX, vX]
def Pgfl35 : List Value := Pgfv6 ++ (Pgfv20 ++ (Pgfv16 ++ (Pgfv18 ++ (Pgfv1 ++ (Pgfv1 ++ (Pgfv1 ++ (Pgfv1 ++ (Pgfv1 ++ (Pgfv1 ++ (Pgfv1 ++ (Pgfv1 ++ Pgfv2)))))))))))
def Pgfh36 : List Obj := [Pgfo5, Pgfo8, Pgfo9, Pgfo10, Pgfo11, Pgfo12, oC 116 [vI 0, kf 9], Pgfo13, Pgfo8, Pgfo14, Pgfo15, oC 30 [vU 0, vU 0]]
def Pgfv21 : List Value := [kf 10, vP 11 0, vI 1, kf 3, vB true, vX, vX, vX, vX, vX, vX, vX]
def Pgfv22 : List Value := [kf 6, kf 24, vP 0 0, kf 9, kf 25, kf 10, vI 0, vI 0, vP 0 0, kf 9, vB true, vI 0]
def Pgfv23 : List Value := [vI 1, vI 0, kf 7, kf 8, vS 12 0 2 2, vI 0, vP 12 0, kf 7, vP 0 0, kf 9, vI 0, vI 0]
def Pgfv24 : List Value := [kf 9, vU 18446744073709551615, kf 7, vP 11 0, vT [kf 3, vB true], vP 10 0, vP 10 0, vP 10 2, vG [kf 9, vI 1], vI 0, vT [kf 3, vB true], kf 3]
def Pgfv25 : List Value := [vB true, vP 7 0, vP 10 0, kf 3, vI 0, vP 11 0, kf 7, vB true, vB false, vX, vX, vX]
def Pgfl42 : List Value := Pgfv6 ++ (Pgfv21 ++ (Pgfv16 ++ (Pgfv22 ++ (Pgfv23 ++ (Pgfv24 ++ (Pgfv25 ++ (Pgfv1 ++ (Pgfv1 ++ (Pgfv1 ++ (Pgfv1 ++ (Pgfv1 ++ Pgfv2)))))))))))
def Pgfo26 : Obj := oC 80000004 [vU 1, vU 0, vU 0, vU 0, vU 0, vU 0, vU 0, vU 0, vU 0, vU 0, vU 0, vU 0, vU 0, vU 0, vU 0, vU 0, vU 0, vU 0, vU 0, vU 0, vU 0, vU 0, vU 0, vU 0, vU 0, vU 0, vU 0, vU 0, vU 0, vU 0, vU 0, vU 0, vU 0, vU 0, vU 0, vU 0, vU 0, vU 0, vU 0, vU 0, vU 0, vU 0, vU 0, vU 0, vU 0, vU 0, vU 0, vU 0, vU 0, vU 0, vU 0, vU 0, vU 0, vU 0, vU 0, vU 0, vU 0, vU 0, vU 0, vU 0, vU 0, vU 0, vU 0, vU 0, vU 0, vU 0, vU 0, vU 0, vU 0, vU 0, vU 0, vU 0, vU 0, vU 0, vU 0, vU 0, vU 0]
def Pgfo27 : Obj := oC 109 [.complex .f32 1 0, vI 2, kf 3, vU 0, kf 7, vI 1]
def Pgfo28 : Obj := oC 64 [.complex .f32 8 0, vI 2, kf 3, vU 0, kf 7, vI 1]
def Pgfh46 : List Obj := [Pgfo5, Pgfo26, Pgfo27, Pgfo10, Pgfo11, Pgfo12, oC 116 [vI 0, kf 9], Pgfo13, Pgfo26, Pgfo28, Pgfo15, oC 30 [kf 7, vU 0], oC 22 [kf 7, kf 8]]
def Pgfv29 : List Value := [kf 10, vP 11 0, vI 2, kf 4, vB true, vX, vX, vX, vX, vX, vX, vX]
def Pgfv30 : List Value := [kf 6, kf 24, vP 0 0, kf 9, kf 25, kf 10, vI 1, vI 64, vP 0 0, kf 9, vB true, vI 1]
def Pgfv31 : List Value := [vI 2, vI 1, kf 7, kf 8, vS 12 0 2 2, vI 1, vP 12 1, kf 8, vP 0 0, kf 9, vI 1, vI 64]
def Pgfv32 : List Value := [kf 15, kf 11, kf 26, vP 11 1, vT [kf 4, vB true], vP 10 0, vP 10 0, vP 10 2, vG [kf 9, vI 1], vI 1, vT [kf 4, vB true], kf 4]
def Pgfv33 : List Value := [vB true, vP 7 0, vP 10 0, kf 4, vI 1, vP 11 1, kf 26, vB true, vB false, vX, vX, vX]
def Pgfl52 : List Value := Pgfv6 ++ (Pgfv29 ++ (Pgfv16 ++ (Pgfv30 ++ (Pgfv31 ++ (Pgfv32 ++ (Pgfv33 ++ (Pgfv1 ++ (Pgfv1 ++ (Pgfv1 ++ (Pgfv1 ++ (Pgfv1 ++ Pgfv2)))))))))))
def Pgfo34 : Obj := oC 270080000004 [vU 1, vU 0, vU 0, vU 0, vU 0, vU 0, vU 0, vU 0, vU 0, vU 0, vU 0, vU 0, vU 0, vU 0, vU 0, vU 0, vU 0, vU 0, vU 0, vU 0, vU 0, vU 0, vU 0, vU 0, vU 0, vU 0, vU 0, vU 0, vU 0, vU 0, vU 0, vU 0, vU 0, vU 0, vU 0, vU 0, vU 0, vU 0, vU 0, vU 0, vU 0, vU 0, vU 0, vU 0, vU 0, vU 0, vU 0, vU 0, vU 0, vU 0, vU 0, vU 0, vU 0, vU 0, vU 0, vU 0, vU 0, vU 0, vU 0, vU 0, vU 0, vU 0, vU 0, vU 0, vU 0, vU 0, vU 0, vU 0, vU 0, vU 0, vU 0, vU 0, vU 0, vU 0, vU 0, vU 0, vU 0]
def Pgfo35 : Obj := oC 109 [.complex .f32 1 0, vI 2, kf 4, vU 0, kf 26, vI 2]
def Pgfo36 : Obj := oC 64 [.complex .f32 8 0, vI 2, kf 4, vU 0, kf 26, vI 2]
def Pgfh56 : List Obj := [Pgfo5, Pgfo34, Pgfo35, Pgfo10, Pgfo11, Pgfo12, oC 116 [vI 0, kf 9], Pgfo13, Pgfo34, Pgfo36, Pgfo15, oC 30 [kf 7, kf 26], oC 22 [kf 7, kf 8]]
def Pgfv37 : List Value := [kf 6, kf 24, vP 0 0, kf 9, kf 25, kf 10, vI 2, vI 128, vP 0 0, kf 9, vB false, vI 1]
def Pgfl58 : List Value := Pgfv6 ++ (Pgfv29 ++ (Pgfv16 ++ (Pgfv37 ++ (Pgfv31 ++ (Pgfv32 ++ (Pgfv33 ++ (Pgfv1 ++ (Pgfv1 ++ (Pgfv1 ++ (Pgfv1 ++ (Pgfv1 ++ Pgfv2)))))))))))
def Pgfh59 : List Obj := [Pgfo5, Pgfo34, Pgfo35, Pgfo10, Pgfo11, Pgfo12, oC 116 [vI 0, kf 9], Pgfo13, Pgfo34, Pgfo36, Pgfo15, oC 30 [kf 7, kf 26], oC 22 [kf 7, kf 8]]
def Pgfv38 : List Value := [kf 10, vP 11 0, vI 2, kf 4, vB true, vP 15 0, vX, vX, vX, vX, vX, vX]
def Pgfv39 : List Value := [vB true, vP 7 0, vP 10 0, kf 4, vI 1, vP 11 1, kf 26, vB true, vB false, vP 10 0, vP 10 0, vP 10 2]
def Pgfv40 : List Value := [vG [kf 9, vI 1], kf 10, vP 15 0, vX, vX, vX, vX, vX, vX, vX, vX, vX]
def Pgfl63 : List Value := Pgfv6 ++ (Pgfv38 ++ (Pgfv16 ++ (Pgfv37 ++ (Pgfv31 ++ (Pgfv32 ++ (Pgfv39 ++ (Pgfv40 ++ (Pgfv1 ++ (Pgfv1 ++ (Pgfv1 ++ (Pgfv1 ++ Pgfv2)))))))))))
def Pgfo41 : Obj := oC 75 [kf 9, vI 1, vF 51 [] [vP 22 0, vP 23 0], kf 10, vZ, vZ, vZ, vI 0, vI 2]
def Pgfo42 : Obj := oC 100 [kf 9, vI 1, vF 75 [] [vP 18 0, vP 19 0, vP 20 0, vP 21 0]]
def Pgfo43 : Obj := oC 102 [vF 53 [] [vP 17 0]]
def Pgfo44 : Obj := oC 98 [.iface 77 (vP 16 0)]
def Pgfo45 : Obj := oC 1 [vF 32 [] [vP 14 0, vP 13 0]]
def Pgfh69 : List Obj := [Pgfo5, Pgfo34, Pgfo35, Pgfo10, Pgfo11, Pgfo12, oC 116 [vI 0, kf 9], Pgfo13, Pgfo34, Pgfo36, Pgfo15, oC 30 [kf 7, kf 26], oC 22 [kf 7, kf 8], oC 3 [kf 10], oC 42 [vP 15 0], Pgfo41, Pgfo42, oC 77 [vP 16 0], oC 3 [vI 2], oC 22 [vU 0], oC 22 [vU 1], Pgfo43, Pgfo44, Pgfo45]
def Pgfv46 : List Value := [kf 10, vP 11 0, vI 2, kf 4, vB true, vP 15 0, vI 0, vX, vX, vX, vX, vX]
def Pgfl71 : List Value := Pgfv6 ++ (Pgfv46 ++ (Pgfv16 ++ (Pgfv37 ++ (Pgfv31 ++ (Pgfv32 ++ (Pgfv39 ++ (Pgfv40 ++ (Pgfv1 ++ (Pgfv1 ++ (Pgfv1 ++ (Pgfv1 ++ Pgfv2)))))))))))
def Pgfh72 : List Obj := [Pgfo5, Pgfo34, Pgfo35, Pgfo10, Pgfo11, Pgfo12, oC 116 [vI 0, kf 9], Pgfo13, Pgfo34, Pgfo36, Pgfo15, oC 30 [kf 7, kf 26], oC 22 [kf 7, kf 8], oC 3 [kf 10], oC 42 [vP 15 0], Pgfo41, Pgfo42, oC 77 [vP 16 0], oC 3 [vI 2], oC 22 [vU 0], oC 22 [vU 1], Pgfo43, Pgfo44, Pgfo45]
def Pgfv47 : List Value := [kf 10, vP 11 0, vI 2, kf 4, vB true, vP 13 0, vI 1, vX, vX, vX, vX, vX]
def Pgfv48 : List Value := [vG [kf 9, vI 1], kf 10, vP 13 0, vP 13 0, vB true, vB true, vI 0, vB true, vB true, vB true, vP 13 0, vB false]
def Pgfv49 : List Value := [vB true, vB true, vI 0, vI 1, vP 13 0, vP 7 0, vG [vI 3, vI 2, vU 0, vU 1], vX, vX, vX, vX, vX]
def Pgfl76 : List Value := Pgfv6 ++ (Pgfv47 ++ (Pgfv16 ++ (Pgfv37 ++ (Pgfv31 ++ (Pgfv32 ++ (Pgfv39 ++ (Pgfv48 ++ (Pgfv49 ++ (Pgfv1 ++ (Pgfv1 ++ (Pgfv1 ++ Pgfv2)))))))))))
def Pgfo50 : Obj := oC 270080000004 [vU 1, vU 0, vU 1, vU 0, vU 0, vU 0, vU 0, vU 0, vU 0, vU 0, vU 0, vU 0, vU 0, vU 0, vU 0, vU 0, vU 0, vU 0, vU 0, vU 0, vU 0, vU 0, vU 0, vU 0, vU 0, vU 0, vU 0, vU 0, vU 0, vU 0, vU 0, vU 0, vU 0, vU 0, vU 0, vU 0, vU 0, vU 0, vU 0, vU 0, vU 0, vU 0, vU 0, vU 0, vU 0, vU 0, vU 0, vU 0, vU 0, vU 0, vU 0, vU 0, vU 0, vU 0, vU 0, vU 0, vU 0, vU 0, vU 0, vU 0, vU 0, vU 0, vU 0, vU 0, vU 0, vU 0, vU 0, vU 0, vU 0, vU 0, vU 0, vU 0, vU 0, vU 0, vU 0, vU 0, vU 0]
def Pgfo51 : Obj := oC 109 [.complex .f32 1 0, vI 3, vI 2, vU 0, vU 1, vI 3]
def Pgfo52 : Obj := oC 75 [kf 9, vI 1, vF 55 [] [vP 15 0, vP 16 0, vP 14 0], kf 10, vZ, vZ, vZ, vI 0, vI 2]
def Pgfo53 : Obj := oC 80 [vF 34 [vP 13 0] []]
def Pgfo54 : Obj := oC 81 [vF 35 [vP 13 0] []]
def Pgfh82 : List Obj := [Pgfo5, Pgfo50, Pgfo51, Pgfo10, Pgfo11, Pgfo12, oC 116 [vI 0, kf 9], Pgfo13, Pgfo34, Pgfo36, Pgfo15, oC 30 [kf 7, kf 26], oC 22 [kf 7, kf 8], Pgfo52, oC 3 [kf 10], Pgfo53, Pgfo54]
def Pgfv55 : List Value := [kf 5, kf 6, kf 7, kf 8, vX, vX, vX, vX, vB false, vP 0 0, vP 6 0, vP 9 0]
def Pgfv56 : List Value := [kf 10, vP 10 0, vI 2, kf 4, vB true, vP 12 0, vI 2, vX, vX, vX, vX, vX]
def Pgfv57 : List Value := [kf 5, kf 16, kf 17, kf 9, vG [kf 9, vI 1, vZ], vT [vP 6 0, vP 9 0], vG [kf 9, vI 1, vZ], vT [vP 6 0, vP 9 0], vP 6 0, vP 9 0, vP 6 0, vB false]
def Pgfv58 : List Value := [vI 2, vI 1, kf 7, kf 8, vS 11 0 2 2, vI 1, vP 11 1, kf 8, vP 0 0, kf 9, vI 1, vI 64]
def Pgfv59 : List Value := [kf 15, kf 11, kf 26, vP 10 1, vT [kf 4, vB true], vP 9 0, vP 9 0, vP 9 2, vG [kf 9, vI 1], vI 1, vT [kf 4, vB true], kf 4]
def Pgfv60 : List Value := [vB true, vP 6 0, vP 9 0, kf 4, vI 1, vP 10 1, kf 26, vB true, vB false, vP 9 0, vP 9 0, vP 9 2]
def Pgfv61 : List Value := [vG [kf 9, vI 1], kf 10, vP 12 0, vP 12 0, vB true, vB true, vI 1, vB true, vB true, vB true, vP 12 0, vB false]
def Pgfv62 : List Value := [vB true, vB true, vI 1, vI 2, vP 12 0, vP 6 0, vG [vI 6, vI 0, kf 32, kf 33], vX, vX, vX, vX, vX]
def Pgfl91 : List Value := Pgfv55 ++ (Pgfv56 ++ (Pgfv57 ++ (Pgfv37 ++ (Pgfv58 ++ (Pgfv59 ++ (Pgfv60 ++ (Pgfv61 ++ (Pgfv62 ++ (Pgfv1 ++ (Pgfv1 ++ (Pgfv1 ++ Pgfv2)))))))))))
def Pgfo63 : Obj := oC 147 [vP 13 0, vI 1]
def Pgfo64 : Obj := oC 119 [kf 9, vZ, vI 2, vP 3 0, vS 5 0 1 1, kf 29]
def Pgfo65 : Obj := oC 116 [kf 10, kf 29]
def Pgfo66 : Obj := oC 64 [.complex .f32 7 0, vI 2, kf 4, vU 0, kf 26, vI 2]
def Pgfo67 : Obj := oC 40 [vP 8 0, vA, kf 9, vI 1]
def Pgfo68 : Obj := oC 75 [kf 9, vI 1, vF 108 [] [vP 19 0, vP 20 0, vP 21 0], kf 10, vZ, vZ, vS 14 0 1 1, vI 0, vI 2]
def Pgfo69 : Obj := oC 167 [kf 31, .int .u32 0, kf 10, kf 29, vN, vN]
def Pgfo70 : Obj := oC 137 [vF 88 [] [vP 15 0, vP 18 0, vP 17 0, vP 16 0]]
def Pgfh100 : List Obj := [Pgfo5, Pgfo50, Pgfo51, Pgfo63, Pgfo64, Pgfo65, Pgfo13, Pgfo34, Pgfo66, Pgfo67, oC 30 [kf 7, kf 26], oC 22 [kf 7, kf 8], Pgfo68, Pgfo69, oC 142 [vI 0, kf 12], oC 42 [vP 12 0], oC 3 [vI 0], oC 142 [vI 0, kf 12], oC 3 [kf 3], oC 3 [kf 1], oC 22 [kf 12], Pgfo70]
def Pgfv71 : List Value := [kf 10, vP 10 0, vI 2, kf 4, vB true, vP 12 0, vI 3, vX, vX, vX, vX, vX]
def Pgfv72 : List Value := [vG [kf 9, vI 1], kf 10, vP 12 0, vP 12 0, vB true, vB true, vI 2, vB true, vB true, vB true, vP 12 0, vB false]
def Pgfv73 : List Value := [vB true, vB true, vI 2, vI 3, vP 12 0, vP 6 0, vG [vI 5, kf 1, vU 0, kf 12], vX, vX, vX, vX, vX]
def Pgfl104 : List Value := Pgfv55 ++ (Pgfv71 ++ (Pgfv57 ++ (Pgfv37 ++ (Pgfv58 ++ (Pgfv59 ++ (Pgfv60 ++ (Pgfv72 ++ (Pgfv73 ++ (Pgfv1 ++ (Pgfv1 ++ (Pgfv1 ++ Pgfv2)))))))))))
def Pgfo74 : Obj := oC 270080000134 [vU 1, vU 0, vU 1, vU 0, vU 0, vU 0, vU 0, vU 0, vU 0, vU 0, vU 0, vU 0, vU 0, vU 0, vU 0, vU 0, vU 0, vU 0, vU 0, vU 0, vU 0, vU 0, vU 0, vU 0, vU 0, vU 0, vU 0, vU 0, vU 0, vU 0, vU 0, vU 0, vU 0, vU 0, vU 0, vU 0, vU 0, vU 0, vU 0, vU 0, vU 0, vU 0, vU 0, vU 0, vU 0, vU 0, vU 0, vU 0, vU 0, vU 0, vU 0, vU 0, vU 0, vU 0, vU 0, vU 0, vU 0, vU 0, vU 0, vU 0, vU 0, vU 0, vU 0, vU 0, vU 0, vU 0, vU 0, vU 0, vU 0, vU 0, vU 0, vU 0, vU 0, vU 0, vU 0, vU 0, vU 0]
def Pgfo75 : Obj := oC 109 [.complex .f32 1 0, vI 5, kf 1, vU 0, kf 12, vI 4]
def Pgfo76 : Obj := oC 75 [kf 9, vI 1, vF 100 [] [vP 19 0, vP 20 0], kf 10, vZ, vZ, vS 14 0 1 1, vI 0, vI 2]
def Pgfo77 : Obj := oC 137 [vF 89 [] [vP 17 0, vP 15 0, vP 16 0, vP 18 0]]
def Pgfh109 : List Obj := [Pgfo5, Pgfo74, Pgfo75, Pgfo63, Pgfo64, Pgfo65, Pgfo13, Pgfo34, Pgfo66, Pgfo67, oC 30 [kf 7, kf 26], oC 22 [kf 7, kf 8], Pgfo76, Pgfo69, oC 142 [vI 0, kf 12], oC 42 [vP 12 0], oC 3 [vI 0], oC 142 [vI 0, kf 12], oC 3 [kf 3], oC 3 [kf 3], Pgfo77]
def Pgfv78 : List Value := [kf 10, vP 10 0, vI 2, kf 4, vB true, vP 12 0, vI 4, vX, vX, vX, vX, vX]
def Pgfv79 : List Value := [vG [kf 9, vI 1], kf 10, vP 12 0, vP 12 0, vB true, vB true, vI 3, vB true, vB true, vB true, vP 12 0, vB false]
def Pgfv80 : List Value := [vB true, vB true, vI 3, vI 4, vP 12 0, vP 6 0, vG [vI 1, kf 3, kf 7, kf 7], vX, vX, vX, vX, vX]
def Pgfl113 : List Value := Pgfv55 ++ (Pgfv78 ++ (Pgfv57 ++ (Pgfv37 ++ (Pgfv58 ++ (Pgfv59 ++ (Pgfv60 ++ (Pgfv79 ++ (Pgfv80 ++ (Pgfv1 ++ (Pgfv1 ++ (Pgfv1 ++ Pgfv2)))))))))))
def Pgfo81 : Obj := oC 109 [.complex .f32 1 0, vI 1, kf 3, kf 7, kf 7, vI 5]
def Pgfo82 : Obj := oC 75 [kf 9, vI 1, vF 51 [] [vP 21 0, vP 22 0], kf 10, vZ, vZ, vS 14 0 1 1, vI 0, vI 2]
def Pgfo83 : Obj := oC 176 [kf 9, vI 1, vF 125 [] [vP 18 0, vP 19 0, vP 20 0]]
def Pgfo84 : Obj := oC 1 [vF 54 [vP 17 0] []]
def Pgfo85 : Obj := oC 98 [.iface 158 (vP 17 0)]
def Pgfo86 : Obj := oC 1 [vF 104 [] [vP 16 0, vP 15 0]]
def Pgfh120 : List Obj := [Pgfo5, Pgfo74, Pgfo81, Pgfo63, Pgfo64, Pgfo65, Pgfo13, Pgfo34, Pgfo66, Pgfo67, oC 30 [kf 7, kf 26], oC 22 [kf 7, kf 8], Pgfo82, Pgfo69, oC 142 [vI 0, kf 12], oC 42 [vP 12 0], oC 48 [vI 0], Pgfo83, oC 3 [vI 2], oC 22 [vU 0], Pgfo84, Pgfo85, Pgfo86]
def Pgfv87 : List Value := [kf 10, vP 10 0, vI 2, kf 4, vB true, vP 12 0, vI 5, vX, vX, vX, vX, vX]
def Pgfv88 : List Value := [vG [kf 9, vI 1], kf 10, vP 12 0, vP 12 0, vB true, vB true, vI 4, vB true, vB true, vB true, vP 12 0, vB false]
def Pgfv89 : List Value := [vB true, vB true, vI 4, vI 5, vP 12 0, vP 6 0, vG [vI 2, vI 2, vU 1, vU 0], vX, vX, vX, vX, vX]
def Pgfl124 : List Value := Pgfv55 ++ (Pgfv87 ++ (Pgfv57 ++ (Pgfv37 ++ (Pgfv58 ++ (Pgfv59 ++ (Pgfv60 ++ (Pgfv88 ++ (Pgfv89 ++ (Pgfv1 ++ (Pgfv1 ++ (Pgfv1 ++ Pgfv2)))))))))))
def Pgfo90 : Obj := oC 270080000134 [vU 1, vU 0, vU 0, vU 0, vU 0, vU 0, vU 0, vU 0, vU 0, vU 0, vU 0, vU 0, vU 0, vU 0, vU 0, vU 0, vU 0, vU 0, vU 0, vU 0, vU 0, vU 0, vU 0, vU 0, vU 0, vU 0, vU 0, vU 0, vU 0, vU 0, vU 0, vU 0, vU 0, vU 0, vU 0, vU 0, vU 0, vU 0, vU 0, vU 0, vU 0, vU 0, vU 0, vU 0, vU 0, vU 0, vU 0, vU 0, vU 0, vU 0, vU 0, vU 0, vU 0, vU 0, vU 0, vU 0, vU 0, vU 0, vU 0, vU 0, vU 0, vU 0, vU 0, vU 0, vU 0, vU 0, vU 0, vU 0, vU 0, vU 0, vU 0, vU 0, vU 0, vU 0, vU 0, vU 0, vU 0]
def Pgfo91 : Obj := oC 109 [.complex .f32 1 0, vI 2, vI 2, vU 1, vU 0, vI 6]
def Pgfo92 : Obj := oC 75 [kf 9, vI 1, .nilFunc, kf 10, vZ, vZ, vS 14 0 1 1, vI 0, vI 0]
def Pgfh128 : List Obj := [Pgfo5, Pgfo90, Pgfo91, Pgfo63, Pgfo64, Pgfo65, Pgfo13, Pgfo34, Pgfo66, Pgfo67, oC 30 [kf 7, kf 26], oC 22 [kf 7, kf 8], Pgfo92, Pgfo69, oC 142 [vI 0, kf 12]]
def Pgfv93 : List Value := [vG [kf 9, vI 1], kf 10, vP 12 0, vP 12 0, vB true, vB true, vI 5, vB true, vB true, vB true, vP 12 0, vB true]
def Pgfv94 : List Value := [vB false, vB false, vI 4, vI 5, vP 12 0, vP 6 0, vG [vI 2, vI 2, vU 1, vU 0], vX, vX, vX, vX, vX]
def Pgfl131 : List Value := Pgfv55 ++ (Pgfv87 ++ (Pgfv57 ++ (Pgfv37 ++ (Pgfv58 ++ (Pgfv59 ++ (Pgfv60 ++ (Pgfv93 ++ (Pgfv94 ++ (Pgfv1 ++ (Pgfv1 ++ (Pgfv1 ++ Pgfv2)))))))))))
def Pgfh132 : List Obj := [Pgfo5, Pgfo90, Pgfo91, Pgfo63, Pgfo64, Pgfo65, Pgfo13, Pgfo34, Pgfo66, Pgfo67, oC 30 [kf 7, kf 26], oC 22 [kf 7, kf 8], Pgfo92, Pgfo69, oC 142 [vI 0, kf 12]]
def Pgfv95 : List Value := [kf 10, vP 10 0, vI 2, kf 4, vB true, vP 12 0, vI 5, vI 0, vI 0, vX, vX, vX]
def Pgfv96 : List Value := [vB false, vB false, vI 4, vI 5, vP 12 0, vP 6 0, vG [vI 2, vI 2, vU 1, vU 0], vT [vI 0, vI 0], vP 12 0, vT [vI 0, vI 0], vI 0, vI 0]
def Pgfl135 : List Value := Pgfv55 ++ (Pgfv95 ++ (Pgfv57 ++ (Pgfv37 ++ (Pgfv58 ++ (Pgfv59 ++ (Pgfv60 ++ (Pgfv93 ++ (Pgfv96 ++ (Pgfv1 ++ (Pgfv1 ++ (Pgfv1 ++ Pgfv2)))))))))))
def Pgfh136 : List Obj := [Pgfo5, Pgfo90, Pgfo91, Pgfo63, Pgfo64, Pgfo65, Pgfo13, Pgfo34, Pgfo66, Pgfo67, oC 30 [kf 7, kf 26], oC 22 [kf 7, kf 8], Pgfo92, Pgfo69, oC 142 [vI 0, kf 12]]
def Pgfv97 : List Value := [vI 0, vB false, vB false, vI 0, vB false, vB false, vX, vX, vX, vX, vX, vX]
def Pgfl138 : List Value := Pgfv55 ++ (Pgfv95 ++ (Pgfv57 ++ (Pgfv37 ++ (Pgfv58 ++ (Pgfv59 ++ (Pgfv60 ++ (Pgfv93 ++ (Pgfv96 ++ (Pgfv97 ++ (Pgfv1 ++ (Pgfv1 ++ Pgfv2)))))))))))
def Pgfh139 : List Obj := [Pgfo5, Pgfo90, Pgfo91, Pgfo63, Pgfo64, Pgfo65, Pgfo13, Pgfo34, Pgfo66, Pgfo67, oC 30 [kf 7, kf 26], oC 22 [kf 7, kf 8], Pgfo92, Pgfo69, oC 142 [vI 0, kf 12]]
def Pgfl140 : List Value := Pgfv55 ++ (Pgfv95 ++ (Pgfv57 ++ (Pgfv37 ++ (Pgfv58 ++ (Pgfv59 ++ (Pgfv60 ++ (Pgfv93 ++ (Pgfv96 ++ (Pgfv97 ++ (Pgfv1 ++ (Pgfv1 ++ Pgfv2)))))))))))
def Pgfh141 : List Obj := [Pgfo5, Pgfo90, Pgfo91, Pgfo63, Pgfo64, Pgfo65, Pgfo13, Pgfo34, Pgfo66, Pgfo67, oC 30 [kf 7, kf 26], oC 22 [kf 7, kf 8], Pgfo92, Pgfo69, oC 142 [vI 0, kf 12]]
theorem Pgfp0 : PgS PgfO (seqL (pgC 0)) Pg0 [] .normal Pgfl3 Pgfh4 := pgS_ev [] (by decide +kernel)
theorem Pgfp1 : PgS PgfO (seqL (pgC 1)) Pgfl3 Pgfh4 .normal Pgfl7 Pgfh9 := pgS_ev [0] (by decide +kernel)
theorem Pgfp2 : PgS PgfO (seqL (pgC 2)) Pgfl7 Pgfh9 .normal Pgfl12 Pgfh21 := pgS_ev [0, 13, 14, 15, 16, 20, 22, 23, 30, 31, 32] (by decide +kernel)
theorem Pgfp3 : PgS PgfO (seqL (seqL (pgC 3))) Pgfl12 Pgfh21 .normal Pgfl23 Pgfh24 := pgS_ev [0, 1, 2, 3, 4, 5, 6, 7, 8, 9, 10] (by decide +kernel)
theorem Pgfp4 : PgS PgfO (seqR (seqL (pgC 3))) Pgfl23 Pgfh24 .normal Pgfl25 Pgfh26 := pgS_ev [0, 1, 2, 3, 4, 5, 6, 7, 8, 9, 10] (by decide +kernel)
theorem Pgfp5 : PgS PgfO (seqL (pgC 4)) Pgfl25 Pgfh26 .normal Pgfl29 Pgfh30 := pgS_ev [0, 1, 2, 3, 4, 5, 6, 7, 8, 9, 10] (by decide +kernel)
theorem Pgfp6 : PgS PgfO (seqL (pgC 5)) Pgfl29 Pgfh30 .normal Pgfl32 Pgfh33 := pgS_ev [0, 1, 2, 3, 4, 5, 6, 7, 8, 9, 10, 11] (by decide +kernel)
theorem Pgfp7 : PgS PgfO (seqL (seqL (pgC 6))) Pgfl32 Pgfh33 .normal Pgfl35 Pgfh36 := pgS_ev [0, 1, 2, 3, 4, 5, 6, 7, 8, 9, 10, 11] (by decide +kernel)
theorem Pgfp8 : PgS PgfO (inL (inB (seqR (seqL (pgC 6))))) Pgfl35 Pgfh36 .normal Pgfl42 Pgfh46 := pgS_ev [0, 1, 2, 3, 4, 5, 6, 7, 8, 9, 10, 11, 12] (by decide +kernel)
theorem Pgfp9 : PgS PgfO (inL (inB (seqR (seqL (pgC 6))))) Pgfl42 Pgfh46 .normal Pgfl52 Pgfh56 := pgS_ev [0, 1, 2, 3, 4, 5, 6, 7, 8, 9, 10, 11, 13] (by decide +kernel)
theorem Pgfp10 : PgS PgfO (inL (inB (seqR (seqL (pgC 6))))) Pgfl52 Pgfh56 (.exit 0) Pgfl58 Pgfh59 := pgS_ev [0, 1, 2, 3, 4, 5, 6, 7, 8, 9, 10, 11, 12] (by decide +kernel)
theorem Pgfp11 : PgS PgfO (seqL (pgC 7)) Pgfl58 Pgfh59 .normal Pgfl63 Pgfh69 := pgS_ev [0, 1, 2, 3, 4, 5, 6, 7, 8, 9, 10, 11, 12, 14, 17, 18, 22, 23, 24, 25, 26, 27, 28, 29] (by decide +kernel)
theorem Pgfp12 : PgS PgfO (seqL (seqL (pgC 8))) Pgfl63 Pgfh69 .normal Pgfl71 Pgfh72 := pgS_ev [0, 1, 2, 3, 4, 5, 6, 7, 8, 9, 10, 11, 12, 13, 14, 15, 16, 17, 18, 19, 20, 21, 22, 23] (by decide +kernel)
theorem Pgfp13 : PgS PgfO (inL (inB (seqR (seqL (pgC 8))))) Pgfl71 Pgfh72 .normal Pgfl76 Pgfh82 := pgS_ev [0, 1, 2, 3, 4, 5, 6, 7, 8, 9, 10, 11, 12, 15, 34, 35, 36] (by decide +kernel)
theorem Pgfp14 : PgS PgfO (inL (inB (seqR (seqL (pgC 8))))) Pgfl76 Pgfh82 .normal Pgfl91 Pgfh100 := pgS_ev [0, 1, 2, 3, 4, 6, 7, 8, 9, 10, 11, 12, 13, 33, 40, 41, 42, 43, 44, 61, 62, 63] (by decide +kernel)
theorem Pgfp15 : PgS PgfO (inL (inB (seqR (seqL (pgC 8))))) Pgfl91 Pgfh100 .normal Pgfl104 Pgfh109 := pgS_ev [0, 1, 2, 3, 4, 5, 6, 7, 8, 9, 10, 11, 12, 13, 14, 15, 16, 17, 18, 26, 27] (by decide +kernel)
theorem Pgfp16 : PgS PgfO (inL (inB (seqR (seqL (pgC 8))))) Pgfl104 Pgfh109 .normal Pgfl113 Pgfh120 := pgS_ev [0, 1, 2, 3, 4, 5, 6, 7, 8, 9, 10, 11, 12, 13, 14, 27, 28, 31, 32, 33, 34, 35, 36] (by decide +kernel)
theorem Pgfp17 : PgS PgfO (inL (inB (seqR (seqL (pgC 8))))) Pgfl113 Pgfh120 .normal Pgfl124 Pgfh128 := pgS_ev [0, 1, 2, 3, 4, 5, 6, 7, 8, 9, 10, 11, 12, 13, 14] (by decide +kernel)
theorem Pgfp18 : PgS PgfO (inL (inB (seqR (seqL (pgC 8))))) Pgfl124 Pgfh128 (.exit 2) Pgfl131 Pgfh132 := pgS_ev [0, 1, 2, 3, 4, 5, 6, 7, 8, 9, 10, 11, 12, 13, 14] (by decide +kernel)
theorem Pgfp19 : PgS PgfO (seqL (pgC 9)) Pgfl131 Pgfh132 .normal Pgfl135 Pgfh136 := pgS_ev [0, 1, 2, 3, 4, 5, 6, 7, 8, 9, 10, 11, 12, 13, 14] (by decide +kernel)
theorem Pgfp20 : PgS PgfO (seqL (seqL (pgC 10))) Pgfl135 Pgfh136 .normal Pgfl138 Pgfh139 := pgS_ev [0, 1, 2, 3, 4, 5, 6, 7, 8, 9, 10, 11, 12, 13, 14] (by decide +kernel)
theorem Pgfp21 : PgS PgfO (seqR (seqL (pgC 10))) Pgfl138 Pgfh139 .normal Pgfl140 Pgfh141 := pgS_ev [0, 1, 2, 3, 4, 5, 6, 7, 8, 9, 10, 11, 12, 13, 14] (by decide +kernel)
theorem Pgfw : shrOk (fun j => decide (j < 11)) [(kf 10, kf 10), (kf 7, kf 11), (kf 26, kf 12), (kf 12, kf 15), (vU 0, kf 16), (kf 7, kf 13), (kf 26, kf 14)] 0 [0, 1, 2, 6, 9, 10] Pgfl140 Pgfh141 Pg2A Pg2H = true := by decide +kernel
end Go.Proofs.YtfppinabdalblaaGreat
