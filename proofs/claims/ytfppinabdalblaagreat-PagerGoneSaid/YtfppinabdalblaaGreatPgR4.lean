/- PagerGone: runs, with numbers that are not looked into, in pieces (printed by gen_pg.py). -/
import Derived.Test.YtfppinabdalblaaGreatPgL2
import Derived.Test.YtfppinabdalblaaGreatPgP
namespace Go.Proofs.YtfppinabdalblaaGreat
open Go.RowKit Go.IntWalk
set_option linter.unusedVariables false
set_option linter.unusedSimpArgs false
set_option maxRecDepth 100000
def Pgje : List Ent := [⟨.conv 5 3, [kf 5], kf 16⟩,
  ⟨.bin .rem 3, [kf 16, vI 128], kf 17⟩,
  ⟨.bin .add 3, [vI 1, kf 17], kf 9⟩,
  ⟨.bin .geq 3, [kf 9, vI 1], .bool true⟩,
  ⟨.bin .leq 3, [kf 9, vI 4096], .bool true⟩,
  ⟨.bin .mul 3, [vI 5, kf 9], kf 18⟩,
  ⟨.bin .add 3, [vI 82, kf 18], kf 19⟩,
  ⟨.bin .add 3, [kf 19, kf 9], kf 1⟩,
  ⟨.bin .add 3, [kf 9, vI 64], kf 20⟩,
  ⟨.bin .sub 3, [kf 20, vI 1], kf 21⟩,
  ⟨.bin .quo 3, [kf 21, vI 64], vI 2⟩,
  ⟨.bin .add 3, [kf 1, vI 2], kf 3⟩,
  ⟨.bin .add 3, [kf 3, vI 2], kf 0⟩,
  ⟨.bin .lss 3, [kf 0, vI 1], .bool false⟩,
  ⟨.bin .gtr 3, [kf 0, vI 65536], .bool false⟩,
  ⟨.bin .geq 3, [vI 0, kf 0], .bool false⟩,
  ⟨.bin .lss 3, [kf 9, vI 1], .bool false⟩,
  ⟨.bin .gtr 3, [kf 9, vI 4096], .bool false⟩,
  ⟨.bin .mul 3, [vI 8192, kf 9], kf 22⟩,
  ⟨.bin .add 3, [kf 22, vI 0], kf 22⟩,
  ⟨.bin .add 3, [vI 0, kf 9], kf 9⟩,
  ⟨.bin .mul 3, [vI 6, kf 9], kf 23⟩,
  ⟨.bin .add 3, [vI 82, kf 23], kf 1⟩,
  ⟨.bin .add 3, [kf 9, vI 63], kf 21⟩,
  ⟨.bin .add 3, [kf 1, vI 4], kf 0⟩,
  ⟨.conv 5 3, [kf 6], kf 24⟩,
  ⟨.bin .rem 3, [kf 24, kf 9], kf 25⟩,
  ⟨.bin .add 3, [vI 1, kf 25], kf 10⟩,
  ⟨.bin .lss 3, [vI 0, kf 9], .bool true⟩,
  ⟨.bin .sub 3, [kf 9, vI 0], kf 9⟩,
  ⟨.bin .and 22, [kf 7, .int .u64 18446744073709551615], kf 26⟩,
  ⟨.bin .add 3, [kf 1, vI 0], kf 1⟩,
  ⟨.bin .lss 3, [kf 3, vI 0], .bool false⟩,
  ⟨.bin .geq 3, [kf 3, kf 0], .bool false⟩,
  ⟨.bin .geq 3, [kf 3, vI 0], .bool true⟩,
  ⟨.bin .lss 3, [kf 3, kf 0], .bool true⟩,
  ⟨.bin .lss 3, [vI 64, kf 9], .bool true⟩,
  ⟨.bin .sub 3, [kf 9, vI 64], kf 15⟩,
  ⟨.bin .and 22, [kf 8, kf 11], kf 27⟩,
  ⟨.bin .add 3, [kf 1, vI 1], kf 2⟩,
  ⟨.bin .add 3, [kf 2, vI 2], kf 4⟩,
  ⟨.bin .lss 3, [kf 4, vI 0], .bool false⟩,
  ⟨.bin .geq 3, [kf 4, kf 0], .bool false⟩,
  ⟨.bin .geq 3, [kf 4, vI 0], .bool true⟩,
  ⟨.bin .lss 3, [kf 4, kf 0], .bool true⟩,
  ⟨.bin .lss 3, [vI 128, kf 9], .bool false⟩,
  ⟨.bin .lss 3, [kf 10, vI 1], .bool false⟩,
  ⟨.bin .gtr 3, [kf 10, vI 4096], .bool false⟩,
  ⟨.bin .neq 38, [vG [kf 9, vI 1], vG [kf 9, vI 1]], .bool false⟩,
  ⟨.bin .geq 3, [vI 2, kf 0], .bool false⟩,
  ⟨.bin .gtr 3, [kf 10, kf 9], .bool false⟩,
  ⟨.bin .mul 3, [vI 8192, kf 10], kf 28⟩,
  ⟨.bin .lss 3, [kf 22, kf 28], .bool false⟩,
  ⟨.bin .neq 3, [kf 22, kf 22], .bool false⟩,
  ⟨.bin .neq 3, [kf 9, kf 9], .bool false⟩,
  ⟨.bin .lss 3, [kf 9, kf 9], .bool false⟩,
  ⟨.bin .gtr 3, [kf 9, kf 9], .bool false⟩,
  ⟨.bin .sub 3, [kf 9, kf 9], kf 29⟩,
  ⟨.bin .gtr 3, [kf 9, kf 10], .bool true⟩,
  ⟨.bin .add 3, [vI 0, kf 10], kf 10⟩,
  ⟨.bin .sub 3, [kf 9, kf 10], kf 30⟩,
  ⟨.bin .mul 3, [vI 8192, kf 30], kf 31⟩,
  ⟨.bin .add 3, [kf 31, kf 10], kf 32⟩,
  ⟨.bin .add 3, [kf 29, kf 30], kf 30⟩,
  ⟨.bin .add 3, [kf 3, vI 0], kf 3⟩,
  ⟨.conv 3 22, [kf 10], kf 33⟩,
  ⟨.conv 3 22, [kf 30], kf 34⟩,
  ⟨.bin .lss 3, [kf 1, vI 0], .bool false⟩,
  ⟨.bin .geq 3, [kf 1, kf 0], .bool false⟩,
  ⟨.bin .add 22, [.int .u64 0, kf 12], kf 12⟩,
  ⟨.bin .and 22, [kf 26, kf 12], kf 35⟩,
  ⟨.bin .eql 22, [kf 35, .int .u64 0], .bool true⟩,
  ⟨.bin .add 3, [kf 3, vI 1], kf 4⟩,
  ⟨.bin .lss 3, [kf 2, vI 0], .bool false⟩,
  ⟨.bin .geq 3, [kf 2, kf 0], .bool false⟩,
  ⟨.bin .add 22, [.int .u64 0, kf 13], kf 13⟩,
  ⟨.bin .and 22, [kf 27, kf 13], kf 36⟩,
  ⟨.bin .eql 22, [kf 36, .int .u64 0], .bool true⟩]
def Pgjf : List FnEnt := [⟨14, [], .bool true⟩,
  ⟨44, [kf 9, vZ], vA⟩,
  ⟨5, [kf 9], .int .u64 18446744073709551615⟩,
  ⟨5, [kf 15], kf 11⟩]
def PgjO : Orc := orcS Pgje Pgjf 4 rdG (pgMk 10 13 12)
def Pgjv0 : List Value := [kf 5, kf 6, kf 7, kf 8, vX, vX, vX, vX, vB false, vX, vX, vX]
def Pgjv1 : List Value := [vX, vX, vX, vX, vX, vX, vX, vX, vX, vX, vX, vX]
def Pgjv2 : List Value := [vX, vX, vX, vX, vX, vX]
def Pgjl3 : List Value := Pgjv0 ++ (Pgjv1 ++ (Pgjv1 ++ (Pgjv1 ++ (Pgjv1 ++ (Pgjv1 ++ (Pgjv1 ++ (Pgjv1 ++ (Pgjv1 ++ (Pgjv1 ++ (Pgjv1 ++ (Pgjv1 ++ Pgjv2)))))))))))
def Pgjh4 : List Obj := []
def Pgjv3 : List Value := [kf 5, kf 6, kf 7, kf 8, vX, vX, vX, vX, vB false, vP 0 0, vX, vX]
def Pgjv4 : List Value := [kf 5, kf 16, kf 17, kf 9, vG [kf 9, vI 1, vZ], vX, vX, vX, vX, vX, vX, vX]
def Pgjl7 : List Value := Pgjv3 ++ (Pgjv1 ++ (Pgjv4 ++ (Pgjv1 ++ (Pgjv1 ++ (Pgjv1 ++ (Pgjv1 ++ (Pgjv1 ++ (Pgjv1 ++ (Pgjv1 ++ (Pgjv1 ++ (Pgjv1 ++ Pgjv2)))))))))))
def Pgjo5 : Obj := oC 25 [kf 9, vI 1, vZ]
def Pgjh9 : List Obj := [Pgjo5]
def Pgjv6 : List Value := [kf 5, kf 6, kf 7, kf 8, vX, vX, vX, vX, vB false, vP 0 0, vP 7 0, vP 10 0]
def Pgjv7 : List Value := [kf 5, kf 16, kf 17, kf 9, vG [kf 9, vI 1, vZ], vT [vP 7 0, vP 10 0], vG [kf 9, vI 1, vZ], vT [vP 7 0, vP 10 0], vP 7 0, vP 10 0, vX, vX]
def Pgjl12 : List Value := Pgjv6 ++ (Pgjv1 ++ (Pgjv7 ++ (Pgjv1 ++ (Pgjv1 ++ (Pgjv1 ++ (Pgjv1 ++ (Pgjv1 ++ (Pgjv1 ++ (Pgjv1 ++ (Pgjv1 ++ (Pgjv1 ++ Pgjv2)))))))))))
def Pgjo8 : Obj := oC 4 [vU 1, vU 0, vU 0, vU 0, vU 0, vU 0, vU 0, vU 0, vU 0, vU 0, vU 0, vU 0, vU 0, vU 0, vU 0, vU 0, vU 0, vU 0, vU 0, vU 0, vU 0, vU 0, vU 0, vU 0, vU 0, vU 0, vU 0, vU 0, vU 0, vU 0, vU 0, vU 0, vU 0, vU 0, vU 0, vU 0, vU 0, vU 0, vU 0, vU 0, vU 0, vU 0, vU 0, vU 0, vU 0, vU 0, vU 0, vU 0, vU 0, vU 0, vU 0, vU 0, vU 0, vU 0, vU 0, vU 0, vU 0, vU 0, vU 0, vU 0, vU 0, vU 0, vU 0, vU 0, vU 0, vU 0, vU 0, vU 0, vU 0, vU 0, vU 0, vU 0, vU 0, vU 0, vU 0, vU 0, vU 0]
def Pgjo9 : Obj := oC 109 [.complex .f32 1 0, vI 0, vI 0, vU 0, vU 0, vI 0]
def Pgjo10 : Obj := oC 147 [vP 5 0, vI 1]
def Pgjo11 : Obj := oC 119 [kf 9, vZ, vI 1, vP 3 0, vS 6 0 1 1, kf 9]
def Pgjo12 : Obj := oC 167 [kf 22, .int .u32 0, vI 0, kf 9, vN, vN]
def Pgjo13 : Obj := oC 86 [kf 9, vI 1, vP 2 0, vP 4 0]
def Pgjo14 : Obj := oC 64 [.complex .f32 8 0, vI 0, vI 0, vU 0, vU 0, vI 0]
def Pgjo15 : Obj := oC 40 [vP 9 0, vA, kf 9, vI 1]
def Pgjh21 : List Obj := [Pgjo5, Pgjo8, Pgjo9, Pgjo10, Pgjo11, Pgjo12, oC 116 [vI 0, kf 9], Pgjo13, Pgjo8, Pgjo14, Pgjo15]
def Pgjv16 : List Value := [kf 5, kf 16, kf 17, kf 9, vG [kf 9, vI 1, vZ], vT [vP 7 0, vP 10 0], vG [kf 9, vI 1, vZ], vT [vP 7 0, vP 10 0], vP 7 0, vP 10 0, vP 7 0, vB false]
def Pgjl23 : List Value := Pgjv6 ++ (Pgjv1 ++ (Pgjv16 ++ (Pgjv1 ++ (Pgjv1 ++ (Pgjv1 ++ (Pgjv1 ++ (Pgjv1 ++ (Pgjv1 ++ (Pgjv1 ++ (Pgjv1 ++ (Pgjv1 ++ Pgjv2)))))))))))
def Pgjh24 : List Obj := [Pgjo5, Pgjo8, Pgjo9, Pgjo10, Pgjo11, Pgjo12, oC 116 [vI 0, kf 9], Pgjo13, Pgjo8, Pgjo14, Pgjo15]
def Pgjl25 : List Value := Pgjv6 ++ (Pgjv1 ++ (Pgjv16 ++ (Pgjv1 ++ (Pgjv1 ++ (Pgjv1 ++ (Pgjv1 ++ (Pgjv1 ++ (Pgjv1 ++ (Pgjv1 ++ (Pgjv1 ++ (Pgjv1 ++ Pgjv2)))))))))))
def Pgjh26 : List Obj := [Pgjo5, Pgjo8, Pgjo9, Pgjo10, Pgjo11, Pgjo12, oC 116 [vI 0, kf 9], Pgjo13, Pgjo8, Pgjo14, Pgjo15]
def Pgjv17 : List Value := [kf 10, vX, vX, vX, vX, vX, vX, vX, vX, vX, vX, vX]
def Pgjv18 : List Value := [kf 6, kf 24, vP 0 0, kf 9, kf 25, kf 10, vX, vX, vX, vX, vX, vX]
def Pgjl29 : List Value := Pgjv6 ++ (Pgjv17 ++ (Pgjv16 ++ (Pgjv18 ++ (Pgjv1 ++ (Pgjv1 ++ (Pgjv1 ++ (Pgjv1 ++ (Pgjv1 ++ (Pgjv1 ++ (Pgjv1 ++ (Pgjv1 ++ Pgjv2)))))))))))
def Pgjh30 : List Obj := [Pgjo5, Pgjo8, Pgjo9, Pgjo10, Pgjo11, Pgjo12, oC 116 [vI 0, kf 9], Pgjo13, Pgjo8, Pgjo14, Pgjo15]
def Pgjv19 : List Value := [kf 10, vP 11 0, vX, vX, vX, vX, vX, vX, vX, vX, vX, vX]
def Pgjl32 : List Value := Pgjv6 ++ (Pgjv19 ++ (Pgjv16 ++ (Pgjv18 ++ (Pgjv1 ++ (Pgjv1 ++ (Pgjv1 ++ (Pgjv1 ++ (Pgjv1 ++ (Pgjv1 ++ (Pgjv1 ++ (Pgjv1 ++ Pgjv2)))))))))))
def Pgjh33 : List Obj := [Pgjo5, Pgjo8, Pgjo9, Pgjo10, Pgjo11, Pgjo12, oC 116 [vI 0, kf 9], Pgjo13, Pgjo8, Pgjo14, Pgjo15, oC 30 [vU 0, vU 0]]
def Pgjv20 : List Value := [kf 10, vP 11 0, vI 0, vX, vX, vX, vX, vX, vX, vX, vX, vX]
def Pgjl35 : List Value := Pgjv6 ++ (Pgjv20 ++ (Pgjv16 ++ (Pgjv18 ++ (Pgjv1 ++ (Pgjv1 ++ (Pgjv1 ++ (Pgjv1 ++ (Pgjv1 ++ (Pgjv1 ++ (Pgjv1 ++ (Pgjv1 ++ Pgjv2)))))))))))
def Pgjh36 : List Obj := [Pgjo5, Pgjo8, Pgjo9, Pgjo10, Pgjo11, Pgjo12, oC 116 [vI 0, kf 9], Pgjo13, Pgjo8, Pgjo14, Pgjo15, oC 30 [vU 0, vU 0]]
def Pgjv21 : List Value := [kf 10, vP 11 0, vI 1, kf 3, vB true, vX, vX, vX, vX, vX, vX, vX]
def Pgjv22 : List Value := [kf 6, kf 24, vP 0 0, kf 9, kf 25, kf 10, vI 0, vI 0, vP 0 0, kf 9, vB true, vI 0]
def Pgjv23 : List Value := [vI 1, vI 0, kf 7, kf 8, vS 12 0 2 2, vI 0, vP 12 0, kf 7, vP 0 0, kf 9, vI 0, vI 0]
def Pgjv24 : List Value := [kf 9, vU 18446744073709551615, kf 26, vP 11 0, vT [kf 3, vB true], vP 10 0, vP 10 0, vP 10 2, vG [kf 9, vI 1], vI 0, vT [kf 3, vB true], kf 3]
def Pgjv25 : List Value := [vB true, vP 7 0, vP 10 0, kf 3, vI 0, vP 11 0, kf 26, vB true, vB false, vX, vX, vX]
def Pgjl42 : List Value := Pgjv6 ++ (Pgjv21 ++ (Pgjv16 ++ (Pgjv22 ++ (Pgjv23 ++ (Pgjv24 ++ (Pgjv25 ++ (Pgjv1 ++ (Pgjv1 ++ (Pgjv1 ++ (Pgjv1 ++ (Pgjv1 ++ Pgjv2)))))))))))
def Pgjo26 : Obj := oC 270000004 [vU 1, vU 0, vU 0, vU 0, vU 0, vU 0, vU 0, vU 0, vU 0, vU 0, vU 0, vU 0, vU 0, vU 0, vU 0, vU 0, vU 0, vU 0, vU 0, vU 0, vU 0, vU 0, vU 0, vU 0, vU 0, vU 0, vU 0, vU 0, vU 0, vU 0, vU 0, vU 0, vU 0, vU 0, vU 0, vU 0, vU 0, vU 0, vU 0, vU 0, vU 0, vU 0, vU 0, vU 0, vU 0, vU 0, vU 0, vU 0, vU 0, vU 0, vU 0, vU 0, vU 0, vU 0, vU 0, vU 0, vU 0, vU 0, vU 0, vU 0, vU 0, vU 0, vU 0, vU 0, vU 0, vU 0, vU 0, vU 0, vU 0, vU 0, vU 0, vU 0, vU 0, vU 0, vU 0, vU 0, vU 0]
def Pgjo27 : Obj := oC 109 [.complex .f32 1 0, vI 2, kf 3, vU 0, kf 26, vI 1]
def Pgjo28 : Obj := oC 64 [.complex .f32 8 0, vI 2, kf 3, vU 0, kf 26, vI 1]
def Pgjh46 : List Obj := [Pgjo5, Pgjo26, Pgjo27, Pgjo10, Pgjo11, Pgjo12, oC 116 [vI 0, kf 9], Pgjo13, Pgjo26, Pgjo28, Pgjo15, oC 30 [kf 26, vU 0], oC 22 [kf 7, kf 8]]
def Pgjv29 : List Value := [kf 10, vP 11 0, vI 2, kf 4, vB true, vX, vX, vX, vX, vX, vX, vX]
def Pgjv30 : List Value := [kf 6, kf 24, vP 0 0, kf 9, kf 25, kf 10, vI 1, vI 64, vP 0 0, kf 9, vB true, vI 1]
def Pgjv31 : List Value := [vI 2, vI 1, kf 7, kf 8, vS 12 0 2 2, vI 1, vP 12 1, kf 8, vP 0 0, kf 9, vI 1, vI 64]
def Pgjv32 : List Value := [kf 15, kf 11, kf 27, vP 11 1, vT [kf 4, vB true], vP 10 0, vP 10 0, vP 10 2, vG [kf 9, vI 1], vI 1, vT [kf 4, vB true], kf 4]
def Pgjv33 : List Value := [vB true, vP 7 0, vP 10 0, kf 4, vI 1, vP 11 1, kf 27, vB true, vB false, vX, vX, vX]
def Pgjl52 : List Value := Pgjv6 ++ (Pgjv29 ++ (Pgjv16 ++ (Pgjv30 ++ (Pgjv31 ++ (Pgjv32 ++ (Pgjv33 ++ (Pgjv1 ++ (Pgjv1 ++ (Pgjv1 ++ (Pgjv1 ++ (Pgjv1 ++ Pgjv2)))))))))))
def Pgjo34 : Obj := oC 280270000004 [vU 1, vU 0, vU 0, vU 0, vU 0, vU 0, vU 0, vU 0, vU 0, vU 0, vU 0, vU 0, vU 0, vU 0, vU 0, vU 0, vU 0, vU 0, vU 0, vU 0, vU 0, vU 0, vU 0, vU 0, vU 0, vU 0, vU 0, vU 0, vU 0, vU 0, vU 0, vU 0, vU 0, vU 0, vU 0, vU 0, vU 0, vU 0, vU 0, vU 0, vU 0, vU 0, vU 0, vU 0, vU 0, vU 0, vU 0, vU 0, vU 0, vU 0, vU 0, vU 0, vU 0, vU 0, vU 0, vU 0, vU 0, vU 0, vU 0, vU 0, vU 0, vU 0, vU 0, vU 0, vU 0, vU 0, vU 0, vU 0, vU 0, vU 0, vU 0, vU 0, vU 0, vU 0, vU 0, vU 0, vU 0]
def Pgjo35 : Obj := oC 109 [.complex .f32 1 0, vI 2, kf 4, vU 0, kf 27, vI 2]
def Pgjo36 : Obj := oC 64 [.complex .f32 8 0, vI 2, kf 4, vU 0, kf 27, vI 2]
def Pgjh56 : List Obj := [Pgjo5, Pgjo34, Pgjo35, Pgjo10, Pgjo11, Pgjo12, oC 116 [vI 0, kf 9], Pgjo13, Pgjo34, Pgjo36, Pgjo15, oC 30 [kf 26, kf 27], oC 22 [kf 7, kf 8]]
def Pgjv37 : List Value := [kf 6, kf 24, vP 0 0, kf 9, kf 25, kf 10, vI 2, vI 128, vP 0 0, kf 9, vB false, vI 1]
def Pgjl58 : List Value := Pgjv6 ++ (Pgjv29 ++ (Pgjv16 ++ (Pgjv37 ++ (Pgjv31 ++ (Pgjv32 ++ (Pgjv33 ++ (Pgjv1 ++ (Pgjv1 ++ (Pgjv1 ++ (Pgjv1 ++ (Pgjv1 ++ Pgjv2)))))))))))
def Pgjh59 : List Obj := [Pgjo5, Pgjo34, Pgjo35, Pgjo10, Pgjo11, Pgjo12, oC 116 [vI 0, kf 9], Pgjo13, Pgjo34, Pgjo36, Pgjo15, oC 30 [kf 26, kf 27], oC 22 [kf 7, kf 8]]
def Pgjv38 : List Value := [kf 10, vP 11 0, vI 2, kf 4, vB true, vP 15 0, vX, vX, vX, vX, vX, vX]
def Pgjv39 : List Value := [vB true, vP 7 0, vP 10 0, kf 4, vI 1, vP 11 1, kf 27, vB true, vB false, vP 10 0, vP 10 0, vP 10 2]
def Pgjv40 : List Value := [vG [kf 9, vI 1], kf 10, vP 15 0, vX, vX, vX, vX, vX, vX, vX, vX, vX]
def Pgjl63 : List Value := Pgjv6 ++ (Pgjv38 ++ (Pgjv16 ++ (Pgjv37 ++ (Pgjv31 ++ (Pgjv32 ++ (Pgjv39 ++ (Pgjv40 ++ (Pgjv1 ++ (Pgjv1 ++ (Pgjv1 ++ (Pgjv1 ++ Pgjv2)))))))))))
def Pgjo41 : Obj := oC 75 [kf 9, vI 1, vF 51 [] [vP 22 0, vP 23 0], kf 10, vZ, vZ, vZ, vI 0, vI 2]
def Pgjo42 : Obj := oC 100 [kf 9, vI 1, vF 75 [] [vP 18 0, vP 19 0, vP 20 0, vP 21 0]]
def Pgjo43 : Obj := oC 102 [vF 53 [] [vP 17 0]]
def Pgjo44 : Obj := oC 98 [.iface 77 (vP 16 0)]
def Pgjo45 : Obj := oC 1 [vF 32 [] [vP 14 0, vP 13 0]]
def Pgjh69 : List Obj := [Pgjo5, Pgjo34, Pgjo35, Pgjo10, Pgjo11, Pgjo12, oC 116 [vI 0, kf 9], Pgjo13, Pgjo34, Pgjo36, Pgjo15, oC 30 [kf 26, kf 27], oC 22 [kf 7, kf 8], oC 3 [kf 10], oC 42 [vP 15 0], Pgjo41, Pgjo42, oC 77 [vP 16 0], oC 3 [vI 2], oC 22 [vU 0], oC 22 [vU 1], Pgjo43, Pgjo44, Pgjo45]
def Pgjv46 : List Value := [kf 10, vP 11 0, vI 2, kf 4, vB true, vP 15 0, vI 0, vX, vX, vX, vX, vX]
def Pgjl71 : List Value := Pgjv6 ++ (Pgjv46 ++ (Pgjv16 ++ (Pgjv37 ++ (Pgjv31 ++ (Pgjv32 ++ (Pgjv39 ++ (Pgjv40 ++ (Pgjv1 ++ (Pgjv1 ++ (Pgjv1 ++ (Pgjv1 ++ Pgjv2)))))))))))
def Pgjh72 : List Obj := [Pgjo5, Pgjo34, Pgjo35, Pgjo10, Pgjo11, Pgjo12, oC 116 [vI 0, kf 9], Pgjo13, Pgjo34, Pgjo36, Pgjo15, oC 30 [kf 26, kf 27], oC 22 [kf 7, kf 8], oC 3 [kf 10], oC 42 [vP 15 0], Pgjo41, Pgjo42, oC 77 [vP 16 0], oC 3 [vI 2], oC 22 [vU 0], oC 22 [vU 1], Pgjo43, Pgjo44, Pgjo45]
def Pgjv47 : List Value := [kf 10, vP 11 0, vI 2, kf 4, vB true, vP 13 0, vI 1, vX, vX, vX, vX, vX]
def Pgjv48 : List Value := [vG [kf 9, vI 1], kf 10, vP 13 0, vP 13 0, vB true, vB true, vI 0, vB true, vB true, vB true, vP 13 0, vB false]
def Pgjv49 : List Value := [vB true, vB true, vI 0, vI 1, vP 13 0, vP 7 0, vG [vI 3, vI 2, vU 0, vU 1], vX, vX, vX, vX, vX]
def Pgjl76 : List Value := Pgjv6 ++ (Pgjv47 ++ (Pgjv16 ++ (Pgjv37 ++ (Pgjv31 ++ (Pgjv32 ++ (Pgjv39 ++ (Pgjv48 ++ (Pgjv49 ++ (Pgjv1 ++ (Pgjv1 ++ (Pgjv1 ++ Pgjv2)))))))))))
def Pgjo50 : Obj := oC 280270000004 [vU 1, vU 0, vU 1, vU 0, vU 0, vU 0, vU 0, vU 0, vU 0, vU 0, vU 0, vU 0, vU 0, vU 0, vU 0, vU 0, vU 0, vU 0, vU 0, vU 0, vU 0, vU 0, vU 0, vU 0, vU 0, vU 0, vU 0, vU 0, vU 0, vU 0, vU 0, vU 0, vU 0, vU 0, vU 0, vU 0, vU 0, vU 0, vU 0, vU 0, vU 0, vU 0, vU 0, vU 0, vU 0, vU 0, vU 0, vU 0, vU 0, vU 0, vU 0, vU 0, vU 0, vU 0, vU 0, vU 0, vU 0, vU 0, vU 0, vU 0, vU 0, vU 0, vU 0, vU 0, vU 0, vU 0, vU 0, vU 0, vU 0, vU 0, vU 0, vU 0, vU 0, vU 0, vU 0, vU 0, vU 0]
def Pgjo51 : Obj := oC 109 [.complex .f32 1 0, vI 3, vI 2, vU 0, vU 1, vI 3]
def Pgjo52 : Obj := oC 75 [kf 9, vI 1, vF 55 [] [vP 15 0, vP 16 0, vP 14 0], kf 10, vZ, vZ, vZ, vI 0, vI 2]
def Pgjo53 : Obj := oC 80 [vF 34 [vP 13 0] []]
def Pgjo54 : Obj := oC 81 [vF 35 [vP 13 0] []]
def Pgjh82 : List Obj := [Pgjo5, Pgjo50, Pgjo51, Pgjo10, Pgjo11, Pgjo12, oC 116 [vI 0, kf 9], Pgjo13, Pgjo34, Pgjo36, Pgjo15, oC 30 [kf 26, kf 27], oC 22 [kf 7, kf 8], Pgjo52, oC 3 [kf 10], Pgjo53, Pgjo54]
def Pgjv55 : List Value := [kf 5, kf 6, kf 7, kf 8, vX, vX, vX, vX, vB false, vP 0 0, vP 6 0, vP 9 0]
def Pgjv56 : List Value := [kf 10, vP 10 0, vI 2, kf 4, vB true, vP 12 0, vI 2, vX, vX, vX, vX, vX]
def Pgjv57 : List Value := [kf 5, kf 16, kf 17, kf 9, vG [kf 9, vI 1, vZ], vT [vP 6 0, vP 9 0], vG [kf 9, vI 1, vZ], vT [vP 6 0, vP 9 0], vP 6 0, vP 9 0, vP 6 0, vB false]
def Pgjv58 : List Value := [vI 2, vI 1, kf 7, kf 8, vS 11 0 2 2, vI 1, vP 11 1, kf 8, vP 0 0, kf 9, vI 1, vI 64]
def Pgjv59 : List Value := [kf 15, kf 11, kf 27, vP 10 1, vT [kf 4, vB true], vP 9 0, vP 9 0, vP 9 2, vG [kf 9, vI 1], vI 1, vT [kf 4, vB true], kf 4]
def Pgjv60 : List Value := [vB true, vP 6 0, vP 9 0, kf 4, vI 1, vP 10 1, kf 27, vB true, vB false, vP 9 0, vP 9 0, vP 9 2]
def Pgjv61 : List Value := [vG [kf 9, vI 1], kf 10, vP 12 0, vP 12 0, vB true, vB true, vI 1, vB true, vB true, vB true, vP 12 0, vB false]
def Pgjv62 : List Value := [vB true, vB true, vI 1, vI 2, vP 12 0, vP 6 0, vG [vI 6, vI 0, kf 33, kf 34], vX, vX, vX, vX, vX]
def Pgjl91 : List Value := Pgjv55 ++ (Pgjv56 ++ (Pgjv57 ++ (Pgjv37 ++ (Pgjv58 ++ (Pgjv59 ++ (Pgjv60 ++ (Pgjv61 ++ (Pgjv62 ++ (Pgjv1 ++ (Pgjv1 ++ (Pgjv1 ++ Pgjv2)))))))))))
def Pgjo63 : Obj := oC 147 [vP 13 0, vI 1]
def Pgjo64 : Obj := oC 119 [kf 9, vZ, vI 2, vP 3 0, vS 5 0 1 1, kf 30]
def Pgjo65 : Obj := oC 116 [kf 10, kf 30]
def Pgjo66 : Obj := oC 64 [.complex .f32 7 0, vI 2, kf 4, vU 0, kf 27, vI 2]
def Pgjo67 : Obj := oC 40 [vP 8 0, vA, kf 9, vI 1]
def Pgjo68 : Obj := oC 75 [kf 9, vI 1, vF 108 [] [vP 19 0, vP 20 0, vP 21 0], kf 10, vZ, vZ, vS 14 0 2 2, vI 0, vI 2]
def Pgjo69 : Obj := oC 167 [kf 32, .int .u32 0, kf 10, kf 30, vN, vN]
def Pgjo70 : Obj := oC 142 [vI 0, kf 12, vI 1, kf 13]
def Pgjo71 : Obj := oC 137 [vF 88 [] [vP 15 0, vP 18 0, vP 17 0, vP 16 0]]
def Pgjh101 : List Obj := [Pgjo5, Pgjo50, Pgjo51, Pgjo63, Pgjo64, Pgjo65, Pgjo13, Pgjo34, Pgjo66, Pgjo67, oC 30 [kf 26, kf 27], oC 22 [kf 7, kf 8], Pgjo68, Pgjo69, Pgjo70, oC 42 [vP 12 0], oC 3 [vI 0], oC 142 [vI 0, kf 12], oC 3 [kf 3], oC 3 [kf 1], oC 22 [kf 12], Pgjo71]
def Pgjv72 : List Value := [kf 10, vP 10 0, vI 2, kf 4, vB true, vP 12 0, vI 3, vX, vX, vX, vX, vX]
def Pgjv73 : List Value := [vG [kf 9, vI 1], kf 10, vP 12 0, vP 12 0, vB true, vB true, vI 2, vB true, vB true, vB true, vP 12 0, vB false]
def Pgjv74 : List Value := [vB true, vB true, vI 2, vI 3, vP 12 0, vP 6 0, vG [vI 5, kf 1, vU 0, kf 12], vX, vX, vX, vX, vX]
def Pgjl105 : List Value := Pgjv55 ++ (Pgjv72 ++ (Pgjv57 ++ (Pgjv37 ++ (Pgjv58 ++ (Pgjv59 ++ (Pgjv60 ++ (Pgjv73 ++ (Pgjv74 ++ (Pgjv1 ++ (Pgjv1 ++ (Pgjv1 ++ Pgjv2)))))))))))
def Pgjo75 : Obj := oC 280270000134 [vU 1, vU 0, vU 1, vU 0, vU 0, vU 0, vU 0, vU 0, vU 0, vU 0, vU 0, vU 0, vU 0, vU 0, vU 0, vU 0, vU 0, vU 0, vU 0, vU 0, vU 0, vU 0, vU 0, vU 0, vU 0, vU 0, vU 0, vU 0, vU 0, vU 0, vU 0, vU 0, vU 0, vU 0, vU 0, vU 0, vU 0, vU 0, vU 0, vU 0, vU 0, vU 0, vU 0, vU 0, vU 0, vU 0, vU 0, vU 0, vU 0, vU 0, vU 0, vU 0, vU 0, vU 0, vU 0, vU 0, vU 0, vU 0, vU 0, vU 0, vU 0, vU 0, vU 0, vU 0, vU 0, vU 0, vU 0, vU 0, vU 0, vU 0, vU 0, vU 0, vU 0, vU 0, vU 0, vU 0, vU 0]
def Pgjo76 : Obj := oC 109 [.complex .f32 1 0, vI 5, kf 1, vU 0, kf 12, vI 4]
def Pgjo77 : Obj := oC 75 [kf 9, vI 1, vF 100 [] [vP 19 0, vP 20 0], kf 10, vZ, vZ, vS 14 0 2 2, vI 0, vI 2]
def Pgjo78 : Obj := oC 137 [vF 89 [] [vP 17 0, vP 15 0, vP 16 0, vP 18 0]]
def Pgjh110 : List Obj := [Pgjo5, Pgjo75, Pgjo76, Pgjo63, Pgjo64, Pgjo65, Pgjo13, Pgjo34, Pgjo66, Pgjo67, oC 30 [kf 26, kf 27], oC 22 [kf 7, kf 8], Pgjo77, Pgjo69, Pgjo70, oC 42 [vP 12 0], oC 3 [vI 0], oC 142 [vI 0, kf 12], oC 3 [kf 3], oC 3 [kf 3], Pgjo78]
def Pgjv79 : List Value := [kf 10, vP 10 0, vI 2, kf 4, vB true, vP 12 0, vI 4, vX, vX, vX, vX, vX]
def Pgjv80 : List Value := [vG [kf 9, vI 1], kf 10, vP 12 0, vP 12 0, vB true, vB true, vI 3, vB true, vB true, vB true, vP 12 0, vB false]
def Pgjv81 : List Value := [vB true, vB true, vI 3, vI 4, vP 12 0, vP 6 0, vG [vI 1, kf 3, kf 26, kf 26], vX, vX, vX, vX, vX]
def Pgjl114 : List Value := Pgjv55 ++ (Pgjv79 ++ (Pgjv57 ++ (Pgjv37 ++ (Pgjv58 ++ (Pgjv59 ++ (Pgjv60 ++ (Pgjv80 ++ (Pgjv81 ++ (Pgjv1 ++ (Pgjv1 ++ (Pgjv1 ++ Pgjv2)))))))))))
def Pgjo82 : Obj := oC 109 [.complex .f32 1 0, vI 1, kf 3, kf 26, kf 26, vI 5]
def Pgjh116 : List Obj := [Pgjo5, Pgjo75, Pgjo82, Pgjo63, Pgjo64, Pgjo65, Pgjo13, Pgjo34, Pgjo66, Pgjo67, oC 30 [kf 26, kf 27], oC 22 [kf 7, kf 8], Pgjo68, Pgjo69, Pgjo70, oC 42 [vP 12 0], oC 3 [vI 1], oC 142 [vI 1, kf 13], oC 3 [kf 4], oC 3 [kf 2], oC 22 [kf 13], Pgjo71]
def Pgjv83 : List Value := [kf 10, vP 10 0, vI 2, kf 4, vB true, vP 12 0, vI 5, vX, vX, vX, vX, vX]
def Pgjv84 : List Value := [vG [kf 9, vI 1], kf 10, vP 12 0, vP 12 0, vB true, vB true, vI 4, vB true, vB true, vB true, vP 12 0, vB false]
def Pgjv85 : List Value := [vB true, vB true, vI 4, vI 5, vP 12 0, vP 6 0, vG [vI 5, kf 2, vU 0, kf 13], vX, vX, vX, vX, vX]
def Pgjl120 : List Value := Pgjv55 ++ (Pgjv83 ++ (Pgjv57 ++ (Pgjv37 ++ (Pgjv58 ++ (Pgjv59 ++ (Pgjv60 ++ (Pgjv84 ++ (Pgjv85 ++ (Pgjv1 ++ (Pgjv1 ++ (Pgjv1 ++ Pgjv2)))))))))))
def Pgjo86 : Obj := oC 280270140134 [vU 1, vU 0, vU 1, vU 0, vU 0, vU 0, vU 0, vU 0, vU 0, vU 0, vU 0, vU 0, vU 0, vU 0, vU 0, vU 0, vU 0, vU 0, vU 0, vU 0, vU 0, vU 0, vU 0, vU 0, vU 0, vU 0, vU 0, vU 0, vU 0, vU 0, vU 0, vU 0, vU 0, vU 0, vU 0, vU 0, vU 0, vU 0, vU 0, vU 0, vU 0, vU 0, vU 0, vU 0, vU 0, vU 0, vU 0, vU 0, vU 0, vU 0, vU 0, vU 0, vU 0, vU 0, vU 0, vU 0, vU 0, vU 0, vU 0, vU 0, vU 0, vU 0, vU 0, vU 0, vU 0, vU 0, vU 0, vU 0, vU 0, vU 0, vU 0, vU 0, vU 0, vU 0, vU 0, vU 0, vU 0]
def Pgjo87 : Obj := oC 109 [.complex .f32 1 0, vI 5, kf 2, vU 0, kf 13, vI 6]
def Pgjh123 : List Obj := [Pgjo5, Pgjo86, Pgjo87, Pgjo63, Pgjo64, Pgjo65, Pgjo13, Pgjo34, Pgjo66, Pgjo67, oC 30 [kf 26, kf 27], oC 22 [kf 7, kf 8], Pgjo77, Pgjo69, Pgjo70, oC 42 [vP 12 0], oC 3 [vI 1], oC 142 [vI 1, kf 13], oC 3 [kf 4], oC 3 [kf 4], Pgjo78]
def Pgjv88 : List Value := [kf 10, vP 10 0, vI 2, kf 4, vB true, vP 12 0, vI 6, vX, vX, vX, vX, vX]
def Pgjv89 : List Value := [vG [kf 9, vI 1], kf 10, vP 12 0, vP 12 0, vB true, vB true, vI 5, vB true, vB true, vB true, vP 12 0, vB false]
def Pgjv90 : List Value := [vB true, vB true, vI 5, vI 6, vP 12 0, vP 6 0, vG [vI 1, kf 4, kf 27, kf 27], vX, vX, vX, vX, vX]
def Pgjl127 : List Value := Pgjv55 ++ (Pgjv88 ++ (Pgjv57 ++ (Pgjv37 ++ (Pgjv58 ++ (Pgjv59 ++ (Pgjv60 ++ (Pgjv89 ++ (Pgjv90 ++ (Pgjv1 ++ (Pgjv1 ++ (Pgjv1 ++ Pgjv2)))))))))))
def Pgjo91 : Obj := oC 109 [.complex .f32 1 0, vI 1, kf 4, kf 27, kf 27, vI 7]
def Pgjo92 : Obj := oC 75 [kf 9, vI 1, vF 51 [] [vP 21 0, vP 22 0], kf 10, vZ, vZ, vS 14 0 2 2, vI 0, vI 2]
def Pgjo93 : Obj := oC 176 [kf 9, vI 1, vF 125 [] [vP 18 0, vP 19 0, vP 20 0]]
def Pgjo94 : Obj := oC 1 [vF 54 [vP 17 0] []]
def Pgjo95 : Obj := oC 98 [.iface 158 (vP 17 0)]
def Pgjo96 : Obj := oC 1 [vF 104 [] [vP 16 0, vP 15 0]]
def Pgjh134 : List Obj := [Pgjo5, Pgjo86, Pgjo91, Pgjo63, Pgjo64, Pgjo65, Pgjo13, Pgjo34, Pgjo66, Pgjo67, oC 30 [kf 26, kf 27], oC 22 [kf 7, kf 8], Pgjo92, Pgjo69, Pgjo70, oC 42 [vP 12 0], oC 48 [vI 0], Pgjo93, oC 3 [vI 2], oC 22 [vU 0], Pgjo94, Pgjo95, Pgjo96]
def Pgjv97 : List Value := [kf 10, vP 10 0, vI 2, kf 4, vB true, vP 12 0, vI 7, vX, vX, vX, vX, vX]
def Pgjv98 : List Value := [vG [kf 9, vI 1], kf 10, vP 12 0, vP 12 0, vB true, vB true, vI 6, vB true, vB true, vB true, vP 12 0, vB false]
def Pgjv99 : List Value := [vB true, vB true, vI 6, vI 7, vP 12 0, vP 6 0, vG [vI 2, vI 2, vU 1, vU 0], vX, vX, vX, vX, vX]
def Pgjl138 : List Value := Pgjv55 ++ (Pgjv97 ++ (Pgjv57 ++ (Pgjv37 ++ (Pgjv58 ++ (Pgjv59 ++ (Pgjv60 ++ (Pgjv98 ++ (Pgjv99 ++ (Pgjv1 ++ (Pgjv1 ++ (Pgjv1 ++ Pgjv2)))))))))))
def Pgjo100 : Obj := oC 280270140134 [vU 1, vU 0, vU 0, vU 0, vU 0, vU 0, vU 0, vU 0, vU 0, vU 0, vU 0, vU 0, vU 0, vU 0, vU 0, vU 0, vU 0, vU 0, vU 0, vU 0, vU 0, vU 0, vU 0, vU 0, vU 0, vU 0, vU 0, vU 0, vU 0, vU 0, vU 0, vU 0, vU 0, vU 0, vU 0, vU 0, vU 0, vU 0, vU 0, vU 0, vU 0, vU 0, vU 0, vU 0, vU 0, vU 0, vU 0, vU 0, vU 0, vU 0, vU 0, vU 0, vU 0, vU 0, vU 0, vU 0, vU 0, vU 0, vU 0, vU 0, vU 0, vU 0, vU 0, vU 0, vU 0, vU 0, vU 0, vU 0, vU 0, vU 0, vU 0, vU 0, vU 0, vU 0, vU 0, vU 0, vU 0]
def Pgjo101 : Obj := oC 109 [.complex .f32 1 0, vI 2, vI 2, vU 1, vU 0, vI 8]
def Pgjo102 : Obj := oC 75 [kf 9, vI 1, .nilFunc, kf 10, vZ, vZ, vS 14 0 2 2, vI 0, vI 0]
def Pgjh142 : List Obj := [Pgjo5, Pgjo100, Pgjo101, Pgjo63, Pgjo64, Pgjo65, Pgjo13, Pgjo34, Pgjo66, Pgjo67, oC 30 [kf 26, kf 27], oC 22 [kf 7, kf 8], Pgjo102, Pgjo69, Pgjo70]
def Pgjv103 : List Value := [vG [kf 9, vI 1], kf 10, vP 12 0, vP 12 0, vB true, vB true, vI 7, vB true, vB true, vB true, vP 12 0, vB true]
def Pgjv104 : List Value := [vB false, vB false, vI 6, vI 7, vP 12 0, vP 6 0, vG [vI 2, vI 2, vU 1, vU 0], vX, vX, vX, vX, vX]
def Pgjl145 : List Value := Pgjv55 ++ (Pgjv97 ++ (Pgjv57 ++ (Pgjv37 ++ (Pgjv58 ++ (Pgjv59 ++ (Pgjv60 ++ (Pgjv103 ++ (Pgjv104 ++ (Pgjv1 ++ (Pgjv1 ++ (Pgjv1 ++ Pgjv2)))))))))))
def Pgjh146 : List Obj := [Pgjo5, Pgjo100, Pgjo101, Pgjo63, Pgjo64, Pgjo65, Pgjo13, Pgjo34, Pgjo66, Pgjo67, oC 30 [kf 26, kf 27], oC 22 [kf 7, kf 8], Pgjo102, Pgjo69, Pgjo70]
def Pgjv105 : List Value := [kf 10, vP 10 0, vI 2, kf 4, vB true, vP 12 0, vI 7, vI 0, vI 0, vX, vX, vX]
def Pgjv106 : List Value := [vB false, vB false, vI 6, vI 7, vP 12 0, vP 6 0, vG [vI 2, vI 2, vU 1, vU 0], vT [vI 0, vI 0], vP 12 0, vT [vI 0, vI 0], vI 0, vI 0]
def Pgjl149 : List Value := Pgjv55 ++ (Pgjv105 ++ (Pgjv57 ++ (Pgjv37 ++ (Pgjv58 ++ (Pgjv59 ++ (Pgjv60 ++ (Pgjv103 ++ (Pgjv106 ++ (Pgjv1 ++ (Pgjv1 ++ (Pgjv1 ++ Pgjv2)))))))))))
def Pgjh150 : List Obj := [Pgjo5, Pgjo100, Pgjo101, Pgjo63, Pgjo64, Pgjo65, Pgjo13, Pgjo34, Pgjo66, Pgjo67, oC 30 [kf 26, kf 27], oC 22 [kf 7, kf 8], Pgjo102, Pgjo69, Pgjo70]
def Pgjv107 : List Value := [vI 0, vB false, vB false, vI 0, vB false, vB false, vX, vX, vX, vX, vX, vX]
def Pgjl152 : List Value := Pgjv55 ++ (Pgjv105 ++ (Pgjv57 ++ (Pgjv37 ++ (Pgjv58 ++ (Pgjv59 ++ (Pgjv60 ++ (Pgjv103 ++ (Pgjv106 ++ (Pgjv107 ++ (Pgjv1 ++ (Pgjv1 ++ Pgjv2)))))))))))
def Pgjh153 : List Obj := [Pgjo5, Pgjo100, Pgjo101, Pgjo63, Pgjo64, Pgjo65, Pgjo13, Pgjo34, Pgjo66, Pgjo67, oC 30 [kf 26, kf 27], oC 22 [kf 7, kf 8], Pgjo102, Pgjo69, Pgjo70]
def Pgjl154 : List Value := Pgjv55 ++ (Pgjv105 ++ (Pgjv57 ++ (Pgjv37 ++ (Pgjv58 ++ (Pgjv59 ++ (Pgjv60 ++ (Pgjv103 ++ (Pgjv106 ++ (Pgjv107 ++ (Pgjv1 ++ (Pgjv1 ++ Pgjv2)))))))))))
def Pgjh155 : List Obj := [Pgjo5, Pgjo100, Pgjo101, Pgjo63, Pgjo64, Pgjo65, Pgjo13, Pgjo34, Pgjo66, Pgjo67, oC 30 [kf 26, kf 27], oC 22 [kf 7, kf 8], Pgjo102, Pgjo69, Pgjo70]
theorem Pgjp0 : PgS PgjO (seqL (pgC 0)) Pg0 [] .normal Pgjl3 Pgjh4 := pgS_ev [] (by decide +kernel)
theorem Pgjp1 : PgS PgjO (seqL (pgC 1)) Pgjl3 Pgjh4 .normal Pgjl7 Pgjh9 := pgS_ev [0] (by decide +kernel)
theorem Pgjp2 : PgS PgjO (seqL (pgC 2)) Pgjl7 Pgjh9 .normal Pgjl12 Pgjh21 := pgS_ev [0, 13, 14, 15, 16, 20, 22, 23, 30, 31, 32] (by decide +kernel)
theorem Pgjp3 : PgS PgjO (seqL (seqL (pgC 3))) Pgjl12 Pgjh21 .normal Pgjl23 Pgjh24 := pgS_ev [0, 1, 2, 3, 4, 5, 6, 7, 8, 9, 10] (by decide +kernel)
theorem Pgjp4 : PgS PgjO (seqR (seqL (pgC 3))) Pgjl23 Pgjh24 .normal Pgjl25 Pgjh26 := pgS_ev [0, 1, 2, 3, 4, 5, 6, 7, 8, 9, 10] (by decide +kernel)
theorem Pgjp5 : PgS PgjO (seqL (pgC 4)) Pgjl25 Pgjh26 .normal Pgjl29 Pgjh30 := pgS_ev [0, 1, 2, 3, 4, 5, 6, 7, 8, 9, 10] (by decide +kernel)
theorem Pgjp6 : PgS PgjO (seqL (pgC 5)) Pgjl29 Pgjh30 .normal Pgjl32 Pgjh33 := pgS_ev [0, 1, 2, 3, 4, 5, 6, 7, 8, 9, 10, 11] (by decide +kernel)
theorem Pgjp7 : PgS PgjO (seqL (seqL (pgC 6))) Pgjl32 Pgjh33 .normal Pgjl35 Pgjh36 := pgS_ev [0, 1, 2, 3, 4, 5, 6, 7, 8, 9, 10, 11] (by decide +kernel)
theorem Pgjp8 : PgS PgjO (inL (inB (seqR (seqL (pgC 6))))) Pgjl35 Pgjh36 .normal Pgjl42 Pgjh46 := pgS_ev [0, 1, 2, 3, 4, 5, 6, 7, 8, 9, 10, 11, 12] (by decide +kernel)
theorem Pgjp9 : PgS PgjO (inL (inB (seqR (seqL (pgC 6))))) Pgjl42 Pgjh46 .normal Pgjl52 Pgjh56 := pgS_ev [0, 1, 2, 3, 4, 5, 6, 7, 8, 9, 10, 11, 13] (by decide +kernel)
theorem Pgjp10 : PgS PgjO (inL (inB (seqR (seqL (pgC 6))))) Pgjl52 Pgjh56 (.exit 0) Pgjl58 Pgjh59 := pgS_ev [0, 1, 2, 3, 4, 5, 6, 7, 8, 9, 10, 11, 12] (by decide +kernel)
theorem Pgjp11 : PgS PgjO (seqL (pgC 7)) Pgjl58 Pgjh59 .normal Pgjl63 Pgjh69 := pgS_ev [0, 1, 2, 3, 4, 5, 6, 7, 8, 9, 10, 11, 12, 14, 17, 18, 22, 23, 24, 25, 26, 27, 28, 29] (by decide +kernel)
theorem Pgjp12 : PgS PgjO (seqL (seqL (pgC 8))) Pgjl63 Pgjh69 .normal Pgjl71 Pgjh72 := pgS_ev [0, 1, 2, 3, 4, 5, 6, 7, 8, 9, 10, 11, 12, 13, 14, 15, 16, 17, 18, 19, 20, 21, 22, 23] (by decide +kernel)
theorem Pgjp13 : PgS PgjO (inL (inB (seqR (seqL (pgC 8))))) Pgjl71 Pgjh72 .normal Pgjl76 Pgjh82 := pgS_ev [0, 1, 2, 3, 4, 5, 6, 7, 8, 9, 10, 11, 12, 15, 34, 35, 36] (by decide +kernel)
theorem Pgjp14 : PgS PgjO (inL (inB (seqR (seqL (pgC 8))))) Pgjl76 Pgjh82 .normal Pgjl91 Pgjh101 := pgS_ev [0, 1, 2, 3, 4, 6, 7, 8, 9, 10, 11, 12, 13, 33, 35, 36, 37, 38, 39, 56, 57, 58] (by decide +kernel)
theorem Pgjp15 : PgS PgjO (inL (inB (seqR (seqL (pgC 8))))) Pgjl91 Pgjh101 .normal Pgjl105 Pgjh110 := pgS_ev [0, 1, 2, 3, 4, 5, 6, 7, 8, 9, 10, 11, 12, 13, 14, 15, 16, 17, 18, 26, 27] (by decide +kernel)
theorem Pgjp16 : PgS PgjO (inL (inB (seqR (seqL (pgC 8))))) Pgjl105 Pgjh110 .normal Pgjl114 Pgjh116 := pgS_ev [0, 1, 2, 3, 4, 5, 6, 7, 8, 9, 10, 11, 12, 13, 14, 25, 26, 27, 28, 45, 46, 47] (by decide +kernel)
theorem Pgjp17 : PgS PgjO (inL (inB (seqR (seqL (pgC 8))))) Pgjl114 Pgjh116 .normal Pgjl120 Pgjh123 := pgS_ev [0, 1, 2, 3, 4, 5, 6, 7, 8, 9, 10, 11, 12, 13, 14, 15, 16, 17, 18, 26, 27] (by decide +kernel)
theorem Pgjp18 : PgS PgjO (inL (inB (seqR (seqL (pgC 8))))) Pgjl120 Pgjh123 .normal Pgjl127 Pgjh134 := pgS_ev [0, 1, 2, 3, 4, 5, 6, 7, 8, 9, 10, 11, 12, 13, 14, 27, 28, 31, 32, 33, 34, 35, 36] (by decide +kernel)
theorem Pgjp19 : PgS PgjO (inL (inB (seqR (seqL (pgC 8))))) Pgjl127 Pgjh134 .normal Pgjl138 Pgjh142 := pgS_ev [0, 1, 2, 3, 4, 5, 6, 7, 8, 9, 10, 11, 12, 13, 14] (by decide +kernel)
theorem Pgjp20 : PgS PgjO (inL (inB (seqR (seqL (pgC 8))))) Pgjl138 Pgjh142 (.exit 2) Pgjl145 Pgjh146 := pgS_ev [0, 1, 2, 3, 4, 5, 6, 7, 8, 9, 10, 11, 12, 13, 14] (by decide +kernel)
theorem Pgjp21 : PgS PgjO (seqL (pgC 9)) Pgjl145 Pgjh146 .normal Pgjl149 Pgjh150 := pgS_ev [0, 1, 2, 3, 4, 5, 6, 7, 8, 9, 10, 11, 12, 13, 14] (by decide +kernel)
theorem Pgjp22 : PgS PgjO (seqL (seqL (pgC 10))) Pgjl149 Pgjh150 .normal Pgjl152 Pgjh153 := pgS_ev [0, 1, 2, 3, 4, 5, 6, 7, 8, 9, 10, 11, 12, 13, 14] (by decide +kernel)
theorem Pgjp23 : PgS PgjO (seqR (seqL (pgC 10))) Pgjl152 Pgjh153 .normal Pgjl154 Pgjh155 := pgS_ev [0, 1, 2, 3, 4, 5, 6, 7, 8, 9, 10, 11, 12, 13, 14] (by decide +kernel)
theorem Pgjw : shrOk (fun j => decide (j < 11)) [(kf 10, kf 10), (kf 26, kf 11), (kf 27, kf 12), (kf 12, kf 15), (kf 13, kf 16), (kf 26, kf 13), (kf 27, kf 14)] 0 [0, 1, 2, 6, 9, 10] Pgjl154 Pgjh155 Pg2A Pg2H = true := by decide +kernel
def Pgke : List Ent := [⟨.conv 5 3, [kf 5], kf 16⟩,
  ⟨.bin .rem 3, [kf 16, vI 128], kf 17⟩,
  ⟨.bin .add 3, [vI 1, kf 17], kf 9⟩,
  ⟨.bin .geq 3, [kf 9, vI 1], .bool true⟩,
  ⟨.bin .leq 3, [kf 9, vI 4096], .bool true⟩,
  ⟨.bin .mul 3, [vI 5, kf 9], kf 18⟩,
  ⟨.bin .add 3, [vI 82, kf 18], kf 19⟩,
  ⟨.bin .add 3, [kf 19, kf 9], kf 1⟩,
  ⟨.bin .add 3, [kf 9, vI 64], kf 20⟩,
  ⟨.bin .sub 3, [kf 20, vI 1], kf 21⟩,
  ⟨.bin .quo 3, [kf 21, vI 64], vI 2⟩,
  ⟨.bin .add 3, [kf 1, vI 2], kf 3⟩,
  ⟨.bin .add 3, [kf 3, vI 2], kf 0⟩,
  ⟨.bin .lss 3, [kf 0, vI 1], .bool false⟩,
  ⟨.bin .gtr 3, [kf 0, vI 65536], .bool false⟩,
  ⟨.bin .geq 3, [vI 0, kf 0], .bool false⟩,
  ⟨.bin .lss 3, [kf 9, vI 1], .bool false⟩,
  ⟨.bin .gtr 3, [kf 9, vI 4096], .bool false⟩,
  ⟨.bin .mul 3, [vI 8192, kf 9], kf 22⟩,
  ⟨.bin .add 3, [kf 22, vI 0], kf 22⟩,
  ⟨.bin .add 3, [vI 0, kf 9], kf 9⟩,
  ⟨.bin .mul 3, [vI 6, kf 9], kf 23⟩,
  ⟨.bin .add 3, [vI 82, kf 23], kf 1⟩,
  ⟨.bin .add 3, [kf 9, vI 63], kf 21⟩,
  ⟨.bin .add 3, [kf 1, vI 4], kf 0⟩,
  ⟨.conv 5 3, [kf 6], kf 24⟩,
  ⟨.bin .rem 3, [kf 24, kf 9], kf 17⟩,
  ⟨.bin .lss 3, [vI 0, kf 9], .bool true⟩,
  ⟨.bin .sub 3, [kf 9, vI 0], kf 9⟩,
  ⟨.bin .and 22, [kf 7, .int .u64 18446744073709551615], kf 7⟩,
  ⟨.bin .add 3, [kf 1, vI 0], kf 1⟩,
  ⟨.bin .lss 3, [kf 3, vI 0], .bool false⟩,
  ⟨.bin .geq 3, [kf 3, kf 0], .bool false⟩,
  ⟨.bin .geq 3, [kf 3, vI 0], .bool true⟩,
  ⟨.bin .lss 3, [kf 3, kf 0], .bool true⟩,
  ⟨.bin .lss 3, [vI 64, kf 9], .bool true⟩,
  ⟨.bin .sub 3, [kf 9, vI 64], kf 15⟩,
  ⟨.bin .and 22, [kf 8, kf 11], kf 25⟩,
  ⟨.bin .add 3, [kf 1, vI 1], kf 2⟩,
  ⟨.bin .add 3, [kf 2, vI 2], kf 4⟩,
  ⟨.bin .lss 3, [kf 4, vI 0], .bool false⟩,
  ⟨.bin .geq 3, [kf 4, kf 0], .bool false⟩,
  ⟨.bin .geq 3, [kf 4, vI 0], .bool true⟩,
  ⟨.bin .lss 3, [kf 4, kf 0], .bool true⟩,
  ⟨.bin .lss 3, [vI 128, kf 9], .bool false⟩,
  ⟨.bin .neq 38, [vG [kf 9, vI 1], vG [kf 9, vI 1]], .bool false⟩,
  ⟨.bin .geq 3, [vI 2, kf 0], .bool false⟩,
  ⟨.bin .gtr 3, [kf 9, kf 9], .bool false⟩,
  ⟨.bin .lss 3, [kf 22, kf 22], .bool false⟩,
  ⟨.bin .neq 3, [kf 22, kf 22], .bool false⟩,
  ⟨.bin .neq 3, [kf 9, kf 9], .bool false⟩,
  ⟨.bin .lss 3, [kf 9, kf 9], .bool false⟩,
  ⟨.bin .sub 3, [kf 9, kf 9], kf 26⟩,
  ⟨.bin .add 3, [kf 3, vI 0], kf 3⟩,
  ⟨.conv 3 22, [kf 9], kf 27⟩,
  ⟨.conv 3 22, [kf 26], kf 28⟩,
  ⟨.bin .lss 3, [kf 1, vI 0], .bool false⟩,
  ⟨.bin .geq 3, [kf 1, kf 0], .bool false⟩,
  ⟨.bin .add 22, [.int .u64 0, kf 12], kf 12⟩,
  ⟨.bin .and 22, [kf 7, kf 12], kf 7⟩,
  ⟨.bin .eql 22, [kf 7, .int .u64 0], .bool false⟩,
  ⟨.un .neg, [kf 7], kf 29⟩,
  ⟨.bin .add 22, [kf 7, kf 29], kf 30⟩,
  ⟨.bin .add 3, [kf 3, vI 1], kf 4⟩,
  ⟨.bin .lss 3, [kf 2, vI 0], .bool false⟩,
  ⟨.bin .geq 3, [kf 2, kf 0], .bool false⟩,
  ⟨.bin .add 22, [.int .u64 0, kf 11], kf 11⟩,
  ⟨.bin .and 22, [kf 25, kf 11], kf 25⟩,
  ⟨.bin .eql 22, [kf 25, .int .u64 0], .bool false⟩,
  ⟨.un .neg, [kf 25], kf 31⟩,
  ⟨.bin .add 22, [kf 25, kf 31], kf 32⟩]
def Pgkf : List FnEnt := [⟨14, [], .bool true⟩,
  ⟨44, [kf 9, vZ], vA⟩,
  ⟨5, [kf 9], .int .u64 18446744073709551615⟩,
  ⟨5, [kf 15], kf 11⟩]
def PgkO : Orc := orcS Pgke Pgkf 4 rdG (pgMk 9 11 12)
def Pgkv0 : List Value := [kf 5, kf 6, kf 7, kf 8, vX, vX, vX, vX, vB false, vX, vX, vX]
def Pgkv1 : List Value := [vX, vX, vX, vX, vX, vX, vX, vX, vX, vX, vX, vX]
def Pgkv2 : List Value := [vX, vX, vX, vX, vX, vX]
def Pgkl3 : List Value := Pgkv0 ++ (Pgkv1 ++ (Pgkv1 ++ (Pgkv1 ++ (Pgkv1 ++ (Pgkv1 ++ (Pgkv1 ++ (Pgkv1 ++ (Pgkv1 ++ (Pgkv1 ++ (Pgkv1 ++ (Pgkv1 ++ Pgkv2)))))))))))
def Pgkh4 : List Obj := []
def Pgkv3 : List Value := [kf 5, kf 6, kf 7, kf 8, vX, vX, vX, vX, vB false, vP 0 0, vX, vX]
def Pgkv4 : List Value := [kf 5, kf 16, kf 17, kf 9, vG [kf 9, vI 1, vZ], vX, vX, vX, vX, vX, vX, vX]
def Pgkl7 : List Value := Pgkv3 ++ (Pgkv1 ++ (Pgkv4 ++ (Pgkv1 ++ (Pgkv1 ++ (Pgkv1 ++ (Pgkv1 ++ (Pgkv1 ++ (Pgkv1 ++ (Pgkv1 ++ (Pgkv1 ++ (Pgkv1 ++ Pgkv2)))))))))))
def Pgko5 : Obj := oC 25 [kf 9, vI 1, vZ]
def Pgkh9 : List Obj := [Pgko5]
def Pgkv6 : List Value := [kf 5, kf 6, kf 7, kf 8, vX, vX, vX, vX, vB false, vP 0 0, vP 7 0, vP 10 0]
def Pgkv7 : List Value := [kf 5, kf 16, kf 17, kf 9, vG [kf 9, vI 1, vZ], vT [vP 7 0, vP 10 0], vG [kf 9, vI 1, vZ], vT [vP 7 0, vP 10 0], vP 7 0, vP 10 0, vX, vX]
def Pgkl12 : List Value := Pgkv6 ++ (Pgkv1 ++ (Pgkv7 ++ (Pgkv1 ++ (Pgkv1 ++ (Pgkv1 ++ (Pgkv1 ++ (Pgkv1 ++ (Pgkv1 ++ (Pgkv1 ++ (Pgkv1 ++ (Pgkv1 ++ Pgkv2)))))))))))
def Pgko8 : Obj := oC 4 [vU 1, vU 0, vU 0, vU 0, vU 0, vU 0, vU 0, vU 0, vU 0, vU 0, vU 0, vU 0, vU 0, vU 0, vU 0, vU 0, vU 0, vU 0, vU 0, vU 0, vU 0, vU 0, vU 0, vU 0, vU 0, vU 0, vU 0, vU 0, vU 0, vU 0, vU 0, vU 0, vU 0, vU 0, vU 0, vU 0, vU 0, vU 0, vU 0, vU 0, vU 0, vU 0, vU 0, vU 0, vU 0, vU 0, vU 0, vU 0, vU 0, vU 0, vU 0, vU 0, vU 0, vU 0, vU 0, vU 0, vU 0, vU 0, vU 0, vU 0, vU 0, vU 0, vU 0, vU 0, vU 0, vU 0, vU 0, vU 0, vU 0, vU 0, vU 0, vU 0, vU 0, vU 0, vU 0, vU 0, vU 0]
def Pgko9 : Obj := oC 109 [.complex .f32 1 0, vI 0, vI 0, vU 0, vU 0, vI 0]
def Pgko10 : Obj := oC 147 [vP 5 0, vI 1]
def Pgko11 : Obj := oC 119 [kf 9, vZ, vI 1, vP 3 0, vS 6 0 1 1, kf 9]
def Pgko12 : Obj := oC 167 [kf 22, .int .u32 0, vI 0, kf 9, vN, vN]
def Pgko13 : Obj := oC 86 [kf 9, vI 1, vP 2 0, vP 4 0]
def Pgko14 : Obj := oC 64 [.complex .f32 8 0, vI 0, vI 0, vU 0, vU 0, vI 0]
def Pgko15 : Obj := oC 40 [vP 9 0, vA, kf 9, vI 1]
def Pgkh21 : List Obj := [Pgko5, Pgko8, Pgko9, Pgko10, Pgko11, Pgko12, oC 116 [vI 0, kf 9], Pgko13, Pgko8, Pgko14, Pgko15]
def Pgkv16 : List Value := [kf 5, kf 16, kf 17, kf 9, vG [kf 9, vI 1, vZ], vT [vP 7 0, vP 10 0], vG [kf 9, vI 1, vZ], vT [vP 7 0, vP 10 0], vP 7 0, vP 10 0, vP 7 0, vB false]
def Pgkl23 : List Value := Pgkv6 ++ (Pgkv1 ++ (Pgkv16 ++ (Pgkv1 ++ (Pgkv1 ++ (Pgkv1 ++ (Pgkv1 ++ (Pgkv1 ++ (Pgkv1 ++ (Pgkv1 ++ (Pgkv1 ++ (Pgkv1 ++ Pgkv2)))))))))))
def Pgkh24 : List Obj := [Pgko5, Pgko8, Pgko9, Pgko10, Pgko11, Pgko12, oC 116 [vI 0, kf 9], Pgko13, Pgko8, Pgko14, Pgko15]
def Pgkl25 : List Value := Pgkv6 ++ (Pgkv1 ++ (Pgkv16 ++ (Pgkv1 ++ (Pgkv1 ++ (Pgkv1 ++ (Pgkv1 ++ (Pgkv1 ++ (Pgkv1 ++ (Pgkv1 ++ (Pgkv1 ++ (Pgkv1 ++ Pgkv2)))))))))))
def Pgkh26 : List Obj := [Pgko5, Pgko8, Pgko9, Pgko10, Pgko11, Pgko12, oC 116 [vI 0, kf 9], Pgko13, Pgko8, Pgko14, Pgko15]
def Pgkv17 : List Value := [kf 9, vX, vX, vX, vX, vX, vX, vX, vX, vX, vX, vX]
def Pgkv18 : List Value := [kf 6, kf 24, vP 0 0, kf 9, kf 17, kf 9, vX, vX, vX, vX, vX, vX]
def Pgkl29 : List Value := Pgkv6 ++ (Pgkv17 ++ (Pgkv16 ++ (Pgkv18 ++ (Pgkv1 ++ (Pgkv1 ++ (Pgkv1 ++ (Pgkv1 ++ (Pgkv1 ++ (Pgkv1 ++ (Pgkv1 ++ (Pgkv1 ++ Pgkv2)))))))))))
def Pgkh30 : List Obj := [Pgko5, Pgko8, Pgko9, Pgko10, Pgko11, Pgko12, oC 116 [vI 0, kf 9], Pgko13, Pgko8, Pgko14, Pgko15]
def Pgkv19 : List Value := [kf 9, vP 11 0, vX, vX, vX, vX, vX, vX, vX, vX, vX, vX]
def Pgkl32 : List Value := Pgkv6 ++ (Pgkv19 ++ (Pgkv16 ++ (Pgkv18 ++ (Pgkv1 ++ (Pgkv1 ++ (Pgkv1 ++ (Pgkv1 ++ (Pgkv1 ++ (Pgkv1 ++ (Pgkv1 ++ (Pgkv1 ++ Pgkv2)))))))))))
def Pgkh33 : List Obj := [Pgko5, Pgko8, Pgko9, Pgko10, Pgko11, Pgko12, oC 116 [vI 0, kf 9], Pgko13, Pgko8, Pgko14, Pgko15, oC 30 [vU 0, vU 0]]
def Pgkv20 : List Value := [kf 9, vP 11 0, vI 0, vX, vX, vX, vX, vX, vX, vX, vX, vX]
def Pgkl35 : List Value := Pgkv6 ++ (Pgkv20 ++ (Pgkv16 ++ (Pgkv18 ++ (Pgkv1 ++ (Pgkv1 ++ (Pgkv1 ++ (Pgkv1 ++ (Pgkv1 ++ (Pgkv1 ++ (Pgkv1 ++ (Pgkv1 ++ Pgkv2)))))))))))
def Pgkh36 : List Obj := [Pgko5, Pgko8, Pgko9, Pgko10, Pgko11, Pgko12, oC 116 [vI 0, kf 9], Pgko13, Pgko8, Pgko14, Pgko15, oC 30 [vU 0, vU 0]]
def Pgkv21 : List Value := [kf 9, vP 11 0, vI 1, kf 3, vB true, vX, vX, vX, vX, vX, vX, vX]
def Pgkv22 : List Value := [kf 6, kf 24, vP 0 0, kf 9, kf 17, kf 9, vI 0, vI 0, vP 0 0, kf 9, vB true, vI 0]
def Pgkv23 : List Value := [vI 1, vI 0, kf 7, kf 8, vS 12 0 2 2, vI 0, vP 12 0, kf 7, vP 0 0, kf 9, vI 0, vI 0]
def Pgkv24 : List Value := [kf 9, vU 18446744073709551615, kf 7, vP 11 0, vT [kf 3, vB true], vP 10 0, vP 10 0, vP 10 2, vG [kf 9, vI 1], vI 0, vT [kf 3, vB true], kf 3]
def Pgkv25 : List Value := [vB true, vP 7 0, vP 10 0, kf 3, vI 0, vP 11 0, kf 7, vB true, vB false, vX, vX, vX]
def Pgkl42 : List Value := Pgkv6 ++ (Pgkv21 ++ (Pgkv16 ++ (Pgkv22 ++ (Pgkv23 ++ (Pgkv24 ++ (Pgkv25 ++ (Pgkv1 ++ (Pgkv1 ++ (Pgkv1 ++ (Pgkv1 ++ (Pgkv1 ++ Pgkv2)))))))))))
def Pgko26 : Obj := oC 80000004 [vU 1, vU 0, vU 0, vU 0, vU 0, vU 0, vU 0, vU 0, vU 0, vU 0, vU 0, vU 0, vU 0, vU 0, vU 0, vU 0, vU 0, vU 0, vU 0, vU 0, vU 0, vU 0, vU 0, vU 0, vU 0, vU 0, vU 0, vU 0, vU 0, vU 0, vU 0, vU 0, vU 0, vU 0, vU 0, vU 0, vU 0, vU 0, vU 0, vU 0, vU 0, vU 0, vU 0, vU 0, vU 0, vU 0, vU 0, vU 0, vU 0, vU 0, vU 0, vU 0, vU 0, vU 0, vU 0, vU 0, vU 0, vU 0, vU 0, vU 0, vU 0, vU 0, vU 0, vU 0, vU 0, vU 0, vU 0, vU 0, vU 0, vU 0, vU 0, vU 0, vU 0, vU 0, vU 0, vU 0, vU 0]
def Pgko27 : Obj := oC 109 [.complex .f32 1 0, vI 2, kf 3, vU 0, kf 7, vI 1]
def Pgko28 : Obj := oC 64 [.complex .f32 8 0, vI 2, kf 3, vU 0, kf 7, vI 1]
def Pgkh46 : List Obj := [Pgko5, Pgko26, Pgko27, Pgko10, Pgko11, Pgko12, oC 116 [vI 0, kf 9], Pgko13, Pgko26, Pgko28, Pgko15, oC 30 [kf 7, vU 0], oC 22 [kf 7, kf 8]]
def Pgkv29 : List Value := [kf 9, vP 11 0, vI 2, kf 4, vB true, vX, vX, vX, vX, vX, vX, vX]
def Pgkv30 : List Value := [kf 6, kf 24, vP 0 0, kf 9, kf 17, kf 9, vI 1, vI 64, vP 0 0, kf 9, vB true, vI 1]
def Pgkv31 : List Value := [vI 2, vI 1, kf 7, kf 8, vS 12 0 2 2, vI 1, vP 12 1, kf 8, vP 0 0, kf 9, vI 1, vI 64]
def Pgkv32 : List Value := [kf 15, kf 11, kf 25, vP 11 1, vT [kf 4, vB true], vP 10 0, vP 10 0, vP 10 2, vG [kf 9, vI 1], vI 1, vT [kf 4, vB true], kf 4]
def Pgkv33 : List Value := [vB true, vP 7 0, vP 10 0, kf 4, vI 1, vP 11 1, kf 25, vB true, vB false, vX, vX, vX]
def Pgkl52 : List Value := Pgkv6 ++ (Pgkv29 ++ (Pgkv16 ++ (Pgkv30 ++ (Pgkv31 ++ (Pgkv32 ++ (Pgkv33 ++ (Pgkv1 ++ (Pgkv1 ++ (Pgkv1 ++ (Pgkv1 ++ (Pgkv1 ++ Pgkv2)))))))))))
def Pgko34 : Obj := oC 260080000004 [vU 1, vU 0, vU 0, vU 0, vU 0, vU 0, vU 0, vU 0, vU 0, vU 0, vU 0, vU 0, vU 0, vU 0, vU 0, vU 0, vU 0, vU 0, vU 0, vU 0, vU 0, vU 0, vU 0, vU 0, vU 0, vU 0, vU 0, vU 0, vU 0, vU 0, vU 0, vU 0, vU 0, vU 0, vU 0, vU 0, vU 0, vU 0, vU 0, vU 0, vU 0, vU 0, vU 0, vU 0, vU 0, vU 0, vU 0, vU 0, vU 0, vU 0, vU 0, vU 0, vU 0, vU 0, vU 0, vU 0, vU 0, vU 0, vU 0, vU 0, vU 0, vU 0, vU 0, vU 0, vU 0, vU 0, vU 0, vU 0, vU 0, vU 0, vU 0, vU 0, vU 0, vU 0, vU 0, vU 0, vU 0]
def Pgko35 : Obj := oC 109 [.complex .f32 1 0, vI 2, kf 4, vU 0, kf 25, vI 2]
def Pgko36 : Obj := oC 64 [.complex .f32 8 0, vI 2, kf 4, vU 0, kf 25, vI 2]
def Pgkh56 : List Obj := [Pgko5, Pgko34, Pgko35, Pgko10, Pgko11, Pgko12, oC 116 [vI 0, kf 9], Pgko13, Pgko34, Pgko36, Pgko15, oC 30 [kf 7, kf 25], oC 22 [kf 7, kf 8]]
def Pgkv37 : List Value := [kf 6, kf 24, vP 0 0, kf 9, kf 17, kf 9, vI 2, vI 128, vP 0 0, kf 9, vB false, vI 1]
def Pgkl58 : List Value := Pgkv6 ++ (Pgkv29 ++ (Pgkv16 ++ (Pgkv37 ++ (Pgkv31 ++ (Pgkv32 ++ (Pgkv33 ++ (Pgkv1 ++ (Pgkv1 ++ (Pgkv1 ++ (Pgkv1 ++ (Pgkv1 ++ Pgkv2)))))))))))
def Pgkh59 : List Obj := [Pgko5, Pgko34, Pgko35, Pgko10, Pgko11, Pgko12, oC 116 [vI 0, kf 9], Pgko13, Pgko34, Pgko36, Pgko15, oC 30 [kf 7, kf 25], oC 22 [kf 7, kf 8]]
def Pgkv38 : List Value := [kf 9, vP 11 0, vI 2, kf 4, vB true, vP 15 0, vX, vX, vX, vX, vX, vX]
def Pgkv39 : List Value := [vB true, vP 7 0, vP 10 0, kf 4, vI 1, vP 11 1, kf 25, vB true, vB false, vP 10 0, vP 10 0, vP 10 2]
def Pgkv40 : List Value := [vG [kf 9, vI 1], kf 9, vP 15 0, vX, vX, vX, vX, vX, vX, vX, vX, vX]
def Pgkl63 : List Value := Pgkv6 ++ (Pgkv38 ++ (Pgkv16 ++ (Pgkv37 ++ (Pgkv31 ++ (Pgkv32 ++ (Pgkv39 ++ (Pgkv40 ++ (Pgkv1 ++ (Pgkv1 ++ (Pgkv1 ++ (Pgkv1 ++ Pgkv2)))))))))))
def Pgko41 : Obj := oC 75 [kf 9, vI 1, vF 51 [] [vP 22 0, vP 23 0], kf 9, vZ, vZ, vZ, vI 0, vI 2]
def Pgko42 : Obj := oC 100 [kf 9, vI 1, vF 75 [] [vP 18 0, vP 19 0, vP 20 0, vP 21 0]]
def Pgko43 : Obj := oC 102 [vF 53 [] [vP 17 0]]
def Pgko44 : Obj := oC 98 [.iface 77 (vP 16 0)]
def Pgko45 : Obj := oC 1 [vF 32 [] [vP 14 0, vP 13 0]]
def Pgkh69 : List Obj := [Pgko5, Pgko34, Pgko35, Pgko10, Pgko11, Pgko12, oC 116 [vI 0, kf 9], Pgko13, Pgko34, Pgko36, Pgko15, oC 30 [kf 7, kf 25], oC 22 [kf 7, kf 8], oC 3 [kf 9], oC 42 [vP 15 0], Pgko41, Pgko42, oC 77 [vP 16 0], oC 3 [vI 2], oC 22 [vU 0], oC 22 [vU 1], Pgko43, Pgko44, Pgko45]
def Pgkv46 : List Value := [kf 9, vP 11 0, vI 2, kf 4, vB true, vP 15 0, vI 0, vX, vX, vX, vX, vX]
def Pgkl71 : List Value := Pgkv6 ++ (Pgkv46 ++ (Pgkv16 ++ (Pgkv37 ++ (Pgkv31 ++ (Pgkv32 ++ (Pgkv39 ++ (Pgkv40 ++ (Pgkv1 ++ (Pgkv1 ++ (Pgkv1 ++ (Pgkv1 ++ Pgkv2)))))))))))
def Pgkh72 : List Obj := [Pgko5, Pgko34, Pgko35, Pgko10, Pgko11, Pgko12, oC 116 [vI 0, kf 9], Pgko13, Pgko34, Pgko36, Pgko15, oC 30 [kf 7, kf 25], oC 22 [kf 7, kf 8], oC 3 [kf 9], oC 42 [vP 15 0], Pgko41, Pgko42, oC 77 [vP 16 0], oC 3 [vI 2], oC 22 [vU 0], oC 22 [vU 1], Pgko43, Pgko44, Pgko45]
def Pgkv47 : List Value := [kf 9, vP 11 0, vI 2, kf 4, vB true, vP 13 0, vI 1, vX, vX, vX, vX, vX]
def Pgkv48 : List Value := [vG [kf 9, vI 1], kf 9, vP 13 0, vP 13 0, vB true, vB true, vI 0, vB true, vB true, vB true, vP 13 0, vB false]
def Pgkv49 : List Value := [vB true, vB true, vI 0, vI 1, vP 13 0, vP 7 0, vG [vI 3, vI 2, vU 0, vU 1], vX, vX, vX, vX, vX]
def Pgkl76 : List Value := Pgkv6 ++ (Pgkv47 ++ (Pgkv16 ++ (Pgkv37 ++ (Pgkv31 ++ (Pgkv32 ++ (Pgkv39 ++ (Pgkv48 ++ (Pgkv49 ++ (Pgkv1 ++ (Pgkv1 ++ (Pgkv1 ++ Pgkv2)))))))))))
def Pgko50 : Obj := oC 260080000004 [vU 1, vU 0, vU 1, vU 0, vU 0, vU 0, vU 0, vU 0, vU 0, vU 0, vU 0, vU 0, vU 0, vU 0, vU 0, vU 0, vU 0, vU 0, vU 0, vU 0, vU 0, vU 0, vU 0, vU 0, vU 0, vU 0, vU 0, vU 0, vU 0, vU 0, vU 0, vU 0, vU 0, vU 0, vU 0, vU 0, vU 0, vU 0, vU 0, vU 0, vU 0, vU 0, vU 0, vU 0, vU 0, vU 0, vU 0, vU 0, vU 0, vU 0, vU 0, vU 0, vU 0, vU 0, vU 0, vU 0, vU 0, vU 0, vU 0, vU 0, vU 0, vU 0, vU 0, vU 0, vU 0, vU 0, vU 0, vU 0, vU 0, vU 0, vU 0, vU 0, vU 0, vU 0, vU 0, vU 0, vU 0]
def Pgko51 : Obj := oC 109 [.complex .f32 1 0, vI 3, vI 2, vU 0, vU 1, vI 3]
def Pgko52 : Obj := oC 75 [kf 9, vI 1, vF 55 [] [vP 15 0, vP 16 0, vP 14 0], kf 9, vZ, vZ, vZ, vI 0, vI 2]
def Pgko53 : Obj := oC 80 [vF 34 [vP 13 0] []]
def Pgko54 : Obj := oC 81 [vF 35 [vP 13 0] []]
def Pgkh82 : List Obj := [Pgko5, Pgko50, Pgko51, Pgko10, Pgko11, Pgko12, oC 116 [vI 0, kf 9], Pgko13, Pgko34, Pgko36, Pgko15, oC 30 [kf 7, kf 25], oC 22 [kf 7, kf 8], Pgko52, oC 3 [kf 9], Pgko53, Pgko54]
def Pgkv55 : List Value := [kf 5, kf 6, kf 7, kf 8, vX, vX, vX, vX, vB false, vP 0 0, vP 6 0, vP 9 0]
def Pgkv56 : List Value := [kf 9, vP 10 0, vI 2, kf 4, vB true, vP 12 0, vI 2, vX, vX, vX, vX, vX]
def Pgkv57 : List Value := [kf 5, kf 16, kf 17, kf 9, vG [kf 9, vI 1, vZ], vT [vP 6 0, vP 9 0], vG [kf 9, vI 1, vZ], vT [vP 6 0, vP 9 0], vP 6 0, vP 9 0, vP 6 0, vB false]
def Pgkv58 : List Value := [vI 2, vI 1, kf 7, kf 8, vS 11 0 2 2, vI 1, vP 11 1, kf 8, vP 0 0, kf 9, vI 1, vI 64]
def Pgkv59 : List Value := [kf 15, kf 11, kf 25, vP 10 1, vT [kf 4, vB true], vP 9 0, vP 9 0, vP 9 2, vG [kf 9, vI 1], vI 1, vT [kf 4, vB true], kf 4]
def Pgkv60 : List Value := [vB true, vP 6 0, vP 9 0, kf 4, vI 1, vP 10 1, kf 25, vB true, vB false, vP 9 0, vP 9 0, vP 9 2]
def Pgkv61 : List Value := [vG [kf 9, vI 1], kf 9, vP 12 0, vP 12 0, vB true, vB true, vI 1, vB true, vB true, vB true, vP 12 0, vB false]
def Pgkv62 : List Value := [vB true, vB true, vI 1, vI 2, vP 12 0, vP 6 0, vG [vI 6, vI 0, kf 27, kf 28], vX, vX, vX, vX, vX]
def Pgkl91 : List Value := Pgkv55 ++ (Pgkv56 ++ (Pgkv57 ++ (Pgkv37 ++ (Pgkv58 ++ (Pgkv59 ++ (Pgkv60 ++ (Pgkv61 ++ (Pgkv62 ++ (Pgkv1 ++ (Pgkv1 ++ (Pgkv1 ++ Pgkv2)))))))))))
def Pgko63 : Obj := oC 119 [kf 9, vZ, vI 1, vP 3 0, vS 5 0 0 1, kf 26]
def Pgko64 : Obj := oC 64 [.complex .f32 7 0, vI 2, kf 4, vU 0, kf 25, vI 2]
def Pgko65 : Obj := oC 40 [vP 8 0, vA, kf 9, vI 1]
def Pgko66 : Obj := oC 75 [kf 9, vI 1, vF 108 [] [vP 18 0, vP 19 0, vP 20 0], kf 9, vZ, vZ, vS 13 0 2 2, vI 0, vI 2]
def Pgko67 : Obj := oC 142 [vI 0, kf 12, vI 1, kf 11]
def Pgko68 : Obj := oC 137 [vF 88 [] [vP 14 0, vP 17 0, vP 16 0, vP 15 0]]
def Pgkh98 : List Obj := [Pgko5, Pgko50, Pgko51, oC 147 [vN, vI 0], Pgko63, oC 116 [vI 0, vI 0], Pgko13, Pgko34, Pgko64, Pgko65, oC 30 [kf 7, kf 25], oC 22 [kf 7, kf 8], Pgko66, Pgko67, oC 42 [vP 12 0], oC 3 [vI 0], oC 142 [vI 0, kf 12], oC 3 [kf 3], oC 3 [kf 1], oC 22 [kf 12], Pgko68]
def Pgkv69 : List Value := [kf 9, vP 10 0, vI 2, kf 4, vB true, vP 12 0, vI 3, vX, vX, vX, vX, vX]
def Pgkv70 : List Value := [vG [kf 9, vI 1], kf 9, vP 12 0, vP 12 0, vB true, vB true, vI 2, vB true, vB true, vB true, vP 12 0, vB false]
def Pgkv71 : List Value := [vB true, vB true, vI 2, vI 3, vP 12 0, vP 6 0, vG [vI 5, kf 1, vU 0, kf 12], vX, vX, vX, vX, vX]
def Pgkl102 : List Value := Pgkv55 ++ (Pgkv69 ++ (Pgkv57 ++ (Pgkv37 ++ (Pgkv58 ++ (Pgkv59 ++ (Pgkv60 ++ (Pgkv70 ++ (Pgkv71 ++ (Pgkv1 ++ (Pgkv1 ++ (Pgkv1 ++ Pgkv2)))))))))))
def Pgko72 : Obj := oC 260080000134 [vU 1, vU 0, vU 1, vU 0, vU 0, vU 0, vU 0, vU 0, vU 0, vU 0, vU 0, vU 0, vU 0, vU 0, vU 0, vU 0, vU 0, vU 0, vU 0, vU 0, vU 0, vU 0, vU 0, vU 0, vU 0, vU 0, vU 0, vU 0, vU 0, vU 0, vU 0, vU 0, vU 0, vU 0, vU 0, vU 0, vU 0, vU 0, vU 0, vU 0, vU 0, vU 0, vU 0, vU 0, vU 0, vU 0, vU 0, vU 0, vU 0, vU 0, vU 0, vU 0, vU 0, vU 0, vU 0, vU 0, vU 0, vU 0, vU 0, vU 0, vU 0, vU 0, vU 0, vU 0, vU 0, vU 0, vU 0, vU 0, vU 0, vU 0, vU 0, vU 0, vU 0, vU 0, vU 0, vU 0, vU 0]
def Pgko73 : Obj := oC 109 [.complex .f32 1 0, vI 5, kf 1, vU 0, kf 12, vI 4]
def Pgko74 : Obj := oC 75 [kf 9, vI 1, vF 100 [] [vP 18 0, vP 19 0], kf 9, vZ, vZ, vS 13 0 2 2, vI 0, vI 2]
def Pgko75 : Obj := oC 137 [vF 89 [] [vP 16 0, vP 14 0, vP 15 0, vP 17 0]]
def Pgkh107 : List Obj := [Pgko5, Pgko72, Pgko73, oC 147 [vN, vI 0], Pgko63, oC 116 [vI 0, vI 0], Pgko13, Pgko34, Pgko64, Pgko65, oC 30 [kf 7, kf 25], oC 22 [kf 7, kf 8], Pgko74, Pgko67, oC 42 [vP 12 0], oC 3 [vI 0], oC 142 [vI 0, kf 12], oC 3 [kf 3], oC 3 [kf 3], Pgko75]
def Pgkv76 : List Value := [kf 9, vP 10 0, vI 2, kf 4, vB true, vP 12 0, vI 4, vX, vX, vX, vX, vX]
def Pgkv77 : List Value := [vG [kf 9, vI 1], kf 9, vP 12 0, vP 12 0, vB true, vB true, vI 3, vB true, vB true, vB true, vP 12 0, vB false]
def Pgkv78 : List Value := [vB true, vB true, vI 3, vI 4, vP 12 0, vP 6 0, vG [vI 1, kf 3, kf 7, kf 7], vX, vX, vX, vX, vX]
def Pgkl111 : List Value := Pgkv55 ++ (Pgkv76 ++ (Pgkv57 ++ (Pgkv37 ++ (Pgkv58 ++ (Pgkv59 ++ (Pgkv60 ++ (Pgkv77 ++ (Pgkv78 ++ (Pgkv1 ++ (Pgkv1 ++ (Pgkv1 ++ Pgkv2)))))))))))
def Pgko79 : Obj := oC 109 [.complex .f32 1 0, vI 1, kf 3, kf 7, kf 7, vI 5]
def Pgko80 : Obj := oC 75 [kf 9, vI 1, vF 108 [] [vP 16 0, vP 17 0, vP 18 0], kf 9, vZ, vZ, vS 13 0 2 2, vI 0, vI 2]
def Pgko81 : Obj := oC 137 [vF 90 [] [vP 14 0, vP 15 0]]
def Pgkh115 : List Obj := [Pgko5, Pgko72, Pgko79, oC 147 [vN, vI 0], Pgko63, oC 116 [vI 0, vI 0], Pgko13, Pgko34, Pgko64, Pgko65, oC 30 [kf 7, kf 25], oC 22 [kf 7, kf 8], Pgko80, Pgko67, oC 42 [vP 12 0], oC 3 [vI 0], oC 3 [kf 3], oC 22 [kf 29], Pgko81]
def Pgkv82 : List Value := [kf 9, vP 10 0, vI 2, kf 4, vB true, vP 12 0, vI 5, vX, vX, vX, vX, vX]
def Pgkv83 : List Value := [vG [kf 9, vI 1], kf 9, vP 12 0, vP 12 0, vB true, vB true, vI 4, vB true, vB true, vB true, vP 12 0, vB false]
def Pgkv84 : List Value := [vB true, vB true, vI 4, vI 5, vP 12 0, vP 6 0, vG [vI 5, kf 3, kf 7, kf 30], vX, vX, vX, vX, vX]
def Pgkl119 : List Value := Pgkv55 ++ (Pgkv82 ++ (Pgkv57 ++ (Pgkv37 ++ (Pgkv58 ++ (Pgkv59 ++ (Pgkv60 ++ (Pgkv83 ++ (Pgkv84 ++ (Pgkv1 ++ (Pgkv1 ++ (Pgkv1 ++ Pgkv2)))))))))))
def Pgko85 : Obj := oC 260310000134 [vU 1, vU 0, vU 1, vU 0, vU 0, vU 0, vU 0, vU 0, vU 0, vU 0, vU 0, vU 0, vU 0, vU 0, vU 0, vU 0, vU 0, vU 0, vU 0, vU 0, vU 0, vU 0, vU 0, vU 0, vU 0, vU 0, vU 0, vU 0, vU 0, vU 0, vU 0, vU 0, vU 0, vU 0, vU 0, vU 0, vU 0, vU 0, vU 0, vU 0, vU 0, vU 0, vU 0, vU 0, vU 0, vU 0, vU 0, vU 0, vU 0, vU 0, vU 0, vU 0, vU 0, vU 0, vU 0, vU 0, vU 0, vU 0, vU 0, vU 0, vU 0, vU 0, vU 0, vU 0, vU 0, vU 0, vU 0, vU 0, vU 0, vU 0, vU 0, vU 0, vU 0, vU 0, vU 0, vU 0, vU 0]
def Pgko86 : Obj := oC 109 [.complex .f32 1 0, vI 5, kf 3, kf 7, kf 30, vI 6]
def Pgkh122 : List Obj := [Pgko5, Pgko85, Pgko86, oC 147 [vN, vI 0], Pgko63, oC 116 [vI 0, vI 0], Pgko13, Pgko34, Pgko64, Pgko65, oC 30 [kf 7, kf 25], oC 22 [kf 7, kf 8], Pgko66, Pgko67, oC 42 [vP 12 0], oC 3 [vI 1], oC 142 [vI 1, kf 11], oC 3 [kf 4], oC 3 [kf 2], oC 22 [kf 11], Pgko68]
def Pgkv87 : List Value := [kf 9, vP 10 0, vI 2, kf 4, vB true, vP 12 0, vI 6, vX, vX, vX, vX, vX]
def Pgkv88 : List Value := [vG [kf 9, vI 1], kf 9, vP 12 0, vP 12 0, vB true, vB true, vI 5, vB true, vB true, vB true, vP 12 0, vB false]
def Pgkv89 : List Value := [vB true, vB true, vI 5, vI 6, vP 12 0, vP 6 0, vG [vI 5, kf 2, vU 0, kf 11], vX, vX, vX, vX, vX]
def Pgkl126 : List Value := Pgkv55 ++ (Pgkv87 ++ (Pgkv57 ++ (Pgkv37 ++ (Pgkv58 ++ (Pgkv59 ++ (Pgkv60 ++ (Pgkv88 ++ (Pgkv89 ++ (Pgkv1 ++ (Pgkv1 ++ (Pgkv1 ++ Pgkv2)))))))))))
def Pgko90 : Obj := oC 260310120134 [vU 1, vU 0, vU 1, vU 0, vU 0, vU 0, vU 0, vU 0, vU 0, vU 0, vU 0, vU 0, vU 0, vU 0, vU 0, vU 0, vU 0, vU 0, vU 0, vU 0, vU 0, vU 0, vU 0, vU 0, vU 0, vU 0, vU 0, vU 0, vU 0, vU 0, vU 0, vU 0, vU 0, vU 0, vU 0, vU 0, vU 0, vU 0, vU 0, vU 0, vU 0, vU 0, vU 0, vU 0, vU 0, vU 0, vU 0, vU 0, vU 0, vU 0, vU 0, vU 0, vU 0, vU 0, vU 0, vU 0, vU 0, vU 0, vU 0, vU 0, vU 0, vU 0, vU 0, vU 0, vU 0, vU 0, vU 0, vU 0, vU 0, vU 0, vU 0, vU 0, vU 0, vU 0, vU 0, vU 0, vU 0]
def Pgko91 : Obj := oC 109 [.complex .f32 1 0, vI 5, kf 2, vU 0, kf 11, vI 7]
def Pgkh129 : List Obj := [Pgko5, Pgko90, Pgko91, oC 147 [vN, vI 0], Pgko63, oC 116 [vI 0, vI 0], Pgko13, Pgko34, Pgko64, Pgko65, oC 30 [kf 7, kf 25], oC 22 [kf 7, kf 8], Pgko74, Pgko67, oC 42 [vP 12 0], oC 3 [vI 1], oC 142 [vI 1, kf 11], oC 3 [kf 4], oC 3 [kf 4], Pgko75]
def Pgkv92 : List Value := [kf 9, vP 10 0, vI 2, kf 4, vB true, vP 12 0, vI 7, vX, vX, vX, vX, vX]
def Pgkv93 : List Value := [vG [kf 9, vI 1], kf 9, vP 12 0, vP 12 0, vB true, vB true, vI 6, vB true, vB true, vB true, vP 12 0, vB false]
def Pgkv94 : List Value := [vB true, vB true, vI 6, vI 7, vP 12 0, vP 6 0, vG [vI 1, kf 4, kf 25, kf 25], vX, vX, vX, vX, vX]
def Pgkl133 : List Value := Pgkv55 ++ (Pgkv92 ++ (Pgkv57 ++ (Pgkv37 ++ (Pgkv58 ++ (Pgkv59 ++ (Pgkv60 ++ (Pgkv93 ++ (Pgkv94 ++ (Pgkv1 ++ (Pgkv1 ++ (Pgkv1 ++ Pgkv2)))))))))))
def Pgko95 : Obj := oC 109 [.complex .f32 1 0, vI 1, kf 4, kf 25, kf 25, vI 8]
def Pgkh135 : List Obj := [Pgko5, Pgko90, Pgko95, oC 147 [vN, vI 0], Pgko63, oC 116 [vI 0, vI 0], Pgko13, Pgko34, Pgko64, Pgko65, oC 30 [kf 7, kf 25], oC 22 [kf 7, kf 8], Pgko80, Pgko67, oC 42 [vP 12 0], oC 3 [vI 1], oC 3 [kf 4], oC 22 [kf 31], Pgko81]
def Pgkv96 : List Value := [kf 9, vP 10 0, vI 2, kf 4, vB true, vP 12 0, vI 8, vX, vX, vX, vX, vX]
def Pgkv97 : List Value := [vG [kf 9, vI 1], kf 9, vP 12 0, vP 12 0, vB true, vB true, vI 7, vB true, vB true, vB true, vP 12 0, vB false]
def Pgkv98 : List Value := [vB true, vB true, vI 7, vI 8, vP 12 0, vP 6 0, vG [vI 5, kf 4, kf 25, kf 32], vX, vX, vX, vX, vX]
def Pgkl139 : List Value := Pgkv55 ++ (Pgkv96 ++ (Pgkv57 ++ (Pgkv37 ++ (Pgkv58 ++ (Pgkv59 ++ (Pgkv60 ++ (Pgkv97 ++ (Pgkv98 ++ (Pgkv1 ++ (Pgkv1 ++ (Pgkv1 ++ Pgkv2)))))))))))
def Pgko99 : Obj := oC 330310120134 [vU 1, vU 0, vU 1, vU 0, vU 0, vU 0, vU 0, vU 0, vU 0, vU 0, vU 0, vU 0, vU 0, vU 0, vU 0, vU 0, vU 0, vU 0, vU 0, vU 0, vU 0, vU 0, vU 0, vU 0, vU 0, vU 0, vU 0, vU 0, vU 0, vU 0, vU 0, vU 0, vU 0, vU 0, vU 0, vU 0, vU 0, vU 0, vU 0, vU 0, vU 0, vU 0, vU 0, vU 0, vU 0, vU 0, vU 0, vU 0, vU 0, vU 0, vU 0, vU 0, vU 0, vU 0, vU 0, vU 0, vU 0, vU 0, vU 0, vU 0, vU 0, vU 0, vU 0, vU 0, vU 0, vU 0, vU 0, vU 0, vU 0, vU 0, vU 0, vU 0, vU 0, vU 0, vU 0, vU 0, vU 0]
def Pgko100 : Obj := oC 109 [.complex .f32 1 0, vI 5, kf 4, kf 25, kf 32, vI 9]
def Pgko101 : Obj := oC 75 [kf 9, vI 1, vF 51 [] [vP 20 0, vP 21 0], kf 9, vZ, vZ, vS 13 0 2 2, vI 0, vI 2]
def Pgko102 : Obj := oC 176 [kf 9, vI 1, vF 125 [] [vP 17 0, vP 18 0, vP 19 0]]
def Pgko103 : Obj := oC 1 [vF 54 [vP 16 0] []]
def Pgko104 : Obj := oC 98 [.iface 158 (vP 16 0)]
def Pgko105 : Obj := oC 1 [vF 104 [] [vP 15 0, vP 14 0]]
def Pgkh147 : List Obj := [Pgko5, Pgko99, Pgko100, oC 147 [vN, vI 0], Pgko63, oC 116 [vI 0, vI 0], Pgko13, Pgko34, Pgko64, Pgko65, oC 30 [kf 7, kf 25], oC 22 [kf 7, kf 8], Pgko101, Pgko67, oC 42 [vP 12 0], oC 48 [vI 0], Pgko102, oC 3 [vI 2], oC 22 [vU 0], Pgko103, Pgko104, Pgko105]
def Pgkv106 : List Value := [kf 9, vP 10 0, vI 2, kf 4, vB true, vP 12 0, vI 9, vX, vX, vX, vX, vX]
def Pgkv107 : List Value := [vG [kf 9, vI 1], kf 9, vP 12 0, vP 12 0, vB true, vB true, vI 8, vB true, vB true, vB true, vP 12 0, vB false]
def Pgkv108 : List Value := [vB true, vB true, vI 8, vI 9, vP 12 0, vP 6 0, vG [vI 2, vI 2, vU 1, vU 0], vX, vX, vX, vX, vX]
def Pgkl151 : List Value := Pgkv55 ++ (Pgkv106 ++ (Pgkv57 ++ (Pgkv37 ++ (Pgkv58 ++ (Pgkv59 ++ (Pgkv60 ++ (Pgkv107 ++ (Pgkv108 ++ (Pgkv1 ++ (Pgkv1 ++ (Pgkv1 ++ Pgkv2)))))))))))
def Pgko109 : Obj := oC 330310120134 [vU 1, vU 0, vU 0, vU 0, vU 0, vU 0, vU 0, vU 0, vU 0, vU 0, vU 0, vU 0, vU 0, vU 0, vU 0, vU 0, vU 0, vU 0, vU 0, vU 0, vU 0, vU 0, vU 0, vU 0, vU 0, vU 0, vU 0, vU 0, vU 0, vU 0, vU 0, vU 0, vU 0, vU 0, vU 0, vU 0, vU 0, vU 0, vU 0, vU 0, vU 0, vU 0, vU 0, vU 0, vU 0, vU 0, vU 0, vU 0, vU 0, vU 0, vU 0, vU 0, vU 0, vU 0, vU 0, vU 0, vU 0, vU 0, vU 0, vU 0, vU 0, vU 0, vU 0, vU 0, vU 0, vU 0, vU 0, vU 0, vU 0, vU 0, vU 0, vU 0, vU 0, vU 0, vU 0, vU 0, vU 0]
def Pgko110 : Obj := oC 109 [.complex .f32 1 0, vI 2, vI 2, vU 1, vU 0, vI 10]
def Pgko111 : Obj := oC 75 [kf 9, vI 1, .nilFunc, kf 9, vZ, vZ, vS 13 0 2 2, vI 0, vI 0]
def Pgkh155 : List Obj := [Pgko5, Pgko109, Pgko110, oC 147 [vN, vI 0], Pgko63, oC 116 [vI 0, vI 0], Pgko13, Pgko34, Pgko64, Pgko65, oC 30 [kf 7, kf 25], oC 22 [kf 7, kf 8], Pgko111, Pgko67]
def Pgkv112 : List Value := [vG [kf 9, vI 1], kf 9, vP 12 0, vP 12 0, vB true, vB true, vI 9, vB true, vB true, vB true, vP 12 0, vB true]
def Pgkv113 : List Value := [vB false, vB false, vI 8, vI 9, vP 12 0, vP 6 0, vG [vI 2, vI 2, vU 1, vU 0], vX, vX, vX, vX, vX]
def Pgkl158 : List Value := Pgkv55 ++ (Pgkv106 ++ (Pgkv57 ++ (Pgkv37 ++ (Pgkv58 ++ (Pgkv59 ++ (Pgkv60 ++ (Pgkv112 ++ (Pgkv113 ++ (Pgkv1 ++ (Pgkv1 ++ (Pgkv1 ++ Pgkv2)))))))))))
def Pgkh159 : List Obj := [Pgko5, Pgko109, Pgko110, oC 147 [vN, vI 0], Pgko63, oC 116 [vI 0, vI 0], Pgko13, Pgko34, Pgko64, Pgko65, oC 30 [kf 7, kf 25], oC 22 [kf 7, kf 8], Pgko111, Pgko67]
def Pgkv114 : List Value := [kf 9, vP 10 0, vI 2, kf 4, vB true, vP 12 0, vI 9, vI 0, vI 0, vX, vX, vX]
def Pgkv115 : List Value := [vB false, vB false, vI 8, vI 9, vP 12 0, vP 6 0, vG [vI 2, vI 2, vU 1, vU 0], vT [vI 0, vI 0], vP 12 0, vT [vI 0, vI 0], vI 0, vI 0]
def Pgkl162 : List Value := Pgkv55 ++ (Pgkv114 ++ (Pgkv57 ++ (Pgkv37 ++ (Pgkv58 ++ (Pgkv59 ++ (Pgkv60 ++ (Pgkv112 ++ (Pgkv115 ++ (Pgkv1 ++ (Pgkv1 ++ (Pgkv1 ++ Pgkv2)))))))))))
def Pgkh163 : List Obj := [Pgko5, Pgko109, Pgko110, oC 147 [vN, vI 0], Pgko63, oC 116 [vI 0, vI 0], Pgko13, Pgko34, Pgko64, Pgko65, oC 30 [kf 7, kf 25], oC 22 [kf 7, kf 8], Pgko111, Pgko67]
def Pgkv116 : List Value := [vI 0, vB false, vB false, vI 0, vB false, vB false, vX, vX, vX, vX, vX, vX]
def Pgkl165 : List Value := Pgkv55 ++ (Pgkv114 ++ (Pgkv57 ++ (Pgkv37 ++ (Pgkv58 ++ (Pgkv59 ++ (Pgkv60 ++ (Pgkv112 ++ (Pgkv115 ++ (Pgkv116 ++ (Pgkv1 ++ (Pgkv1 ++ Pgkv2)))))))))))
def Pgkh166 : List Obj := [Pgko5, Pgko109, Pgko110, oC 147 [vN, vI 0], Pgko63, oC 116 [vI 0, vI 0], Pgko13, Pgko34, Pgko64, Pgko65, oC 30 [kf 7, kf 25], oC 22 [kf 7, kf 8], Pgko111, Pgko67]
def Pgkl167 : List Value := Pgkv55 ++ (Pgkv114 ++ (Pgkv57 ++ (Pgkv37 ++ (Pgkv58 ++ (Pgkv59 ++ (Pgkv60 ++ (Pgkv112 ++ (Pgkv115 ++ (Pgkv116 ++ (Pgkv1 ++ (Pgkv1 ++ Pgkv2)))))))))))
def Pgkh168 : List Obj := [Pgko5, Pgko109, Pgko110, oC 147 [vN, vI 0], Pgko63, oC 116 [vI 0, vI 0], Pgko13, Pgko34, Pgko64, Pgko65, oC 30 [kf 7, kf 25], oC 22 [kf 7, kf 8], Pgko111, Pgko67]
theorem Pgkp0 : PgS PgkO (seqL (pgC 0)) Pg0 [] .normal Pgkl3 Pgkh4 := pgS_ev [] (by decide +kernel)
theorem Pgkp1 : PgS PgkO (seqL (pgC 1)) Pgkl3 Pgkh4 .normal Pgkl7 Pgkh9 := pgS_ev [0] (by decide +kernel)
theorem Pgkp2 : PgS PgkO (seqL (pgC 2)) Pgkl7 Pgkh9 .normal Pgkl12 Pgkh21 := pgS_ev [0, 13, 14, 15, 16, 20, 22, 23, 30, 31, 32] (by decide +kernel)
theorem Pgkp3 : PgS PgkO (seqL (seqL (pgC 3))) Pgkl12 Pgkh21 .normal Pgkl23 Pgkh24 := pgS_ev [0, 1, 2, 3, 4, 5, 6, 7, 8, 9, 10] (by decide +kernel)
theorem Pgkp4 : PgS PgkO (seqR (seqL (pgC 3))) Pgkl23 Pgkh24 .normal Pgkl25 Pgkh26 := pgS_ev [0, 1, 2, 3, 4, 5, 6, 7, 8, 9, 10] (by decide +kernel)
theorem Pgkp5 : PgS PgkO (seqL (pgC 4)) Pgkl25 Pgkh26 .normal Pgkl29 Pgkh30 := pgS_ev [0, 1, 2, 3, 4, 5, 6, 7, 8, 9, 10] (by decide +kernel)
theorem Pgkp6 : PgS PgkO (seqL (pgC 5)) Pgkl29 Pgkh30 .normal Pgkl32 Pgkh33 := pgS_ev [0, 1, 2, 3, 4, 5, 6, 7, 8, 9, 10, 11] (by decide +kernel)
theorem Pgkp7 : PgS PgkO (seqL (seqL (pgC 6))) Pgkl32 Pgkh33 .normal Pgkl35 Pgkh36 := pgS_ev [0, 1, 2, 3, 4, 5, 6, 7, 8, 9, 10, 11] (by decide +kernel)
theorem Pgkp8 : PgS PgkO (inL (inB (seqR (seqL (pgC 6))))) Pgkl35 Pgkh36 .normal Pgkl42 Pgkh46 := pgS_ev [0, 1, 2, 3, 4, 5, 6, 7, 8, 9, 10, 11, 12] (by decide +kernel)
theorem Pgkp9 : PgS PgkO (inL (inB (seqR (seqL (pgC 6))))) Pgkl42 Pgkh46 .normal Pgkl52 Pgkh56 := pgS_ev [0, 1, 2, 3, 4, 5, 6, 7, 8, 9, 10, 11, 13] (by decide +kernel)
theorem Pgkp10 : PgS PgkO (inL (inB (seqR (seqL (pgC 6))))) Pgkl52 Pgkh56 (.exit 0) Pgkl58 Pgkh59 := pgS_ev [0, 1, 2, 3, 4, 5, 6, 7, 8, 9, 10, 11, 12] (by decide +kernel)
theorem Pgkp11 : PgS PgkO (seqL (pgC 7)) Pgkl58 Pgkh59 .normal Pgkl63 Pgkh69 := pgS_ev [0, 1, 2, 3, 4, 5, 6, 7, 8, 9, 10, 11, 12, 14, 17, 18, 22, 23, 24, 25, 26, 27, 28, 29] (by decide +kernel)
theorem Pgkp12 : PgS PgkO (seqL (seqL (pgC 8))) Pgkl63 Pgkh69 .normal Pgkl71 Pgkh72 := pgS_ev [0, 1, 2, 3, 4, 5, 6, 7, 8, 9, 10, 11, 12, 13, 14, 15, 16, 17, 18, 19, 20, 21, 22, 23] (by decide +kernel)
theorem Pgkp13 : PgS PgkO (inL (inB (seqR (seqL (pgC 8))))) Pgkl71 Pgkh72 .normal Pgkl76 Pgkh82 := pgS_ev [0, 1, 2, 3, 4, 5, 6, 7, 8, 9, 10, 11, 12, 15, 34, 35, 36] (by decide +kernel)
theorem Pgkp14 : PgS PgkO (inL (inB (seqR (seqL (pgC 8))))) Pgkl76 Pgkh82 .normal Pgkl91 Pgkh98 := pgS_ev [0, 1, 2, 3, 4, 6, 7, 8, 9, 10, 11, 12, 13, 30, 31, 32, 33, 34, 51, 52, 53] (by decide +kernel)
theorem Pgkp15 : PgS PgkO (inL (inB (seqR (seqL (pgC 8))))) Pgkl91 Pgkh98 .normal Pgkl102 Pgkh107 := pgS_ev [0, 1, 2, 3, 4, 5, 6, 7, 8, 9, 10, 11, 12, 13, 14, 15, 16, 17, 25, 26] (by decide +kernel)
theorem Pgkp16 : PgS PgkO (inL (inB (seqR (seqL (pgC 8))))) Pgkl102 Pgkh107 .normal Pgkl111 Pgkh115 := pgS_ev [0, 1, 2, 3, 4, 5, 6, 7, 8, 9, 10, 11, 12, 13, 14, 15, 24, 25, 26] (by decide +kernel)
theorem Pgkp17 : PgS PgkO (inL (inB (seqR (seqL (pgC 8))))) Pgkl111 Pgkh115 .normal Pgkl119 Pgkh122 := pgS_ev [0, 1, 2, 3, 4, 5, 6, 7, 8, 9, 10, 11, 12, 13, 23, 24, 25, 26, 43, 44, 45] (by decide +kernel)
theorem Pgkp18 : PgS PgkO (inL (inB (seqR (seqL (pgC 8))))) Pgkl119 Pgkh122 .normal Pgkl126 Pgkh129 := pgS_ev [0, 1, 2, 3, 4, 5, 6, 7, 8, 9, 10, 11, 12, 13, 14, 15, 16, 17, 25, 26] (by decide +kernel)
theorem Pgkp19 : PgS PgkO (inL (inB (seqR (seqL (pgC 8))))) Pgkl126 Pgkh129 .normal Pgkl133 Pgkh135 := pgS_ev [0, 1, 2, 3, 4, 5, 6, 7, 8, 9, 10, 11, 12, 13, 14, 15, 24, 25, 26] (by decide +kernel)
theorem Pgkp20 : PgS PgkO (inL (inB (seqR (seqL (pgC 8))))) Pgkl133 Pgkh135 .normal Pgkl139 Pgkh147 := pgS_ev [0, 1, 2, 3, 4, 5, 6, 7, 8, 9, 10, 11, 12, 13, 25, 26, 29, 30, 31, 32, 33, 34] (by decide +kernel)
theorem Pgkp21 : PgS PgkO (inL (inB (seqR (seqL (pgC 8))))) Pgkl139 Pgkh147 .normal Pgkl151 Pgkh155 := pgS_ev [0, 1, 2, 3, 4, 5, 6, 7, 8, 9, 10, 11, 12, 13] (by decide +kernel)
theorem Pgkp22 : PgS PgkO (inL (inB (seqR (seqL (pgC 8))))) Pgkl151 Pgkh155 (.exit 2) Pgkl158 Pgkh159 := pgS_ev [0, 1, 2, 3, 4, 5, 6, 7, 8, 9, 10, 11, 12, 13] (by decide +kernel)
theorem Pgkp23 : PgS PgkO (seqL (pgC 9)) Pgkl158 Pgkh159 .normal Pgkl162 Pgkh163 := pgS_ev [0, 1, 2, 3, 4, 5, 6, 7, 8, 9, 10, 11, 12, 13] (by decide +kernel)
theorem Pgkp24 : PgS PgkO (seqL (seqL (pgC 10))) Pgkl162 Pgkh163 .normal Pgkl165 Pgkh166 := pgS_ev [0, 1, 2, 3, 4, 5, 6, 7, 8, 9, 10, 11, 12, 13] (by decide +kernel)
theorem Pgkp25 : PgS PgkO (seqR (seqL (pgC 10))) Pgkl165 Pgkh166 .normal Pgkl167 Pgkh168 := pgS_ev [0, 1, 2, 3, 4, 5, 6, 7, 8, 9, 10, 11, 12, 13] (by decide +kernel)
theorem Pgkw : shrOk (fun j => decide (j < 11)) [(kf 9, kf 10), (kf 7, kf 11), (kf 25, kf 12), (kf 12, kf 15), (kf 11, kf 16), (kf 30, kf 13), (kf 32, kf 14)] 0 [0, 1, 2, 6, 9, 10] Pgkl167 Pgkh168 Pg2A Pg2H = true := by decide +kernel
def Pgle : List Ent := [⟨.conv 5 3, [kf 5], kf 16⟩,
  ⟨.bin .rem 3, [kf 16, vI 128], kf 17⟩,
  ⟨.bin .add 3, [vI 1, kf 17], kf 9⟩,
  ⟨.bin .geq 3, [kf 9, vI 1], .bool true⟩,
  ⟨.bin .leq 3, [kf 9, vI 4096], .bool true⟩,
  ⟨.bin .mul 3, [vI 5, kf 9], kf 18⟩,
  ⟨.bin .add 3, [vI 82, kf 18], kf 19⟩,
  ⟨.bin .add 3, [kf 19, kf 9], kf 1⟩,
  ⟨.bin .add 3, [kf 9, vI 64], kf 20⟩,
  ⟨.bin .sub 3, [kf 20, vI 1], kf 21⟩,
  ⟨.bin .quo 3, [kf 21, vI 64], vI 2⟩,
  ⟨.bin .add 3, [kf 1, vI 2], kf 3⟩,
  ⟨.bin .add 3, [kf 3, vI 2], kf 0⟩,
  ⟨.bin .lss 3, [kf 0, vI 1], .bool false⟩,
  ⟨.bin .gtr 3, [kf 0, vI 65536], .bool false⟩,
  ⟨.bin .geq 3, [vI 0, kf 0], .bool false⟩,
  ⟨.bin .lss 3, [kf 9, vI 1], .bool false⟩,
  ⟨.bin .gtr 3, [kf 9, vI 4096], .bool false⟩,
  ⟨.bin .mul 3, [vI 8192, kf 9], kf 22⟩,
  ⟨.bin .add 3, [kf 22, vI 0], kf 22⟩,
  ⟨.bin .add 3, [vI 0, kf 9], kf 9⟩,
  ⟨.bin .mul 3, [vI 6, kf 9], kf 23⟩,
  ⟨.bin .add 3, [vI 82, kf 23], kf 1⟩,
  ⟨.bin .add 3, [kf 9, vI 63], kf 21⟩,
  ⟨.bin .add 3, [kf 1, vI 4], kf 0⟩,
  ⟨.conv 5 3, [kf 6], kf 24⟩,
  ⟨.bin .rem 3, [kf 24, kf 9], kf 17⟩,
  ⟨.bin .lss 3, [vI 0, kf 9], .bool true⟩,
  ⟨.bin .sub 3, [kf 9, vI 0], kf 9⟩,
  ⟨.bin .and 22, [kf 7, .int .u64 18446744073709551615], kf 7⟩,
  ⟨.bin .add 3, [kf 1, vI 0], kf 1⟩,
  ⟨.bin .lss 3, [kf 3, vI 0], .bool false⟩,
  ⟨.bin .geq 3, [kf 3, kf 0], .bool false⟩,
  ⟨.bin .geq 3, [kf 3, vI 0], .bool true⟩,
  ⟨.bin .lss 3, [kf 3, kf 0], .bool true⟩,
  ⟨.bin .lss 3, [vI 64, kf 9], .bool true⟩,
  ⟨.bin .sub 3, [kf 9, vI 64], kf 15⟩,
  ⟨.bin .and 22, [kf 8, kf 11], kf 25⟩,
  ⟨.bin .add 3, [kf 1, vI 1], kf 2⟩,
  ⟨.bin .add 3, [kf 2, vI 2], kf 4⟩,
  ⟨.bin .lss 3, [kf 4, vI 0], .bool false⟩,
  ⟨.bin .geq 3, [kf 4, kf 0], .bool false⟩,
  ⟨.bin .geq 3, [kf 4, vI 0], .bool true⟩,
  ⟨.bin .lss 3, [kf 4, kf 0], .bool true⟩,
  ⟨.bin .lss 3, [vI 128, kf 9], .bool false⟩,
  ⟨.bin .neq 38, [vG [kf 9, vI 1], vG [kf 9, vI 1]], .bool false⟩,
  ⟨.bin .geq 3, [vI 2, kf 0], .bool false⟩,
  ⟨.bin .gtr 3, [kf 9, kf 9], .bool false⟩,
  ⟨.bin .lss 3, [kf 22, kf 22], .bool false⟩,
  ⟨.bin .neq 3, [kf 22, kf 22], .bool false⟩,
  ⟨.bin .neq 3, [kf 9, kf 9], .bool false⟩,
  ⟨.bin .lss 3, [kf 9, kf 9], .bool false⟩,
  ⟨.bin .sub 3, [kf 9, kf 9], kf 26⟩,
  ⟨.bin .add 3, [kf 3, vI 0], kf 3⟩,
  ⟨.conv 3 22, [kf 9], kf 27⟩,
  ⟨.conv 3 22, [kf 26], kf 28⟩,
  ⟨.bin .lss 3, [kf 1, vI 0], .bool false⟩,
  ⟨.bin .geq 3, [kf 1, kf 0], .bool false⟩,
  ⟨.bin .add 22, [.int .u64 0, kf 12], kf 12⟩,
  ⟨.bin .and 22, [kf 7, kf 12], kf 7⟩,
  ⟨.bin .eql 22, [kf 7, .int .u64 0], .bool false⟩,
  ⟨.un .neg, [kf 7], kf 29⟩,
  ⟨.bin .add 22, [kf 7, kf 29], kf 30⟩,
  ⟨.bin .add 3, [kf 3, vI 1], kf 4⟩,
  ⟨.bin .lss 3, [kf 2, vI 0], .bool false⟩,
  ⟨.bin .geq 3, [kf 2, kf 0], .bool false⟩,
  ⟨.bin .add 22, [.int .u64 0, kf 11], kf 11⟩,
  ⟨.bin .and 22, [kf 25, kf 11], kf 31⟩,
  ⟨.bin .eql 22, [kf 31, .int .u64 0], .bool true⟩]
def Pglf : List FnEnt := [⟨14, [], .bool true⟩,
  ⟨44, [kf 9, vZ], vA⟩,
  ⟨5, [kf 9], .int .u64 18446744073709551615⟩,
  ⟨5, [kf 15], kf 11⟩]
def PglO : Orc := orcS Pgle Pglf 4 rdG (pgMk 9 11 12)
def Pglv0 : List Value := [kf 5, kf 6, kf 7, kf 8, vX, vX, vX, vX, vB false, vX, vX, vX]
def Pglv1 : List Value := [vX, vX, vX, vX, vX, vX, vX, vX, vX, vX, vX, vX]
def Pglv2 : List Value := [vX, vX, vX, vX, vX, vX]
def Pgll3 : List Value := Pglv0 ++ (Pglv1 ++ (Pglv1 ++ (Pglv1 ++ (Pglv1 ++ (Pglv1 ++ (Pglv1 ++ (Pglv1 ++ (Pglv1 ++ (Pglv1 ++ (Pglv1 ++ (Pglv1 ++ Pglv2)))))))))))
def Pglh4 : List Obj := []
def Pglv3 : List Value := [kf 5, kf 6, kf 7, kf 8, vX, vX, vX, vX, vB false, vP 0 0, vX, vX]
def Pglv4 : List Value := [kf 5, kf 16, kf 17, kf 9, vG [kf 9, vI 1, vZ], vX, vX, vX, vX, vX, vX, vX]
def Pgll7 : List Value := Pglv3 ++ (Pglv1 ++ (Pglv4 ++ (Pglv1 ++ (Pglv1 ++ (Pglv1 ++ (Pglv1 ++ (Pglv1 ++ (Pglv1 ++ (Pglv1 ++ (Pglv1 ++ (Pglv1 ++ Pglv2)))))))))))
def Pglo5 : Obj := oC 25 [kf 9, vI 1, vZ]
def Pglh9 : List Obj := [Pglo5]
def Pglv6 : List Value := [kf 5, kf 6, kf 7, kf 8, vX, vX, vX, vX, vB false, vP 0 0, vP 7 0, vP 10 0]
def Pglv7 : List Value := [kf 5, kf 16, kf 17, kf 9, vG [kf 9, vI 1, vZ], vT [vP 7 0, vP 10 0], vG [kf 9, vI 1, vZ], vT [vP 7 0, vP 10 0], vP 7 0, vP 10 0, vX, vX]
def Pgll12 : List Value := Pglv6 ++ (Pglv1 ++ (Pglv7 ++ (Pglv1 ++ (Pglv1 ++ (Pglv1 ++ (Pglv1 ++ (Pglv1 ++ (Pglv1 ++ (Pglv1 ++ (Pglv1 ++ (Pglv1 ++ Pglv2)))))))))))
def Pglo8 : Obj := oC 4 [vU 1, vU 0, vU 0, vU 0, vU 0, vU 0, vU 0, vU 0, vU 0, vU 0, vU 0, vU 0, vU 0, vU 0, vU 0, vU 0, vU 0, vU 0, vU 0, vU 0, vU 0, vU 0, vU 0, vU 0, vU 0, vU 0, vU 0, vU 0, vU 0, vU 0, vU 0, vU 0, vU 0, vU 0, vU 0, vU 0, vU 0, vU 0, vU 0, vU 0, vU 0, vU 0, vU 0, vU 0, vU 0, vU 0, vU 0, vU 0, vU 0, vU 0, vU 0, vU 0, vU 0, vU 0, vU 0, vU 0, vU 0, vU 0, vU 0, vU 0, vU 0, vU 0, vU 0, vU 0, vU 0, vU 0, vU 0, vU 0, vU 0, vU 0, vU 0, vU 0, vU 0, vU 0, vU 0, vU 0, vU 0]
def Pglo9 : Obj := oC 109 [.complex .f32 1 0, vI 0, vI 0, vU 0, vU 0, vI 0]
def Pglo10 : Obj := oC 147 [vP 5 0, vI 1]
def Pglo11 : Obj := oC 119 [kf 9, vZ, vI 1, vP 3 0, vS 6 0 1 1, kf 9]
def Pglo12 : Obj := oC 167 [kf 22, .int .u32 0, vI 0, kf 9, vN, vN]
def Pglo13 : Obj := oC 86 [kf 9, vI 1, vP 2 0, vP 4 0]
def Pglo14 : Obj := oC 64 [.complex .f32 8 0, vI 0, vI 0, vU 0, vU 0, vI 0]
def Pglo15 : Obj := oC 40 [vP 9 0, vA, kf 9, vI 1]
def Pglh21 : List Obj := [Pglo5, Pglo8, Pglo9, Pglo10, Pglo11, Pglo12, oC 116 [vI 0, kf 9], Pglo13, Pglo8, Pglo14, Pglo15]
def Pglv16 : List Value := [kf 5, kf 16, kf 17, kf 9, vG [kf 9, vI 1, vZ], vT [vP 7 0, vP 10 0], vG [kf 9, vI 1, vZ], vT [vP 7 0, vP 10 0], vP 7 0, vP 10 0, vP 7 0, vB false]
def Pgll23 : List Value := Pglv6 ++ (Pglv1 ++ (Pglv16 ++ (Pglv1 ++ (Pglv1 ++ (Pglv1 ++ (Pglv1 ++ (Pglv1 ++ (Pglv1 ++ (Pglv1 ++ (Pglv1 ++ (Pglv1 ++ Pglv2)))))))))))
def Pglh24 : List Obj := [Pglo5, Pglo8, Pglo9, Pglo10, Pglo11, Pglo12, oC 116 [vI 0, kf 9], Pglo13, Pglo8, Pglo14, Pglo15]
def Pgll25 : List Value := Pglv6 ++ (Pglv1 ++ (Pglv16 ++ (Pglv1 ++ (Pglv1 ++ (Pglv1 ++ (Pglv1 ++ (Pglv1 ++ (Pglv1 ++ (Pglv1 ++ (Pglv1 ++ (Pglv1 ++ Pglv2)))))))))))
def Pglh26 : List Obj := [Pglo5, Pglo8, Pglo9, Pglo10, Pglo11, Pglo12, oC 116 [vI 0, kf 9], Pglo13, Pglo8, Pglo14, Pglo15]
def Pglv17 : List Value := [kf 9, vX, vX, vX, vX, vX, vX, vX, vX, vX, vX, vX]
def Pglv18 : List Value := [kf 6, kf 24, vP 0 0, kf 9, kf 17, kf 9, vX, vX, vX, vX, vX, vX]
def Pgll29 : List Value := Pglv6 ++ (Pglv17 ++ (Pglv16 ++ (Pglv18 ++ (Pglv1 ++ (Pglv1 ++ (Pglv1 ++ (Pglv1 ++ (Pglv1 ++ (Pglv1 ++ (Pglv1 ++ (Pglv1 ++ Pglv2)))))))))))
def Pglh30 : List Obj := [Pglo5, Pglo8, Pglo9, Pglo10, Pglo11, Pglo12, oC 116 [vI 0, kf 9], Pglo13, Pglo8, Pglo14, Pglo15]
def Pglv19 : List Value := [kf 9, vP 11 0, vX, vX, vX, vX, vX, vX, vX, vX, vX, vX]
def Pgll32 : List Value := Pglv6 ++ (Pglv19 ++ (Pglv16 ++ (Pglv18 ++ (Pglv1 ++ (Pglv1 ++ (Pglv1 ++ (Pglv1 ++ (Pglv1 ++ (Pglv1 ++ (Pglv1 ++ (Pglv1 ++ Pglv2)))))))))))
def Pglh33 : List Obj := [Pglo5, Pglo8, Pglo9, Pglo10, Pglo11, Pglo12, oC 116 [vI 0, kf 9], Pglo13, Pglo8, Pglo14, Pglo15, oC 30 [vU 0, vU 0]]
def Pglv20 : List Value := [kf 9, vP 11 0, vI 0, vX, vX, vX, vX, vX, vX, vX, vX, vX]
def Pgll35 : List Value := Pglv6 ++ (Pglv20 ++ (Pglv16 ++ (Pglv18 ++ (Pglv1 ++ (Pglv1 ++ (Pglv1 ++ (Pglv1 ++ (Pglv1 ++ (Pglv1 ++ (Pglv1 ++ (Pglv1 ++ Pglv2)))))))))))
def Pglh36 : List Obj := [Pglo5, Pglo8, Pglo9, Pglo10, Pglo11, Pglo12, oC 116 [vI 0, kf 9], Pglo13, Pglo8, Pglo14, Pglo15, oC 30 [vU 0, vU 0]]
def Pglv21 : List Value := [kf 9, vP 11 0, vI 1, kf 3, vB true, vX, vX, vX, vX, vX, vX, vX]
def Pglv22 : List Value := [kf 6, kf 24, vP 0 0, kf 9, kf 17, kf 9, vI 0, vI 0, vP 0 0, kf 9, vB true, vI 0]
def Pglv23 : List Value := [vI 1, vI 0, kf 7, kf 8, vS 12 0 2 2, vI 0, vP 12 0, kf 7, vP 0 0, kf 9, vI 0, vI 0]
def Pglv24 : List Value := [kf 9, vU 18446744073709551615, kf 7, vP 11 0, vT [kf 3, vB true], vP 10 0, vP 10 0, vP 10 2, vG [kf 9, vI 1], vI 0, vT [kf 3, vB true], kf 3]
def Pglv25 : List Value := [vB true, vP 7 0, vP 10 0, kf 3, vI 0, vP 11 0, kf 7, vB true, vB false, vX, vX, vX]
def Pgll42 : List Value := Pglv6 ++ (Pglv21 ++ (Pglv16 ++ (Pglv22 ++ (Pglv23 ++ (Pglv24 ++ (Pglv25 ++ (Pglv1 ++ (Pglv1 ++ (Pglv1 ++ (Pglv1 ++ (Pglv1 ++ Pglv2)))))))))))
def Pglo26 : Obj := oC 80000004 [vU 1, vU 0, vU 0, vU 0, vU 0, vU 0, vU 0, vU 0, vU 0, vU 0, vU 0, vU 0, vU 0, vU 0, vU 0, vU 0, vU 0, vU 0, vU 0, vU 0, vU 0, vU 0, vU 0, vU 0, vU 0, vU 0, vU 0, vU 0, vU 0, vU 0, vU 0, vU 0, vU 0, vU 0, vU 0, vU 0, vU 0, vU 0, vU 0, vU 0, vU 0, vU 0, vU 0, vU 0, vU 0, vU 0, vU 0, vU 0, vU 0, vU 0, vU 0, vU 0, vU 0, vU 0, vU 0, vU 0, vU 0, vU 0, vU 0, vU 0, vU 0, vU 0, vU 0, vU 0, vU 0, vU 0, vU 0, vU 0, vU 0, vU 0, vU 0, vU 0, vU 0, vU 0, vU 0, vU 0, vU 0]
def Pglo27 : Obj := oC 109 [.complex .f32 1 0, vI 2, kf 3, vU 0, kf 7, vI 1]
def Pglo28 : Obj := oC 64 [.complex .f32 8 0, vI 2, kf 3, vU 0, kf 7, vI 1]
def Pglh46 : List Obj := [Pglo5, Pglo26, Pglo27, Pglo10, Pglo11, Pglo12, oC 116 [vI 0, kf 9], Pglo13, Pglo26, Pglo28, Pglo15, oC 30 [kf 7, vU 0], oC 22 [kf 7, kf 8]]
def Pglv29 : List Value := [kf 9, vP 11 0, vI 2, kf 4, vB true, vX, vX, vX, vX, vX, vX, vX]
def Pglv30 : List Value := [kf 6, kf 24, vP 0 0, kf 9, kf 17, kf 9, vI 1, vI 64, vP 0 0, kf 9, vB true, vI 1]
def Pglv31 : List Value := [vI 2, vI 1, kf 7, kf 8, vS 12 0 2 2, vI 1, vP 12 1, kf 8, vP 0 0, kf 9, vI 1, vI 64]
def Pglv32 : List Value := [kf 15, kf 11, kf 25, vP 11 1, vT [kf 4, vB true], vP 10 0, vP 10 0, vP 10 2, vG [kf 9, vI 1], vI 1, vT [kf 4, vB true], kf 4]
def Pglv33 : List Value := [vB true, vP 7 0, vP 10 0, kf 4, vI 1, vP 11 1, kf 25, vB true, vB false, vX, vX, vX]
def Pgll52 : List Value := Pglv6 ++ (Pglv29 ++ (Pglv16 ++ (Pglv30 ++ (Pglv31 ++ (Pglv32 ++ (Pglv33 ++ (Pglv1 ++ (Pglv1 ++ (Pglv1 ++ (Pglv1 ++ (Pglv1 ++ Pglv2)))))))))))
def Pglo34 : Obj := oC 260080000004 [vU 1, vU 0, vU 0, vU 0, vU 0, vU 0, vU 0, vU 0, vU 0, vU 0, vU 0, vU 0, vU 0, vU 0, vU 0, vU 0, vU 0, vU 0, vU 0, vU 0, vU 0, vU 0, vU 0, vU 0, vU 0, vU 0, vU 0, vU 0, vU 0, vU 0, vU 0, vU 0, vU 0, vU 0, vU 0, vU 0, vU 0, vU 0, vU 0, vU 0, vU 0, vU 0, vU 0, vU 0, vU 0, vU 0, vU 0, vU 0, vU 0, vU 0, vU 0, vU 0, vU 0, vU 0, vU 0, vU 0, vU 0, vU 0, vU 0, vU 0, vU 0, vU 0, vU 0, vU 0, vU 0, vU 0, vU 0, vU 0, vU 0, vU 0, vU 0, vU 0, vU 0, vU 0, vU 0, vU 0, vU 0]
def Pglo35 : Obj := oC 109 [.complex .f32 1 0, vI 2, kf 4, vU 0, kf 25, vI 2]
def Pglo36 : Obj := oC 64 [.complex .f32 8 0, vI 2, kf 4, vU 0, kf 25, vI 2]
def Pglh56 : List Obj := [Pglo5, Pglo34, Pglo35, Pglo10, Pglo11, Pglo12, oC 116 [vI 0, kf 9], Pglo13, Pglo34, Pglo36, Pglo15, oC 30 [kf 7, kf 25], oC 22 [kf 7, kf 8]]
def Pglv37 : List Value := [kf 6, kf 24, vP 0 0, kf 9, kf 17, kf 9, vI 2, vI 128, vP 0 0, kf 9, vB false, vI 1]
def Pgll58 : List Value := Pglv6 ++ (Pglv29 ++ (Pglv16 ++ (Pglv37 ++ (Pglv31 ++ (Pglv32 ++ (Pglv33 ++ (Pglv1 ++ (Pglv1 ++ (Pglv1 ++ (Pglv1 ++ (Pglv1 ++ Pglv2)))))))))))
def Pglh59 : List Obj := [Pglo5, Pglo34, Pglo35, Pglo10, Pglo11, Pglo12, oC 116 [vI 0, kf 9], Pglo13, Pglo34, Pglo36, Pglo15, oC 30 [kf 7, kf 25], oC 22 [kf 7, kf 8]]
def Pglv38 : List Value := [kf 9, vP 11 0, vI 2, kf 4, vB true, vP 15 0, vX, vX, vX, vX, vX, vX]
def Pglv39 : List Value := [vB true, vP 7 0, vP 10 0, kf 4, vI 1, vP 11 1, kf 25, vB true, vB false, vP 10 0, vP 10 0, vP 10 2]
def Pglv40 : List Value := [vG [kf 9, vI 1], kf 9, vP 15 0, vX, vX, vX, vX, vX, vX, vX, vX, vX]
def Pgll63 : List Value := Pglv6 ++ (Pglv38 ++ (Pglv16 ++ (Pglv37 ++ (Pglv31 ++ (Pglv32 ++ (Pglv39 ++ (Pglv40 ++ (Pglv1 ++ (Pglv1 ++ (Pglv1 ++ (Pglv1 ++ Pglv2)))))))))))
def Pglo41 : Obj := oC 75 [kf 9, vI 1, vF 51 [] [vP 22 0, vP 23 0], kf 9, vZ, vZ, vZ, vI 0, vI 2]
def Pglo42 : Obj := oC 100 [kf 9, vI 1, vF 75 [] [vP 18 0, vP 19 0, vP 20 0, vP 21 0]]
def Pglo43 : Obj := oC 102 [vF 53 [] [vP 17 0]]
def Pglo44 : Obj := oC 98 [.iface 77 (vP 16 0)]
def Pglo45 : Obj := oC 1 [vF 32 [] [vP 14 0, vP 13 0]]
def Pglh69 : List Obj := [Pglo5, Pglo34, Pglo35, Pglo10, Pglo11, Pglo12, oC 116 [vI 0, kf 9], Pglo13, Pglo34, Pglo36, Pglo15, oC 30 [kf 7, kf 25], oC 22 [kf 7, kf 8], oC 3 [kf 9], oC 42 [vP 15 0], Pglo41, Pglo42, oC 77 [vP 16 0], oC 3 [vI 2], oC 22 [vU 0], oC 22 [vU 1], Pglo43, Pglo44, Pglo45]
def Pglv46 : List Value := [kf 9, vP 11 0, vI 2, kf 4, vB true, vP 15 0, vI 0, vX, vX, vX, vX, vX]
def Pgll71 : List Value := Pglv6 ++ (Pglv46 ++ (Pglv16 ++ (Pglv37 ++ (Pglv31 ++ (Pglv32 ++ (Pglv39 ++ (Pglv40 ++ (Pglv1 ++ (Pglv1 ++ (Pglv1 ++ (Pglv1 ++ Pglv2)))))))))))
def Pglh72 : List Obj := [Pglo5, Pglo34, Pglo35, Pglo10, Pglo11, Pglo12, oC 116 [vI 0, kf 9], Pglo13, Pglo34, Pglo36, Pglo15, oC 30 [kf 7, kf 25], oC 22 [kf 7, kf 8], oC 3 [kf 9], oC 42 [vP 15 0], Pglo41, Pglo42, oC 77 [vP 16 0], oC 3 [vI 2], oC 22 [vU 0], oC 22 [vU 1], Pglo43, Pglo44, Pglo45]
def Pglv47 : List Value := [kf 9, vP 11 0, vI 2, kf 4, vB true, vP 13 0, vI 1, vX, vX, vX, vX, vX]
def Pglv48 : List Value := [vG [kf 9, vI 1], kf 9, vP 13 0, vP 13 0, vB true, vB true, vI 0, vB true, vB true, vB true, vP 13 0, vB false]
def Pglv49 : List Value := [vB true, vB true, vI 0, vI 1, vP 13 0, vP 7 0, vG [vI 3, vI 2, vU 0, vU 1], vX, vX, vX, vX, vX]
def Pgll76 : List Value := Pglv6 ++ (Pglv47 ++ (Pglv16 ++ (Pglv37 ++ (Pglv31 ++ (Pglv32 ++ (Pglv39 ++ (Pglv48 ++ (Pglv49 ++ (Pglv1 ++ (Pglv1 ++ (Pglv1 ++ Pglv2)))))))))))
def Pglo50 : Obj := oC 260080000004 [vU 1, vU 0, vU 1, vU 0, vU 0, vU 0, vU 0, vU 0, vU 0, vU 0, vU 0, vU 0, vU 0, vU 0, vU 0, vU 0, vU 0, vU 0, vU 0, vU 0, vU 0, vU 0, vU 0, vU 0, vU 0, vU 0, vU 0, vU 0, vU 0, vU 0, vU 0, vU 0, vU 0, vU 0, vU 0, vU 0, vU 0, vU 0, vU 0, vU 0, vU 0, vU 0, vU 0, vU 0, vU 0, vU 0, vU 0, vU 0, vU 0, vU 0, vU 0, vU 0, vU 0, vU 0, vU 0, vU 0, vU 0, vU 0, vU 0, vU 0, vU 0, vU 0, vU 0, vU 0, vU 0, vU 0, vU 0, vU 0, vU 0, vU 0, vU 0, vU 0, vU 0, vU 0, vU 0, vU 0, vU 0]
def Pglo51 : Obj := oC 109 [.complex .f32 1 0, vI 3, vI 2, vU 0, vU 1, vI 3]
def Pglo52 : Obj := oC 75 [kf 9, vI 1, vF 55 [] [vP 15 0, vP 16 0, vP 14 0], kf 9, vZ, vZ, vZ, vI 0, vI 2]
def Pglo53 : Obj := oC 80 [vF 34 [vP 13 0] []]
def Pglo54 : Obj := oC 81 [vF 35 [vP 13 0] []]
def Pglh82 : List Obj := [Pglo5, Pglo50, Pglo51, Pglo10, Pglo11, Pglo12, oC 116 [vI 0, kf 9], Pglo13, Pglo34, Pglo36, Pglo15, oC 30 [kf 7, kf 25], oC 22 [kf 7, kf 8], Pglo52, oC 3 [kf 9], Pglo53, Pglo54]
def Pglv55 : List Value := [kf 5, kf 6, kf 7, kf 8, vX, vX, vX, vX, vB false, vP 0 0, vP 6 0, vP 9 0]
def Pglv56 : List Value := [kf 9, vP 10 0, vI 2, kf 4, vB true, vP 12 0, vI 2, vX, vX, vX, vX, vX]
def Pglv57 : List Value := [kf 5, kf 16, kf 17, kf 9, vG [kf 9, vI 1, vZ], vT [vP 6 0, vP 9 0], vG [kf 9, vI 1, vZ], vT [vP 6 0, vP 9 0], vP 6 0, vP 9 0, vP 6 0, vB false]
def Pglv58 : List Value := [vI 2, vI 1, kf 7, kf 8, vS 11 0 2 2, vI 1, vP 11 1, kf 8, vP 0 0, kf 9, vI 1, vI 64]
def Pglv59 : List Value := [kf 15, kf 11, kf 25, vP 10 1, vT [kf 4, vB true], vP 9 0, vP 9 0, vP 9 2, vG [kf 9, vI 1], vI 1, vT [kf 4, vB true], kf 4]
def Pglv60 : List Value := [vB true, vP 6 0, vP 9 0, kf 4, vI 1, vP 10 1, kf 25, vB true, vB false, vP 9 0, vP 9 0, vP 9 2]
def Pglv61 : List Value := [vG [kf 9, vI 1], kf 9, vP 12 0, vP 12 0, vB true, vB true, vI 1, vB true, vB true, vB true, vP 12 0, vB false]
def Pglv62 : List Value := [vB true, vB true, vI 1, vI 2, vP 12 0, vP 6 0, vG [vI 6, vI 0, kf 27, kf 28], vX, vX, vX, vX, vX]
def Pgll91 : List Value := Pglv55 ++ (Pglv56 ++ (Pglv57 ++ (Pglv37 ++ (Pglv58 ++ (Pglv59 ++ (Pglv60 ++ (Pglv61 ++ (Pglv62 ++ (Pglv1 ++ (Pglv1 ++ (Pglv1 ++ Pglv2)))))))))))
def Pglo63 : Obj := oC 119 [kf 9, vZ, vI 1, vP 3 0, vS 5 0 0 1, kf 26]
def Pglo64 : Obj := oC 64 [.complex .f32 7 0, vI 2, kf 4, vU 0, kf 25, vI 2]
def Pglo65 : Obj := oC 40 [vP 8 0, vA, kf 9, vI 1]
def Pglo66 : Obj := oC 75 [kf 9, vI 1, vF 108 [] [vP 18 0, vP 19 0, vP 20 0], kf 9, vZ, vZ, vS 13 0 2 2, vI 0, vI 2]
def Pglo67 : Obj := oC 142 [vI 0, kf 12, vI 1, kf 11]
def Pglo68 : Obj := oC 137 [vF 88 [] [vP 14 0, vP 17 0, vP 16 0, vP 15 0]]
def Pglh98 : List Obj := [Pglo5, Pglo50, Pglo51, oC 147 [vN, vI 0], Pglo63, oC 116 [vI 0, vI 0], Pglo13, Pglo34, Pglo64, Pglo65, oC 30 [kf 7, kf 25], oC 22 [kf 7, kf 8], Pglo66, Pglo67, oC 42 [vP 12 0], oC 3 [vI 0], oC 142 [vI 0, kf 12], oC 3 [kf 3], oC 3 [kf 1], oC 22 [kf 12], Pglo68]
def Pglv69 : List Value := [kf 9, vP 10 0, vI 2, kf 4, vB true, vP 12 0, vI 3, vX, vX, vX, vX, vX]
def Pglv70 : List Value := [vG [kf 9, vI 1], kf 9, vP 12 0, vP 12 0, vB true, vB true, vI 2, vB true, vB true, vB true, vP 12 0, vB false]
def Pglv71 : List Value := [vB true, vB true, vI 2, vI 3, vP 12 0, vP 6 0, vG [vI 5, kf 1, vU 0, kf 12], vX, vX, vX, vX, vX]
def Pgll102 : List Value := Pglv55 ++ (Pglv69 ++ (Pglv57 ++ (Pglv37 ++ (Pglv58 ++ (Pglv59 ++ (Pglv60 ++ (Pglv70 ++ (Pglv71 ++ (Pglv1 ++ (Pglv1 ++ (Pglv1 ++ Pglv2)))))))))))
def Pglo72 : Obj := oC 260080000134 [vU 1, vU 0, vU 1, vU 0, vU 0, vU 0, vU 0, vU 0, vU 0, vU 0, vU 0, vU 0, vU 0, vU 0, vU 0, vU 0, vU 0, vU 0, vU 0, vU 0, vU 0, vU 0, vU 0, vU 0, vU 0, vU 0, vU 0, vU 0, vU 0, vU 0, vU 0, vU 0, vU 0, vU 0, vU 0, vU 0, vU 0, vU 0, vU 0, vU 0, vU 0, vU 0, vU 0, vU 0, vU 0, vU 0, vU 0, vU 0, vU 0, vU 0, vU 0, vU 0, vU 0, vU 0, vU 0, vU 0, vU 0, vU 0, vU 0, vU 0, vU 0, vU 0, vU 0, vU 0, vU 0, vU 0, vU 0, vU 0, vU 0, vU 0, vU 0, vU 0, vU 0, vU 0, vU 0, vU 0, vU 0]
def Pglo73 : Obj := oC 109 [.complex .f32 1 0, vI 5, kf 1, vU 0, kf 12, vI 4]
def Pglo74 : Obj := oC 75 [kf 9, vI 1, vF 100 [] [vP 18 0, vP 19 0], kf 9, vZ, vZ, vS 13 0 2 2, vI 0, vI 2]
def Pglo75 : Obj := oC 137 [vF 89 [] [vP 16 0, vP 14 0, vP 15 0, vP 17 0]]
def Pglh107 : List Obj := [Pglo5, Pglo72, Pglo73, oC 147 [vN, vI 0], Pglo63, oC 116 [vI 0, vI 0], Pglo13, Pglo34, Pglo64, Pglo65, oC 30 [kf 7, kf 25], oC 22 [kf 7, kf 8], Pglo74, Pglo67, oC 42 [vP 12 0], oC 3 [vI 0], oC 142 [vI 0, kf 12], oC 3 [kf 3], oC 3 [kf 3], Pglo75]
def Pglv76 : List Value := [kf 9, vP 10 0, vI 2, kf 4, vB true, vP 12 0, vI 4, vX, vX, vX, vX, vX]
def Pglv77 : List Value := [vG [kf 9, vI 1], kf 9, vP 12 0, vP 12 0, vB true, vB true, vI 3, vB true, vB true, vB true, vP 12 0, vB false]
def Pglv78 : List Value := [vB true, vB true, vI 3, vI 4, vP 12 0, vP 6 0, vG [vI 1, kf 3, kf 7, kf 7], vX, vX, vX, vX, vX]
def Pgll111 : List Value := Pglv55 ++ (Pglv76 ++ (Pglv57 ++ (Pglv37 ++ (Pglv58 ++ (Pglv59 ++ (Pglv60 ++ (Pglv77 ++ (Pglv78 ++ (Pglv1 ++ (Pglv1 ++ (Pglv1 ++ Pglv2)))))))))))
def Pglo79 : Obj := oC 109 [.complex .f32 1 0, vI 1, kf 3, kf 7, kf 7, vI 5]
def Pglo80 : Obj := oC 75 [kf 9, vI 1, vF 108 [] [vP 16 0, vP 17 0, vP 18 0], kf 9, vZ, vZ, vS 13 0 2 2, vI 0, vI 2]
def Pglo81 : Obj := oC 137 [vF 90 [] [vP 14 0, vP 15 0]]
def Pglh115 : List Obj := [Pglo5, Pglo72, Pglo79, oC 147 [vN, vI 0], Pglo63, oC 116 [vI 0, vI 0], Pglo13, Pglo34, Pglo64, Pglo65, oC 30 [kf 7, kf 25], oC 22 [kf 7, kf 8], Pglo80, Pglo67, oC 42 [vP 12 0], oC 3 [vI 0], oC 3 [kf 3], oC 22 [kf 29], Pglo81]
def Pglv82 : List Value := [kf 9, vP 10 0, vI 2, kf 4, vB true, vP 12 0, vI 5, vX, vX, vX, vX, vX]
def Pglv83 : List Value := [vG [kf 9, vI 1], kf 9, vP 12 0, vP 12 0, vB true, vB true, vI 4, vB true, vB true, vB true, vP 12 0, vB false]
def Pglv84 : List Value := [vB true, vB true, vI 4, vI 5, vP 12 0, vP 6 0, vG [vI 5, kf 3, kf 7, kf 30], vX, vX, vX, vX, vX]
def Pgll119 : List Value := Pglv55 ++ (Pglv82 ++ (Pglv57 ++ (Pglv37 ++ (Pglv58 ++ (Pglv59 ++ (Pglv60 ++ (Pglv83 ++ (Pglv84 ++ (Pglv1 ++ (Pglv1 ++ (Pglv1 ++ Pglv2)))))))))))
def Pglo85 : Obj := oC 260310000134 [vU 1, vU 0, vU 1, vU 0, vU 0, vU 0, vU 0, vU 0, vU 0, vU 0, vU 0, vU 0, vU 0, vU 0, vU 0, vU 0, vU 0, vU 0, vU 0, vU 0, vU 0, vU 0, vU 0, vU 0, vU 0, vU 0, vU 0, vU 0, vU 0, vU 0, vU 0, vU 0, vU 0, vU 0, vU 0, vU 0, vU 0, vU 0, vU 0, vU 0, vU 0, vU 0, vU 0, vU 0, vU 0, vU 0, vU 0, vU 0, vU 0, vU 0, vU 0, vU 0, vU 0, vU 0, vU 0, vU 0, vU 0, vU 0, vU 0, vU 0, vU 0, vU 0, vU 0, vU 0, vU 0, vU 0, vU 0, vU 0, vU 0, vU 0, vU 0, vU 0, vU 0, vU 0, vU 0, vU 0, vU 0]
def Pglo86 : Obj := oC 109 [.complex .f32 1 0, vI 5, kf 3, kf 7, kf 30, vI 6]
def Pglh122 : List Obj := [Pglo5, Pglo85, Pglo86, oC 147 [vN, vI 0], Pglo63, oC 116 [vI 0, vI 0], Pglo13, Pglo34, Pglo64, Pglo65, oC 30 [kf 7, kf 25], oC 22 [kf 7, kf 8], Pglo66, Pglo67, oC 42 [vP 12 0], oC 3 [vI 1], oC 142 [vI 1, kf 11], oC 3 [kf 4], oC 3 [kf 2], oC 22 [kf 11], Pglo68]
def Pglv87 : List Value := [kf 9, vP 10 0, vI 2, kf 4, vB true, vP 12 0, vI 6, vX, vX, vX, vX, vX]
def Pglv88 : List Value := [vG [kf 9, vI 1], kf 9, vP 12 0, vP 12 0, vB true, vB true, vI 5, vB true, vB true, vB true, vP 12 0, vB false]
def Pglv89 : List Value := [vB true, vB true, vI 5, vI 6, vP 12 0, vP 6 0, vG [vI 5, kf 2, vU 0, kf 11], vX, vX, vX, vX, vX]
def Pgll126 : List Value := Pglv55 ++ (Pglv87 ++ (Pglv57 ++ (Pglv37 ++ (Pglv58 ++ (Pglv59 ++ (Pglv60 ++ (Pglv88 ++ (Pglv89 ++ (Pglv1 ++ (Pglv1 ++ (Pglv1 ++ Pglv2)))))))))))
def Pglo90 : Obj := oC 260310120134 [vU 1, vU 0, vU 1, vU 0, vU 0, vU 0, vU 0, vU 0, vU 0, vU 0, vU 0, vU 0, vU 0, vU 0, vU 0, vU 0, vU 0, vU 0, vU 0, vU 0, vU 0, vU 0, vU 0, vU 0, vU 0, vU 0, vU 0, vU 0, vU 0, vU 0, vU 0, vU 0, vU 0, vU 0, vU 0, vU 0, vU 0, vU 0, vU 0, vU 0, vU 0, vU 0, vU 0, vU 0, vU 0, vU 0, vU 0, vU 0, vU 0, vU 0, vU 0, vU 0, vU 0, vU 0, vU 0, vU 0, vU 0, vU 0, vU 0, vU 0, vU 0, vU 0, vU 0, vU 0, vU 0, vU 0, vU 0, vU 0, vU 0, vU 0, vU 0, vU 0, vU 0, vU 0, vU 0, vU 0, vU 0]
def Pglo91 : Obj := oC 109 [.complex .f32 1 0, vI 5, kf 2, vU 0, kf 11, vI 7]
def Pglh129 : List Obj := [Pglo5, Pglo90, Pglo91, oC 147 [vN, vI 0], Pglo63, oC 116 [vI 0, vI 0], Pglo13, Pglo34, Pglo64, Pglo65, oC 30 [kf 7, kf 25], oC 22 [kf 7, kf 8], Pglo74, Pglo67, oC 42 [vP 12 0], oC 3 [vI 1], oC 142 [vI 1, kf 11], oC 3 [kf 4], oC 3 [kf 4], Pglo75]
def Pglv92 : List Value := [kf 9, vP 10 0, vI 2, kf 4, vB true, vP 12 0, vI 7, vX, vX, vX, vX, vX]
def Pglv93 : List Value := [vG [kf 9, vI 1], kf 9, vP 12 0, vP 12 0, vB true, vB true, vI 6, vB true, vB true, vB true, vP 12 0, vB false]
def Pglv94 : List Value := [vB true, vB true, vI 6, vI 7, vP 12 0, vP 6 0, vG [vI 1, kf 4, kf 25, kf 25], vX, vX, vX, vX, vX]
def Pgll133 : List Value := Pglv55 ++ (Pglv92 ++ (Pglv57 ++ (Pglv37 ++ (Pglv58 ++ (Pglv59 ++ (Pglv60 ++ (Pglv93 ++ (Pglv94 ++ (Pglv1 ++ (Pglv1 ++ (Pglv1 ++ Pglv2)))))))))))
def Pglo95 : Obj := oC 109 [.complex .f32 1 0, vI 1, kf 4, kf 25, kf 25, vI 8]
def Pglo96 : Obj := oC 75 [kf 9, vI 1, vF 51 [] [vP 20 0, vP 21 0], kf 9, vZ, vZ, vS 13 0 2 2, vI 0, vI 2]
def Pglo97 : Obj := oC 176 [kf 9, vI 1, vF 125 [] [vP 17 0, vP 18 0, vP 19 0]]
def Pglo98 : Obj := oC 1 [vF 54 [vP 16 0] []]
def Pglo99 : Obj := oC 98 [.iface 158 (vP 16 0)]
def Pglo100 : Obj := oC 1 [vF 104 [] [vP 15 0, vP 14 0]]
def Pglh140 : List Obj := [Pglo5, Pglo90, Pglo95, oC 147 [vN, vI 0], Pglo63, oC 116 [vI 0, vI 0], Pglo13, Pglo34, Pglo64, Pglo65, oC 30 [kf 7, kf 25], oC 22 [kf 7, kf 8], Pglo96, Pglo67, oC 42 [vP 12 0], oC 48 [vI 0], Pglo97, oC 3 [vI 2], oC 22 [vU 0], Pglo98, Pglo99, Pglo100]
def Pglv101 : List Value := [kf 9, vP 10 0, vI 2, kf 4, vB true, vP 12 0, vI 8, vX, vX, vX, vX, vX]
def Pglv102 : List Value := [vG [kf 9, vI 1], kf 9, vP 12 0, vP 12 0, vB true, vB true, vI 7, vB true, vB true, vB true, vP 12 0, vB false]
def Pglv103 : List Value := [vB true, vB true, vI 7, vI 8, vP 12 0, vP 6 0, vG [vI 2, vI 2, vU 1, vU 0], vX, vX, vX, vX, vX]
def Pgll144 : List Value := Pglv55 ++ (Pglv101 ++ (Pglv57 ++ (Pglv37 ++ (Pglv58 ++ (Pglv59 ++ (Pglv60 ++ (Pglv102 ++ (Pglv103 ++ (Pglv1 ++ (Pglv1 ++ (Pglv1 ++ Pglv2)))))))))))
def Pglo104 : Obj := oC 260310120134 [vU 1, vU 0, vU 0, vU 0, vU 0, vU 0, vU 0, vU 0, vU 0, vU 0, vU 0, vU 0, vU 0, vU 0, vU 0, vU 0, vU 0, vU 0, vU 0, vU 0, vU 0, vU 0, vU 0, vU 0, vU 0, vU 0, vU 0, vU 0, vU 0, vU 0, vU 0, vU 0, vU 0, vU 0, vU 0, vU 0, vU 0, vU 0, vU 0, vU 0, vU 0, vU 0, vU 0, vU 0, vU 0, vU 0, vU 0, vU 0, vU 0, vU 0, vU 0, vU 0, vU 0, vU 0, vU 0, vU 0, vU 0, vU 0, vU 0, vU 0, vU 0, vU 0, vU 0, vU 0, vU 0, vU 0, vU 0, vU 0, vU 0, vU 0, vU 0, vU 0, vU 0, vU 0, vU 0, vU 0, vU 0]
def Pglo105 : Obj := oC 109 [.complex .f32 1 0, vI 2, vI 2, vU 1, vU 0, vI 9]
def Pglo106 : Obj := oC 75 [kf 9, vI 1, .nilFunc, kf 9, vZ, vZ, vS 13 0 2 2, vI 0, vI 0]
def Pglh148 : List Obj := [Pglo5, Pglo104, Pglo105, oC 147 [vN, vI 0], Pglo63, oC 116 [vI 0, vI 0], Pglo13, Pglo34, Pglo64, Pglo65, oC 30 [kf 7, kf 25], oC 22 [kf 7, kf 8], Pglo106, Pglo67]
def Pglv107 : List Value := [vG [kf 9, vI 1], kf 9, vP 12 0, vP 12 0, vB true, vB true, vI 8, vB true, vB true, vB true, vP 12 0, vB true]
def Pglv108 : List Value := [vB false, vB false, vI 7, vI 8, vP 12 0, vP 6 0, vG [vI 2, vI 2, vU 1, vU 0], vX, vX, vX, vX, vX]
def Pgll151 : List Value := Pglv55 ++ (Pglv101 ++ (Pglv57 ++ (Pglv37 ++ (Pglv58 ++ (Pglv59 ++ (Pglv60 ++ (Pglv107 ++ (Pglv108 ++ (Pglv1 ++ (Pglv1 ++ (Pglv1 ++ Pglv2)))))))))))
def Pglh152 : List Obj := [Pglo5, Pglo104, Pglo105, oC 147 [vN, vI 0], Pglo63, oC 116 [vI 0, vI 0], Pglo13, Pglo34, Pglo64, Pglo65, oC 30 [kf 7, kf 25], oC 22 [kf 7, kf 8], Pglo106, Pglo67]
def Pglv109 : List Value := [kf 9, vP 10 0, vI 2, kf 4, vB true, vP 12 0, vI 8, vI 0, vI 0, vX, vX, vX]
def Pglv110 : List Value := [vB false, vB false, vI 7, vI 8, vP 12 0, vP 6 0, vG [vI 2, vI 2, vU 1, vU 0], vT [vI 0, vI 0], vP 12 0, vT [vI 0, vI 0], vI 0, vI 0]
def Pgll155 : List Value := Pglv55 ++ (Pglv109 ++ (Pglv57 ++ (Pglv37 ++ (Pglv58 ++ (Pglv59 ++ (Pglv60 ++ (Pglv107 ++ (Pglv110 ++ (Pglv1 ++ (Pglv1 ++ (Pglv1 ++ Pglv2)))))))))))
def Pglh156 : List Obj := [Pglo5, Pglo104, Pglo105, oC 147 [vN, vI 0], Pglo63, oC 116 [vI 0, vI 0], Pglo13, Pglo34, Pglo64, Pglo65, oC 30 [kf 7, kf 25], oC 22 [kf 7, kf 8], Pglo106, Pglo67]
def Pglv111 : List Value := [vI 0, vB false, vB false, vI 0, vB false, vB false, vX, vX, vX, vX, vX, vX]
def Pgll158 : List Value := Pglv55 ++ (Pglv109 ++ (Pglv57 ++ (Pglv37 ++ (Pglv58 ++ (Pglv59 ++ (Pglv60 ++ (Pglv107 ++ (Pglv110 ++ (Pglv111 ++ (Pglv1 ++ (Pglv1 ++ Pglv2)))))))))))
def Pglh159 : List Obj := [Pglo5, Pglo104, Pglo105, oC 147 [vN, vI 0], Pglo63, oC 116 [vI 0, vI 0], Pglo13, Pglo34, Pglo64, Pglo65, oC 30 [kf 7, kf 25], oC 22 [kf 7, kf 8], Pglo106, Pglo67]
def Pgll160 : List Value := Pglv55 ++ (Pglv109 ++ (Pglv57 ++ (Pglv37 ++ (Pglv58 ++ (Pglv59 ++ (Pglv60 ++ (Pglv107 ++ (Pglv110 ++ (Pglv111 ++ (Pglv1 ++ (Pglv1 ++ Pglv2)))))))))))
def Pglh161 : List Obj := [Pglo5, Pglo104, Pglo105, oC 147 [vN, vI 0], Pglo63, oC 116 [vI 0, vI 0], Pglo13, Pglo34, Pglo64, Pglo65, oC 30 [kf 7, kf 25], oC 22 [kf 7, kf 8], Pglo106, Pglo67]
theorem Pglp0 : PgS PglO (seqL (pgC 0)) Pg0 [] .normal Pgll3 Pglh4 := pgS_ev [] (by decide +kernel)
theorem Pglp1 : PgS PglO (seqL (pgC 1)) Pgll3 Pglh4 .normal Pgll7 Pglh9 := pgS_ev [0] (by decide +kernel)
theorem Pglp2 : PgS PglO (seqL (pgC 2)) Pgll7 Pglh9 .normal Pgll12 Pglh21 := pgS_ev [0, 13, 14, 15, 16, 20, 22, 23, 30, 31, 32] (by decide +kernel)
theorem Pglp3 : PgS PglO (seqL (seqL (pgC 3))) Pgll12 Pglh21 .normal Pgll23 Pglh24 := pgS_ev [0, 1, 2, 3, 4, 5, 6, 7, 8, 9, 10] (by decide +kernel)
theorem Pglp4 : PgS PglO (seqR (seqL (pgC 3))) Pgll23 Pglh24 .normal Pgll25 Pglh26 := pgS_ev [0, 1, 2, 3, 4, 5, 6, 7, 8, 9, 10] (by decide +kernel)
theorem Pglp5 : PgS PglO (seqL (pgC 4)) Pgll25 Pglh26 .normal Pgll29 Pglh30 := pgS_ev [0, 1, 2, 3, 4, 5, 6, 7, 8, 9, 10] (by decide +kernel)
theorem Pglp6 : PgS PglO (seqL (pgC 5)) Pgll29 Pglh30 .normal Pgll32 Pglh33 := pgS_ev [0, 1, 2, 3, 4, 5, 6, 7, 8, 9, 10, 11] (by decide +kernel)
theorem Pglp7 : PgS PglO (seqL (seqL (pgC 6))) Pgll32 Pglh33 .normal Pgll35 Pglh36 := pgS_ev [0, 1, 2, 3, 4, 5, 6, 7, 8, 9, 10, 11] (by decide +kernel)
theorem Pglp8 : PgS PglO (inL (inB (seqR (seqL (pgC 6))))) Pgll35 Pglh36 .normal Pgll42 Pglh46 := pgS_ev [0, 1, 2, 3, 4, 5, 6, 7, 8, 9, 10, 11, 12] (by decide +kernel)
theorem Pglp9 : PgS PglO (inL (inB (seqR (seqL (pgC 6))))) Pgll42 Pglh46 .normal Pgll52 Pglh56 := pgS_ev [0, 1, 2, 3, 4, 5, 6, 7, 8, 9, 10, 11, 13] (by decide +kernel)
theorem Pglp10 : PgS PglO (inL (inB (seqR (seqL (pgC 6))))) Pgll52 Pglh56 (.exit 0) Pgll58 Pglh59 := pgS_ev [0, 1, 2, 3, 4, 5, 6, 7, 8, 9, 10, 11, 12] (by decide +kernel)
theorem Pglp11 : PgS PglO (seqL (pgC 7)) Pgll58 Pglh59 .normal Pgll63 Pglh69 := pgS_ev [0, 1, 2, 3, 4, 5, 6, 7, 8, 9, 10, 11, 12, 14, 17, 18, 22, 23, 24, 25, 26, 27, 28, 29] (by decide +kernel)
theorem Pglp12 : PgS PglO (seqL (seqL (pgC 8))) Pgll63 Pglh69 .normal Pgll71 Pglh72 := pgS_ev [0, 1, 2, 3, 4, 5, 6, 7, 8, 9, 10, 11, 12, 13, 14, 15, 16, 17, 18, 19, 20, 21, 22, 23] (by decide +kernel)
theorem Pglp13 : PgS PglO (inL (inB (seqR (seqL (pgC 8))))) Pgll71 Pglh72 .normal Pgll76 Pglh82 := pgS_ev [0, 1, 2, 3, 4, 5, 6, 7, 8, 9, 10, 11, 12, 15, 34, 35, 36] (by decide +kernel)
theorem Pglp14 : PgS PglO (inL (inB (seqR (seqL (pgC 8))))) Pgll76 Pglh82 .normal Pgll91 Pglh98 := pgS_ev [0, 1, 2, 3, 4, 6, 7, 8, 9, 10, 11, 12, 13, 30, 31, 32, 33, 34, 51, 52, 53] (by decide +kernel)
theorem Pglp15 : PgS PglO (inL (inB (seqR (seqL (pgC 8))))) Pgll91 Pglh98 .normal Pgll102 Pglh107 := pgS_ev [0, 1, 2, 3, 4, 5, 6, 7, 8, 9, 10, 11, 12, 13, 14, 15, 16, 17, 25, 26] (by decide +kernel)
theorem Pglp16 : PgS PglO (inL (inB (seqR (seqL (pgC 8))))) Pgll102 Pglh107 .normal Pgll111 Pglh115 := pgS_ev [0, 1, 2, 3, 4, 5, 6, 7, 8, 9, 10, 11, 12, 13, 14, 15, 24, 25, 26] (by decide +kernel)
theorem Pglp17 : PgS PglO (inL (inB (seqR (seqL (pgC 8))))) Pgll111 Pglh115 .normal Pgll119 Pglh122 := pgS_ev [0, 1, 2, 3, 4, 5, 6, 7, 8, 9, 10, 11, 12, 13, 23, 24, 25, 26, 43, 44, 45] (by decide +kernel)
theorem Pglp18 : PgS PglO (inL (inB (seqR (seqL (pgC 8))))) Pgll119 Pglh122 .normal Pgll126 Pglh129 := pgS_ev [0, 1, 2, 3, 4, 5, 6, 7, 8, 9, 10, 11, 12, 13, 14, 15, 16, 17, 25, 26] (by decide +kernel)
theorem Pglp19 : PgS PglO (inL (inB (seqR (seqL (pgC 8))))) Pgll126 Pglh129 .normal Pgll133 Pglh140 := pgS_ev [0, 1, 2, 3, 4, 5, 6, 7, 8, 9, 10, 11, 12, 13, 26, 27, 30, 31, 32, 33, 34, 35] (by decide +kernel)
theorem Pglp20 : PgS PglO (inL (inB (seqR (seqL (pgC 8))))) Pgll133 Pglh140 .normal Pgll144 Pglh148 := pgS_ev [0, 1, 2, 3, 4, 5, 6, 7, 8, 9, 10, 11, 12, 13] (by decide +kernel)
theorem Pglp21 : PgS PglO (inL (inB (seqR (seqL (pgC 8))))) Pgll144 Pglh148 (.exit 2) Pgll151 Pglh152 := pgS_ev [0, 1, 2, 3, 4, 5, 6, 7, 8, 9, 10, 11, 12, 13] (by decide +kernel)
theorem Pglp22 : PgS PglO (seqL (pgC 9)) Pgll151 Pglh152 .normal Pgll155 Pglh156 := pgS_ev [0, 1, 2, 3, 4, 5, 6, 7, 8, 9, 10, 11, 12, 13] (by decide +kernel)
theorem Pglp23 : PgS PglO (seqL (seqL (pgC 10))) Pgll155 Pglh156 .normal Pgll158 Pglh159 := pgS_ev [0, 1, 2, 3, 4, 5, 6, 7, 8, 9, 10, 11, 12, 13] (by decide +kernel)
theorem Pglp24 : PgS PglO (seqR (seqL (pgC 10))) Pgll158 Pglh159 .normal Pgll160 Pglh161 := pgS_ev [0, 1, 2, 3, 4, 5, 6, 7, 8, 9, 10, 11, 12, 13] (by decide +kernel)
theorem Pglw : shrOk (fun j => decide (j < 11)) [(kf 9, kf 10), (kf 7, kf 11), (kf 25, kf 12), (kf 12, kf 15), (kf 11, kf 16), (kf 30, kf 13), (kf 25, kf 14)] 0 [0, 1, 2, 6, 9, 10] Pgll160 Pglh161 Pg2A Pg2H = true := by decide +kernel
end Go.Proofs.YtfppinabdalblaaGreat
