/- PagerGone: runs, with numbers that are not looked into, in pieces (printed by gen_pg.py). -/
import Derived.Test.YtfppinabdalblaaGreatPgL2
import Derived.Test.YtfppinabdalblaaGreatPgP
namespace Go.Proofs.YtfppinabdalblaaGreat
open Go.RowKit Go.IntWalk
set_option linter.unusedVariables false
set_option linter.unusedSimpArgs false
set_option maxRecDepth 100000
def Pgge : List Ent := [⟨.conv 5 3, [kf 5], kf 16⟩,
  ⟨.bin .rem 3, [kf 16, vI 128], kf 17⟩,
  ⟨.bin .add 3, [vI 1, kf 17], kf 9⟩,
  ⟨.bin .geq 3, [kf 9, vI 1], .bool true⟩,
  ⟨.bin .leq 3, [kf 9, vI 4096], .bool true⟩,
  ⟨.bin .mul 3, [vI 5, kf 9], kf 18⟩,
  ⟨.bin .add 3, [vI 82, kf 18], kf 19⟩,
  ⟨.bin .add 3, [kf 19, kf 9], kf 1⟩,
  ⟨.bin .add 3, [kf 9, vI 64], kf 20⟩,
  ⟨.bin .sub 3, [kf 20, vI 1], kf 21⟩,
  ⟨.bin .quo 3, [kf 21, vI 64], vI 2⟩,
  ⟨.bin .add 3, [kf 1, vI 2], kf 3⟩,
  ⟨.bin .add 3, [kf 3, vI 2], kf 0⟩,
  ⟨.bin .lss 3, [kf 0, vI 1], .bool false⟩,
  ⟨.bin .gtr 3, [kf 0, vI 65536], .bool false⟩,
  ⟨.bin .geq 3, [vI 0, kf 0], .bool false⟩,
  ⟨.bin .lss 3, [kf 9, vI 1], .bool false⟩,
  ⟨.bin .gtr 3, [kf 9, vI 4096], .bool false⟩,
  ⟨.bin .mul 3, [vI 8192, kf 9], kf 22⟩,
  ⟨.bin .add 3, [kf 22, vI 0], kf 22⟩,
  ⟨.bin .add 3, [vI 0, kf 9], kf 9⟩,
  ⟨.bin .mul 3, [vI 6, kf 9], kf 23⟩,
  ⟨.bin .add 3, [vI 82, kf 23], kf 1⟩,
  ⟨.bin .add 3, [kf 9, vI 63], kf 21⟩,
  ⟨.bin .add 3, [kf 1, vI 4], kf 0⟩,
  ⟨.conv 5 3, [kf 6], kf 24⟩,
  ⟨.bin .rem 3, [kf 24, kf 9], kf 25⟩,
  ⟨.bin .add 3, [vI 1, kf 25], kf 10⟩,
  ⟨.bin .lss 3, [vI 0, kf 9], .bool true⟩,
  ⟨.bin .sub 3, [kf 9, vI 0], kf 9⟩,
  ⟨.bin .and 22, [kf 7, .int .u64 18446744073709551615], kf 7⟩,
  ⟨.bin .add 3, [kf 1, vI 0], kf 1⟩,
  ⟨.bin .lss 3, [kf 3, vI 0], .bool false⟩,
  ⟨.bin .geq 3, [kf 3, kf 0], .bool false⟩,
  ⟨.bin .geq 3, [kf 3, vI 0], .bool true⟩,
  ⟨.bin .lss 3, [kf 3, kf 0], .bool true⟩,
  ⟨.bin .lss 3, [vI 64, kf 9], .bool true⟩,
  ⟨.bin .sub 3, [kf 9, vI 64], kf 15⟩,
  ⟨.bin .and 22, [kf 8, kf 11], kf 26⟩,
  ⟨.bin .add 3, [kf 1, vI 1], kf 2⟩,
  ⟨.bin .add 3, [kf 2, vI 2], kf 4⟩,
  ⟨.bin .lss 3, [kf 4, vI 0], .bool false⟩,
  ⟨.bin .geq 3, [kf 4, kf 0], .bool false⟩,
  ⟨.bin .geq 3, [kf 4, vI 0], .bool true⟩,
  ⟨.bin .lss 3, [kf 4, kf 0], .bool true⟩,
  ⟨.bin .lss 3, [vI 128, kf 9], .bool false⟩,
  ⟨.bin .lss 3, [kf 10, vI 1], .bool false⟩,
  ⟨.bin .gtr 3, [kf 10, vI 4096], .bool false⟩,
  ⟨.bin .neq 38, [vG [kf 9, vI 1], vG [kf 9, vI 1]], .bool false⟩,
  ⟨.bin .geq 3, [vI 2, kf 0], .bool false⟩,
  ⟨.bin .gtr 3, [kf 10, kf 9], .bool false⟩,
  ⟨.bin .mul 3, [vI 8192, kf 10], kf 27⟩,
  ⟨.bin .lss 3, [kf 22, kf 27], .bool false⟩,
  ⟨.bin .neq 3, [kf 22, kf 22], .bool false⟩,
  ⟨.bin .neq 3, [kf 9, kf 9], .bool false⟩,
  ⟨.bin .lss 3, [kf 9, kf 9], .bool false⟩,
  ⟨.bin .gtr 3, [kf 9, kf 9], .bool false⟩,
  ⟨.bin .sub 3, [kf 9, kf 9], kf 28⟩,
  ⟨.bin .gtr 3, [kf 9, kf 10], .bool true⟩,
  ⟨.bin .add 3, [vI 0, kf 10], kf 10⟩,
  ⟨.bin .sub 3, [kf 9, kf 10], kf 29⟩,
  ⟨.bin .mul 3, [vI 8192, kf 29], kf 30⟩,
  ⟨.bin .add 3, [kf 30, kf 10], kf 31⟩,
  ⟨.bin .add 3, [kf 28, kf 29], kf 29⟩,
  ⟨.bin .add 3, [kf 3, vI 0], kf 3⟩,
  ⟨.conv 3 22, [kf 10], kf 32⟩,
  ⟨.conv 3 22, [kf 29], kf 33⟩,
  ⟨.bin .lss 3, [kf 1, vI 0], .bool false⟩,
  ⟨.bin .geq 3, [kf 1, kf 0], .bool false⟩,
  ⟨.bin .add 22, [.int .u64 0, kf 12], kf 12⟩,
  ⟨.bin .and 22, [kf 7, kf 12], kf 7⟩,
  ⟨.bin .eql 22, [kf 7, .int .u64 0], .bool false⟩,
  ⟨.un .neg, [kf 7], kf 34⟩,
  ⟨.bin .add 22, [kf 7, kf 34], kf 35⟩,
  ⟨.bin .add 3, [kf 3, vI 1], kf 4⟩,
  ⟨.bin .lss 3, [kf 2, vI 0], .bool false⟩,
  ⟨.bin .geq 3, [kf 2, kf 0], .bool false⟩,
  ⟨.bin .add 22, [.int .u64 0, kf 13], kf 13⟩,
  ⟨.bin .and 22, [kf 26, kf 13], kf 36⟩,
  ⟨.bin .eql 22, [kf 36, .int .u64 0], .bool false⟩,
  ⟨.un .neg, [kf 36], kf 37⟩,
  ⟨.bin .add 22, [kf 26, kf 37], kf 38⟩]
def Pggf : List FnEnt := [⟨14, [], .bool true⟩,
  ⟨44, [kf 9, vZ], vA⟩,
  ⟨5, [kf 9], .int .u64 18446744073709551615⟩,
  ⟨5, [kf 15], kf 11⟩]
def PggO : Orc := orcS Pgge Pggf 4 rdG (pgMk 10 13 12)
def Pggv0 : List Value := [kf 5, kf 6, kf 7, kf 8, vX, vX, vX, vX, vB false, vX, vX, vX]
def Pggv1 : List Value := [vX, vX, vX, vX, vX, vX, vX, vX, vX, vX, vX, vX]
def Pggv2 : List Value := [vX, vX, vX, vX, vX, vX]
def Pggl3 : List Value := Pggv0 ++ (Pggv1 ++ (Pggv1 ++ (Pggv1 ++ (Pggv1 ++ (Pggv1 ++ (Pggv1 ++ (Pggv1 ++ (Pggv1 ++ (Pggv1 ++ (Pggv1 ++ (Pggv1 ++ Pggv2)))))))))))
def Pggh4 : List Obj := []
def Pggv3 : List Value := [kf 5, kf 6, kf 7, kf 8, vX, vX, vX, vX, vB false, vP 0 0, vX, vX]
def Pggv4 : List Value := [kf 5, kf 16, kf 17, kf 9, vG [kf 9, vI 1, vZ], vX, vX, vX, vX, vX, vX, vX]
def Pggl7 : List Value := Pggv3 ++ (Pggv1 ++ (Pggv4 ++ (Pggv1 ++ (Pggv1 ++ (Pggv1 ++ (Pggv1 ++ (Pggv1 ++ (Pggv1 ++ (Pggv1 ++ (Pggv1 ++ (Pggv1 ++ Pggv2)))))))))))
def Pggo5 : Obj := oC 25 [kf 9, vI 1, vZ]
def Pggh9 : List Obj := [Pggo5]
def Pggv6 : List Value := [kf 5, kf 6, kf 7, kf 8, vX, vX, vX, vX, vB false, vP 0 0, vP 7 0, vP 10 0]
def Pggv7 : List Value := [kf 5, kf 16, kf 17, kf 9, vG [kf 9, vI 1, vZ], vT [vP 7 0, vP 10 0], vG [kf 9, vI 1, vZ], vT [vP 7 0, vP 10 0], vP 7 0, vP 10 0, vX, vX]
def Pggl12 : List Value := Pggv6 ++ (Pggv1 ++ (Pggv7 ++ (Pggv1 ++ (Pggv1 ++ (Pggv1 ++ (Pggv1 ++ (Pggv1 ++ (Pggv1 ++ (Pggv1 ++ (Pggv1 ++ (Pggv1 ++ Pggv2)))))))))))
def Pggo8 : Obj := oC 4 [vU 1, vU 0, vU 0, vU 0, vU 0, vU 0, vU 0, vU 0, vU 0, vU 0, vU 0, vU 0, vU 0, vU 0, vU 0, vU 0, vU 0, vU 0, vU 0, vU 0, vU 0, vU 0, vU 0, vU 0, vU 0, vU 0, vU 0, vU 0, vU 0, vU 0, vU 0, vU 0, vU 0, vU 0, vU 0, vU 0, vU 0, vU 0, vU 0, vU 0, vU 0, vU 0, vU 0, vU 0, vU 0, vU 0, vU 0, vU 0, vU 0, vU 0, vU 0, vU 0, vU 0, vU 0, vU 0, vU 0, vU 0, vU 0, vU 0, vU 0, vU 0, vU 0, vU 0, vU 0, vU 0, vU 0, vU 0, vU 0, vU 0, vU 0, vU 0, vU 0, vU 0, vU 0, vU 0, vU 0, vU 0]
def Pggo9 : Obj := oC 109 [.complex .f32 1 0, vI 0, vI 0, vU 0, vU 0, vI 0]
def Pggo10 : Obj := oC 147 [vP 5 0, vI 1]
def Pggo11 : Obj := oC 119 [kf 9, vZ, vI 1, vP 3 0, vS 6 0 1 1, kf 9]
def Pggo12 : Obj := oC 167 [kf 22, .int .u32 0, vI 0, kf 9, vN, vN]
def Pggo13 : Obj := oC 86 [kf 9, vI 1, vP 2 0, vP 4 0]
def Pggo14 : Obj := oC 64 [.complex .f32 8 0, vI 0, vI 0, vU 0, vU 0, vI 0]
def Pggo15 : Obj := oC 40 [vP 9 0, vA, kf 9, vI 1]
def Pggh21 : List Obj := [Pggo5, Pggo8, Pggo9, Pggo10, Pggo11, Pggo12, oC 116 [vI 0, kf 9], Pggo13, Pggo8, Pggo14, Pggo15]
def Pggv16 : List Value := [kf 5, kf 16, kf 17, kf 9, vG [kf 9, vI 1, vZ], vT [vP 7 0, vP 10 0], vG [kf 9, vI 1, vZ], vT [vP 7 0, vP 10 0], vP 7 0, vP 10 0, vP 7 0, vB false]
def Pggl23 : List Value := Pggv6 ++ (Pggv1 ++ (Pggv16 ++ (Pggv1 ++ (Pggv1 ++ (Pggv1 ++ (Pggv1 ++ (Pggv1 ++ (Pggv1 ++ (Pggv1 ++ (Pggv1 ++ (Pggv1 ++ Pggv2)))))))))))
def Pggh24 : List Obj := [Pggo5, Pggo8, Pggo9, Pggo10, Pggo11, Pggo12, oC 116 [vI 0, kf 9], Pggo13, Pggo8, Pggo14, Pggo15]
def Pggl25 : List Value := Pggv6 ++ (Pggv1 ++ (Pggv16 ++ (Pggv1 ++ (Pggv1 ++ (Pggv1 ++ (Pggv1 ++ (Pggv1 ++ (Pggv1 ++ (Pggv1 ++ (Pggv1 ++ (Pggv1 ++ Pggv2)))))))))))
def Pggh26 : List Obj := [Pggo5, Pggo8, Pggo9, Pggo10, Pggo11, Pggo12, oC 116 [vI 0, kf 9], Pggo13, Pggo8, Pggo14, Pggo15]
def Pggv17 : List Value := [kf 10, vX, vX, vX, vX, vX, vX, vX, vX, vX, vX, vX]
def Pggv18 : List Value := [kf 6, kf 24, vP 0 0, kf 9, kf 25, kf 10, vX, vX, vX, vX, vX, vX]
def Pggl29 : List Value := Pggv6 ++ (Pggv17 ++ (Pggv16 ++ (Pggv18 ++ (Pggv1 ++ (Pggv1 ++ (Pggv1 ++ (Pggv1 ++ (Pggv1 ++ (Pggv1 ++ (Pggv1 ++ (Pggv1 ++ Pggv2)))))))))))
def Pggh30 : List Obj := [Pggo5, Pggo8, Pggo9, Pggo10, Pggo11, Pggo12, oC 116 [vI 0, kf 9], Pggo13, Pggo8, Pggo14, Pggo15]
def Pggv19 : List Value := [kf 10, vP 11 0, vX, vX, vX, vX, vX, vX, vX, vX, vX, vX]
def Pggl32 : List Value := Pggv6 ++ (Pggv19 ++ (Pggv16 ++ (Pggv18 ++ (Pggv1 ++ (Pggv1 ++ (Pggv1 ++ (Pggv1 ++ (Pggv1 ++ (Pggv1 ++ (Pggv1 ++ (Pggv1 ++ Pggv2)))))))))))
def Pggh33 : List Obj := [Pggo5, Pggo8, Pggo9, Pggo10, Pggo11, Pggo12, oC 116 [vI 0, kf 9], Pggo13, Pggo8, Pggo14, Pggo15, oC 30 [vU 0, vU 0]]
def Pggv20 : List Value := [kf 10, vP 11 0, vI 0, vX, vX, vX, vX, vX, vX, vX, vX, vX]
def Pggl35 : List Value := Pggv6 ++ (Pggv20 ++ (Pggv16 ++ (Pggv18 ++ (Pggv1 ++ (Pggv1 ++ (Pggv1 ++ (Pggv1 ++ (Pggv1 ++ (Pggv1 ++ (Pggv1 ++ (Pggv1 ++ Pggv2)))))))))))
def Pggh36 : List Obj := [Pggo5, Pggo8, Pggo9, Pggo10, Pggo11, Pggo12, oC 116 [vI 0, kf 9], Pggo13, Pggo8, Pggo14, Pggo15, oC 30 [vU 0, vU 0]]
def Pggv21 : List Value := [kf 10, vP 11 0, vI 1, kf 3, vB true, vX, vX, vX, vX, vX, vX, vX]
def Pggv22 : List Value := [kf 6, kf 24, vP 0 0, kf 9, kf 25, kf 10, vI 0, vI 0, vP 0 0, kf 9, vB true, vI 0]
def Pggv23 : List Value := [vI 1, vI 0, kf 7, kf 8, vS 12 0 2 2, vI 0, vP 12 0, kf 7, vP 0 0, kf 9, vI 0, vI 0]
def Pggv24 : List Value := [kf 9, vU 18446744073709551615, kf 7, vP 11 0, vT [kf 3, vB true], vP 10 0, vP 10 0, vP 10 2, vG [kf 9, vI 1], vI 0, vT [kf 3, vB true], kf 3]
def Pggv25 : List Value := [vB true, vP 7 0, vP 10 0, kf 3, vI 0, vP 11 0, kf 7, vB true, vB false, vX, vX, vX]
def Pggl42 : List Value := Pggv6 ++ (Pggv21 ++ (Pggv16 ++ (Pggv22 ++ (Pggv23 ++ (Pggv24 ++ (Pggv25 ++ (Pggv1 ++ (Pggv1 ++ (Pggv1 ++ (Pggv1 ++ (Pggv1 ++ Pggv2)))))))))))
def Pggo26 : Obj := oC 80000004 [vU 1, vU 0, vU 0, vU 0, vU 0, vU 0, vU 0, vU 0, vU 0, vU 0, vU 0, vU 0, vU 0, vU 0, vU 0, vU 0, vU 0, vU 0, vU 0, vU 0, vU 0, vU 0, vU 0, vU 0, vU 0, vU 0, vU 0, vU 0, vU 0, vU 0, vU 0, vU 0, vU 0, vU 0, vU 0, vU 0, vU 0, vU 0, vU 0, vU 0, vU 0, vU 0, vU 0, vU 0, vU 0, vU 0, vU 0, vU 0, vU 0, vU 0, vU 0, vU 0, vU 0, vU 0, vU 0, vU 0, vU 0, vU 0, vU 0, vU 0, vU 0, vU 0, vU 0, vU 0, vU 0, vU 0, vU 0, vU 0, vU 0, vU 0, vU 0, vU 0, vU 0, vU 0, vU 0, vU 0, vU 0]
def Pggo27 : Obj := oC 109 [.complex .f32 1 0, vI 2, kf 3, vU 0, kf 7, vI 1]
def Pggo28 : Obj := oC 64 [.complex .f32 8 0, vI 2, kf 3, vU 0, kf 7, vI 1]
def Pggh46 : List Obj := [Pggo5, Pggo26, Pggo27, Pggo10, Pggo11, Pggo12, oC 116 [vI 0, kf 9], Pggo13, Pggo26, Pggo28, Pggo15, oC 30 [kf 7, vU 0], oC 22 [kf 7, kf 8]]
def Pggv29 : List Value := [kf 10, vP 11 0, vI 2, kf 4, vB true, vX, vX, vX, vX, vX, vX, vX]
def Pggv30 : List Value := [kf 6, kf 24, vP 0 0, kf 9, kf 25, kf 10, vI 1, vI 64, vP 0 0, kf 9, vB true, vI 1]
def Pggv31 : List Value := [vI 2, vI 1, kf 7, kf 8, vS 12 0 2 2, vI 1, vP 12 1, kf 8, vP 0 0, kf 9, vI 1, vI 64]
def Pggv32 : List Value := [kf 15, kf 11, kf 26, vP 11 1, vT [kf 4, vB true], vP 10 0, vP 10 0, vP 10 2, vG [kf 9, vI 1], vI 1, vT [kf 4, vB true], kf 4]
def Pggv33 : List Value := [vB true, vP 7 0, vP 10 0, kf 4, vI 1, vP 11 1, kf 26, vB true, vB false, vX, vX, vX]
def Pggl52 : List Value := Pggv6 ++ (Pggv29 ++ (Pggv16 ++ (Pggv30 ++ (Pggv31 ++ (Pggv32 ++ (Pggv33 ++ (Pggv1 ++ (Pggv1 ++ (Pggv1 ++ (Pggv1 ++ (Pggv1 ++ Pggv2)))))))))))
def Pggo34 : Obj := oC 270080000004 [vU 1, vU 0, vU 0, vU 0, vU 0, vU 0, vU 0, vU 0, vU 0, vU 0, vU 0, vU 0, vU 0, vU 0, vU 0, vU 0, vU 0, vU 0, vU 0, vU 0, vU 0, vU 0, vU 0, vU 0, vU 0, vU 0, vU 0, vU 0, vU 0, vU 0, vU 0, vU 0, vU 0, vU 0, vU 0, vU 0, vU 0, vU 0, vU 0, vU 0, vU 0, vU 0, vU 0, vU 0, vU 0, vU 0, vU 0, vU 0, vU 0, vU 0, vU 0, vU 0, vU 0, vU 0, vU 0, vU 0, vU 0, vU 0, vU 0, vU 0, vU 0, vU 0, vU 0, vU 0, vU 0, vU 0, vU 0, vU 0, vU 0, vU 0, vU 0, vU 0, vU 0, vU 0, vU 0, vU 0, vU 0]
def Pggo35 : Obj := oC 109 [.complex .f32 1 0, vI 2, kf 4, vU 0, kf 26, vI 2]
def Pggo36 : Obj := oC 64 [.complex .f32 8 0, vI 2, kf 4, vU 0, kf 26, vI 2]
def Pggh56 : List Obj := [Pggo5, Pggo34, Pggo35, Pggo10, Pggo11, Pggo12, oC 116 [vI 0, kf 9], Pggo13, Pggo34, Pggo36, Pggo15, oC 30 [kf 7, kf 26], oC 22 [kf 7, kf 8]]
def Pggv37 : List Value := [kf 6, kf 24, vP 0 0, kf 9, kf 25, kf 10, vI 2, vI 128, vP 0 0, kf 9, vB false, vI 1]
def Pggl58 : List Value := Pggv6 ++ (Pggv29 ++ (Pggv16 ++ (Pggv37 ++ (Pggv31 ++ (Pggv32 ++ (Pggv33 ++ (Pggv1 ++ (Pggv1 ++ (Pggv1 ++ (Pggv1 ++ (Pggv1 ++ Pggv2)))))))))))
def Pggh59 : List Obj := [Pggo5, Pggo34, Pggo35, Pggo10, Pggo11, Pggo12, oC 116 [vI 0, kf 9], Pggo13, Pggo34, Pggo36, Pggo15, oC 30 [kf 7, kf 26], oC 22 [kf 7, kf 8]]
def Pggv38 : List Value := [kf 10, vP 11 0, vI 2, kf 4, vB true, vP 15 0, vX, vX, vX, vX, vX, vX]
def Pggv39 : List Value := [vB true, vP 7 0, vP 10 0, kf 4, vI 1, vP 11 1, kf 26, vB true, vB false, vP 10 0, vP 10 0, vP 10 2]
def Pggv40 : List Value := [vG [kf 9, vI 1], kf 10, vP 15 0, vX, vX, vX, vX, vX, vX, vX, vX, vX]
def Pggl63 : List Value := Pggv6 ++ (Pggv38 ++ (Pggv16 ++ (Pggv37 ++ (Pggv31 ++ (Pggv32 ++ (Pggv39 ++ (Pggv40 ++ (Pggv1 ++ (Pggv1 ++ (Pggv1 ++ (Pggv1 ++ Pggv2)))))))))))
def Pggo41 : Obj := oC 75 [kf 9, vI 1, vF 51 [] [vP 22 0, vP 23 0], kf 10, vZ, vZ, vZ, vI 0, vI 2]
def Pggo42 : Obj := oC 100 [kf 9, vI 1, vF 75 [] [vP 18 0, vP 19 0, vP 20 0, vP 21 0]]
def Pggo43 : Obj := oC 102 [vF 53 [] [vP 17 0]]
def Pggo44 : Obj := oC 98 [.iface 77 (vP 16 0)]
def Pggo45 : Obj := oC 1 [vF 32 [] [vP 14 0, vP 13 0]]
def Pggh69 : List Obj := [Pggo5, Pggo34, Pggo35, Pggo10, Pggo11, Pggo12, oC 116 [vI 0, kf 9], Pggo13, Pggo34, Pggo36, Pggo15, oC 30 [kf 7, kf 26], oC 22 [kf 7, kf 8], oC 3 [kf 10], oC 42 [vP 15 0], Pggo41, Pggo42, oC 77 [vP 16 0], oC 3 [vI 2], oC 22 [vU 0], oC 22 [vU 1], Pggo43, Pggo44, Pggo45]
def Pggv46 : List Value := [kf 10, vP 11 0, vI 2, kf 4, vB true, vP 15 0, vI 0, vX, vX, vX, vX, vX]
def Pggl71 : List Value := Pggv6 ++ (Pggv46 ++ (Pggv16 ++ (Pggv37 ++ (Pggv31 ++ (Pggv32 ++ (Pggv39 ++ (Pggv40 ++ (Pggv1 ++ (Pggv1 ++ (Pggv1 ++ (Pggv1 ++ Pggv2)))))))))))
def Pggh72 : List Obj := [Pggo5, Pggo34, Pggo35, Pggo10, Pggo11, Pggo12, oC 116 [vI 0, kf 9], Pggo13, Pggo34, Pggo36, Pggo15, oC 30 [kf 7, kf 26], oC 22 [kf 7, kf 8], oC 3 [kf 10], oC 42 [vP 15 0], Pggo41, Pggo42, oC 77 [vP 16 0], oC 3 [vI 2], oC 22 [vU 0], oC 22 [vU 1], Pggo43, Pggo44, Pggo45]
def Pggv47 : List Value := [kf 10, vP 11 0, vI 2, kf 4, vB true, vP 13 0, vI 1, vX, vX, vX, vX, vX]
def Pggv48 : List Value := [vG [kf 9, vI 1], kf 10, vP 13 0, vP 13 0, vB true, vB true, vI 0, vB true, vB true, vB true, vP 13 0, vB false]
def Pggv49 : List Value := [vB true, vB true, vI 0, vI 1, vP 13 0, vP 7 0, vG [vI 3, vI 2, vU 0, vU 1], vX, vX, vX, vX, vX]
def Pggl76 : List Value := Pggv6 ++ (Pggv47 ++ (Pggv16 ++ (Pggv37 ++ (Pggv31 ++ (Pggv32 ++ (Pggv39 ++ (Pggv48 ++ (Pggv49 ++ (Pggv1 ++ (Pggv1 ++ (Pggv1 ++ Pggv2)))))))))))
def Pggo50 : Obj := oC 270080000004 [vU 1, vU 0, vU 1, vU 0, vU 0, vU 0, vU 0, vU 0, vU 0, vU 0, vU 0, vU 0, vU 0, vU 0, vU 0, vU 0, vU 0, vU 0, vU 0, vU 0, vU 0, vU 0, vU 0, vU 0, vU 0, vU 0, vU 0, vU 0, vU 0, vU 0, vU 0, vU 0, vU 0, vU 0, vU 0, vU 0, vU 0, vU 0, vU 0, vU 0, vU 0, vU 0, vU 0, vU 0, vU 0, vU 0, vU 0, vU 0, vU 0, vU 0, vU 0, vU 0, vU 0, vU 0, vU 0, vU 0, vU 0, vU 0, vU 0, vU 0, vU 0, vU 0, vU 0, vU 0, vU 0, vU 0, vU 0, vU 0, vU 0, vU 0, vU 0, vU 0, vU 0, vU 0, vU 0, vU 0, vU 0]
def Pggo51 : Obj := oC 109 [.complex .f32 1 0, vI 3, vI 2, vU 0, vU 1, vI 3]
def Pggo52 : Obj := oC 75 [kf 9, vI 1, vF 55 [] [vP 15 0, vP 16 0, vP 14 0], kf 10, vZ, vZ, vZ, vI 0, vI 2]
def Pggo53 : Obj := oC 80 [vF 34 [vP 13 0] []]
def Pggo54 : Obj := oC 81 [vF 35 [vP 13 0] []]
def Pggh82 : List Obj := [Pggo5, Pggo50, Pggo51, Pggo10, Pggo11, Pggo12, oC 116 [vI 0, kf 9], Pggo13, Pggo34, Pggo36, Pggo15, oC 30 [kf 7, kf 26], oC 22 [kf 7, kf 8], Pggo52, oC 3 [kf 10], Pggo53, Pggo54]
def Pggv55 : List Value := [kf 5, kf 6, kf 7, kf 8, vX, vX, vX, vX, vB false, vP 0 0, vP 6 0, vP 9 0]
def Pggv56 : List Value := [kf 10, vP 10 0, vI 2, kf 4, vB true, vP 12 0, vI 2, vX, vX, vX, vX, vX]
def Pggv57 : List Value := [kf 5, kf 16, kf 17, kf 9, vG [kf 9, vI 1, vZ], vT [vP 6 0, vP 9 0], vG [kf 9, vI 1, vZ], vT [vP 6 0, vP 9 0], vP 6 0, vP 9 0, vP 6 0, vB false]
def Pggv58 : List Value := [vI 2, vI 1, kf 7, kf 8, vS 11 0 2 2, vI 1, vP 11 1, kf 8, vP 0 0, kf 9, vI 1, vI 64]
def Pggv59 : List Value := [kf 15, kf 11, kf 26, vP 10 1, vT [kf 4, vB true], vP 9 0, vP 9 0, vP 9 2, vG [kf 9, vI 1], vI 1, vT [kf 4, vB true], kf 4]
def Pggv60 : List Value := [vB true, vP 6 0, vP 9 0, kf 4, vI 1, vP 10 1, kf 26, vB true, vB false, vP 9 0, vP 9 0, vP 9 2]
def Pggv61 : List Value := [vG [kf 9, vI 1], kf 10, vP 12 0, vP 12 0, vB true, vB true, vI 1, vB true, vB true, vB true, vP 12 0, vB false]
def Pggv62 : List Value := [vB true, vB true, vI 1, vI 2, vP 12 0, vP 6 0, vG [vI 6, vI 0, kf 32, kf 33], vX, vX, vX, vX, vX]
def Pggl91 : List Value := Pggv55 ++ (Pggv56 ++ (Pggv57 ++ (Pggv37 ++ (Pggv58 ++ (Pggv59 ++ (Pggv60 ++ (Pggv61 ++ (Pggv62 ++ (Pggv1 ++ (Pggv1 ++ (Pggv1 ++ Pggv2)))))))))))
def Pggo63 : Obj := oC 147 [vP 13 0, vI 1]
def Pggo64 : Obj := oC 119 [kf 9, vZ, vI 2, vP 3 0, vS 5 0 1 1, kf 29]
def Pggo65 : Obj := oC 116 [kf 10, kf 29]
def Pggo66 : Obj := oC 64 [.complex .f32 7 0, vI 2, kf 4, vU 0, kf 26, vI 2]
def Pggo67 : Obj := oC 40 [vP 8 0, vA, kf 9, vI 1]
def Pggo68 : Obj := oC 75 [kf 9, vI 1, vF 108 [] [vP 19 0, vP 20 0, vP 21 0], kf 10, vZ, vZ, vS 14 0 2 2, vI 0, vI 2]
def Pggo69 : Obj := oC 167 [kf 31, .int .u32 0, kf 10, kf 29, vN, vN]
def Pggo70 : Obj := oC 142 [vI 0, kf 12, vI 1, kf 13]
def Pggo71 : Obj := oC 137 [vF 88 [] [vP 15 0, vP 18 0, vP 17 0, vP 16 0]]
def Pggh101 : List Obj := [Pggo5, Pggo50, Pggo51, Pggo63, Pggo64, Pggo65, Pggo13, Pggo34, Pggo66, Pggo67, oC 30 [kf 7, kf 26], oC 22 [kf 7, kf 8], Pggo68, Pggo69, Pggo70, oC 42 [vP 12 0], oC 3 [vI 0], oC 142 [vI 0, kf 12], oC 3 [kf 3], oC 3 [kf 1], oC 22 [kf 12], Pggo71]
def Pggv72 : List Value := [kf 10, vP 10 0, vI 2, kf 4, vB true, vP 12 0, vI 3, vX, vX, vX, vX, vX]
def Pggv73 : List Value := [vG [kf 9, vI 1], kf 10, vP 12 0, vP 12 0, vB true, vB true, vI 2, vB true, vB true, vB true, vP 12 0, vB false]
def Pggv74 : List Value := [vB true, vB true, vI 2, vI 3, vP 12 0, vP 6 0, vG [vI 5, kf 1, vU 0, kf 12], vX, vX, vX, vX, vX]
def Pggl105 : List Value := Pggv55 ++ (Pggv72 ++ (Pggv57 ++ (Pggv37 ++ (Pggv58 ++ (Pggv59 ++ (Pggv60 ++ (Pggv73 ++ (Pggv74 ++ (Pggv1 ++ (Pggv1 ++ (Pggv1 ++ Pggv2)))))))))))
def Pggo75 : Obj := oC 270080000134 [vU 1, vU 0, vU 1, vU 0, vU 0, vU 0, vU 0, vU 0, vU 0, vU 0, vU 0, vU 0, vU 0, vU 0, vU 0, vU 0, vU 0, vU 0, vU 0, vU 0, vU 0, vU 0, vU 0, vU 0, vU 0, vU 0, vU 0, vU 0, vU 0, vU 0, vU 0, vU 0, vU 0, vU 0, vU 0, vU 0, vU 0, vU 0, vU 0, vU 0, vU 0, vU 0, vU 0, vU 0, vU 0, vU 0, vU 0, vU 0, vU 0, vU 0, vU 0, vU 0, vU 0, vU 0, vU 0, vU 0, vU 0, vU 0, vU 0, vU 0, vU 0, vU 0, vU 0, vU 0, vU 0, vU 0, vU 0, vU 0, vU 0, vU 0, vU 0, vU 0, vU 0, vU 0, vU 0, vU 0, vU 0]
def Pggo76 : Obj := oC 109 [.complex .f32 1 0, vI 5, kf 1, vU 0, kf 12, vI 4]
def Pggo77 : Obj := oC 75 [kf 9, vI 1, vF 100 [] [vP 19 0, vP 20 0], kf 10, vZ, vZ, vS 14 0 2 2, vI 0, vI 2]
def Pggo78 : Obj := oC 137 [vF 89 [] [vP 17 0, vP 15 0, vP 16 0, vP 18 0]]
def Pggh110 : List Obj := [Pggo5, Pggo75, Pggo76, Pggo63, Pggo64, Pggo65, Pggo13, Pggo34, Pggo66, Pggo67, oC 30 [kf 7, kf 26], oC 22 [kf 7, kf 8], Pggo77, Pggo69, Pggo70, oC 42 [vP 12 0], oC 3 [vI 0], oC 142 [vI 0, kf 12], oC 3 [kf 3], oC 3 [kf 3], Pggo78]
def Pggv79 : List Value := [kf 10, vP 10 0, vI 2, kf 4, vB true, vP 12 0, vI 4, vX, vX, vX, vX, vX]
def Pggv80 : List Value := [vG [kf 9, vI 1], kf 10, vP 12 0, vP 12 0, vB true, vB true, vI 3, vB true, vB true, vB true, vP 12 0, vB false]
def Pggv81 : List Value := [vB true, vB true, vI 3, vI 4, vP 12 0, vP 6 0, vG [vI 1, kf 3, kf 7, kf 7], vX, vX, vX, vX, vX]
def Pggl114 : List Value := Pggv55 ++ (Pggv79 ++ (Pggv57 ++ (Pggv37 ++ (Pggv58 ++ (Pggv59 ++ (Pggv60 ++ (Pggv80 ++ (Pggv81 ++ (Pggv1 ++ (Pggv1 ++ (Pggv1 ++ Pggv2)))))))))))
def Pggo82 : Obj := oC 109 [.complex .f32 1 0, vI 1, kf 3, kf 7, kf 7, vI 5]
def Pggo83 : Obj := oC 75 [kf 9, vI 1, vF 108 [] [vP 17 0, vP 18 0, vP 19 0], kf 10, vZ, vZ, vS 14 0 2 2, vI 0, vI 2]
def Pggo84 : Obj := oC 137 [vF 90 [] [vP 15 0, vP 16 0]]
def Pggh118 : List Obj := [Pggo5, Pggo75, Pggo82, Pggo63, Pggo64, Pggo65, Pggo13, Pggo34, Pggo66, Pggo67, oC 30 [kf 7, kf 26], oC 22 [kf 7, kf 8], Pggo83, Pggo69, Pggo70, oC 42 [vP 12 0], oC 3 [vI 0], oC 3 [kf 3], oC 22 [kf 34], Pggo84]
def Pggv85 : List Value := [kf 10, vP 10 0, vI 2, kf 4, vB true, vP 12 0, vI 5, vX, vX, vX, vX, vX]
def Pggv86 : List Value := [vG [kf 9, vI 1], kf 10, vP 12 0, vP 12 0, vB true, vB true, vI 4, vB true, vB true, vB true, vP 12 0, vB false]
def Pggv87 : List Value := [vB true, vB true, vI 4, vI 5, vP 12 0, vP 6 0, vG [vI 5, kf 3, kf 7, kf 35], vX, vX, vX, vX, vX]
def Pggl122 : List Value := Pggv55 ++ (Pggv85 ++ (Pggv57 ++ (Pggv37 ++ (Pggv58 ++ (Pggv59 ++ (Pggv60 ++ (Pggv86 ++ (Pggv87 ++ (Pggv1 ++ (Pggv1 ++ (Pggv1 ++ Pggv2)))))))))))
def Pggo88 : Obj := oC 270360000134 [vU 1, vU 0, vU 1, vU 0, vU 0, vU 0, vU 0, vU 0, vU 0, vU 0, vU 0, vU 0, vU 0, vU 0, vU 0, vU 0, vU 0, vU 0, vU 0, vU 0, vU 0, vU 0, vU 0, vU 0, vU 0, vU 0, vU 0, vU 0, vU 0, vU 0, vU 0, vU 0, vU 0, vU 0, vU 0, vU 0, vU 0, vU 0, vU 0, vU 0, vU 0, vU 0, vU 0, vU 0, vU 0, vU 0, vU 0, vU 0, vU 0, vU 0, vU 0, vU 0, vU 0, vU 0, vU 0, vU 0, vU 0, vU 0, vU 0, vU 0, vU 0, vU 0, vU 0, vU 0, vU 0, vU 0, vU 0, vU 0, vU 0, vU 0, vU 0, vU 0, vU 0, vU 0, vU 0, vU 0, vU 0]
def Pggo89 : Obj := oC 109 [.complex .f32 1 0, vI 5, kf 3, kf 7, kf 35, vI 6]
def Pggh125 : List Obj := [Pggo5, Pggo88, Pggo89, Pggo63, Pggo64, Pggo65, Pggo13, Pggo34, Pggo66, Pggo67, oC 30 [kf 7, kf 26], oC 22 [kf 7, kf 8], Pggo68, Pggo69, Pggo70, oC 42 [vP 12 0], oC 3 [vI 1], oC 142 [vI 1, kf 13], oC 3 [kf 4], oC 3 [kf 2], oC 22 [kf 13], Pggo71]
def Pggv90 : List Value := [kf 10, vP 10 0, vI 2, kf 4, vB true, vP 12 0, vI 6, vX, vX, vX, vX, vX]
def Pggv91 : List Value := [vG [kf 9, vI 1], kf 10, vP 12 0, vP 12 0, vB true, vB true, vI 5, vB true, vB true, vB true, vP 12 0, vB false]
def Pggv92 : List Value := [vB true, vB true, vI 5, vI 6, vP 12 0, vP 6 0, vG [vI 5, kf 2, vU 0, kf 13], vX, vX, vX, vX, vX]
def Pggl129 : List Value := Pggv55 ++ (Pggv90 ++ (Pggv57 ++ (Pggv37 ++ (Pggv58 ++ (Pggv59 ++ (Pggv60 ++ (Pggv91 ++ (Pggv92 ++ (Pggv1 ++ (Pggv1 ++ (Pggv1 ++ Pggv2)))))))))))
def Pggo93 : Obj := oC 270360140134 [vU 1, vU 0, vU 1, vU 0, vU 0, vU 0, vU 0, vU 0, vU 0, vU 0, vU 0, vU 0, vU 0, vU 0, vU 0, vU 0, vU 0, vU 0, vU 0, vU 0, vU 0, vU 0, vU 0, vU 0, vU 0, vU 0, vU 0, vU 0, vU 0, vU 0, vU 0, vU 0, vU 0, vU 0, vU 0, vU 0, vU 0, vU 0, vU 0, vU 0, vU 0, vU 0, vU 0, vU 0, vU 0, vU 0, vU 0, vU 0, vU 0, vU 0, vU 0, vU 0, vU 0, vU 0, vU 0, vU 0, vU 0, vU 0, vU 0, vU 0, vU 0, vU 0, vU 0, vU 0, vU 0, vU 0, vU 0, vU 0, vU 0, vU 0, vU 0, vU 0, vU 0, vU 0, vU 0, vU 0, vU 0]
def Pggo94 : Obj := oC 109 [.complex .f32 1 0, vI 5, kf 2, vU 0, kf 13, vI 7]
def Pggh132 : List Obj := [Pggo5, Pggo93, Pggo94, Pggo63, Pggo64, Pggo65, Pggo13, Pggo34, Pggo66, Pggo67, oC 30 [kf 7, kf 26], oC 22 [kf 7, kf 8], Pggo77, Pggo69, Pggo70, oC 42 [vP 12 0], oC 3 [vI 1], oC 142 [vI 1, kf 13], oC 3 [kf 4], oC 3 [kf 4], Pggo78]
def Pggv95 : List Value := [kf 10, vP 10 0, vI 2, kf 4, vB true, vP 12 0, vI 7, vX, vX, vX, vX, vX]
def Pggv96 : List Value := [vG [kf 9, vI 1], kf 10, vP 12 0, vP 12 0, vB true, vB true, vI 6, vB true, vB true, vB true, vP 12 0, vB false]
def Pggv97 : List Value := [vB true, vB true, vI 6, vI 7, vP 12 0, vP 6 0, vG [vI 1, kf 4, kf 26, kf 26], vX, vX, vX, vX, vX]
def Pggl136 : List Value := Pggv55 ++ (Pggv95 ++ (Pggv57 ++ (Pggv37 ++ (Pggv58 ++ (Pggv59 ++ (Pggv60 ++ (Pggv96 ++ (Pggv97 ++ (Pggv1 ++ (Pggv1 ++ (Pggv1 ++ Pggv2)))))))))))
def Pggo98 : Obj := oC 109 [.complex .f32 1 0, vI 1, kf 4, kf 26, kf 26, vI 8]
def Pggh138 : List Obj := [Pggo5, Pggo93, Pggo98, Pggo63, Pggo64, Pggo65, Pggo13, Pggo34, Pggo66, Pggo67, oC 30 [kf 7, kf 26], oC 22 [kf 7, kf 8], Pggo83, Pggo69, Pggo70, oC 42 [vP 12 0], oC 3 [vI 1], oC 3 [kf 4], oC 22 [kf 37], Pggo84]
def Pggv99 : List Value := [kf 10, vP 10 0, vI 2, kf 4, vB true, vP 12 0, vI 8, vX, vX, vX, vX, vX]
def Pggv100 : List Value := [vG [kf 9, vI 1], kf 10, vP 12 0, vP 12 0, vB true, vB true, vI 7, vB true, vB true, vB true, vP 12 0, vB false]
def Pggv101 : List Value := [vB true, vB true, vI 7, vI 8, vP 12 0, vP 6 0, vG [vI 5, kf 4, kf 26, kf 38], vX, vX, vX, vX, vX]
def Pggl142 : List Value := Pggv55 ++ (Pggv99 ++ (Pggv57 ++ (Pggv37 ++ (Pggv58 ++ (Pggv59 ++ (Pggv60 ++ (Pggv100 ++ (Pggv101 ++ (Pggv1 ++ (Pggv1 ++ (Pggv1 ++ Pggv2)))))))))))
def Pggo102 : Obj := oC 390360140134 [vU 1, vU 0, vU 1, vU 0, vU 0, vU 0, vU 0, vU 0, vU 0, vU 0, vU 0, vU 0, vU 0, vU 0, vU 0, vU 0, vU 0, vU 0, vU 0, vU 0, vU 0, vU 0, vU 0, vU 0, vU 0, vU 0, vU 0, vU 0, vU 0, vU 0, vU 0, vU 0, vU 0, vU 0, vU 0, vU 0, vU 0, vU 0, vU 0, vU 0, vU 0, vU 0, vU 0, vU 0, vU 0, vU 0, vU 0, vU 0, vU 0, vU 0, vU 0, vU 0, vU 0, vU 0, vU 0, vU 0, vU 0, vU 0, vU 0, vU 0, vU 0, vU 0, vU 0, vU 0, vU 0, vU 0, vU 0, vU 0, vU 0, vU 0, vU 0, vU 0, vU 0, vU 0, vU 0, vU 0, vU 0]
def Pggo103 : Obj := oC 109 [.complex .f32 1 0, vI 5, kf 4, kf 26, kf 38, vI 9]
def Pggo104 : Obj := oC 75 [kf 9, vI 1, vF 51 [] [vP 21 0, vP 22 0], kf 10, vZ, vZ, vS 14 0 2 2, vI 0, vI 2]
def Pggo105 : Obj := oC 176 [kf 9, vI 1, vF 125 [] [vP 18 0, vP 19 0, vP 20 0]]
def Pggo106 : Obj := oC 1 [vF 54 [vP 17 0] []]
def Pggo107 : Obj := oC 98 [.iface 158 (vP 17 0)]
def Pggo108 : Obj := oC 1 [vF 104 [] [vP 16 0, vP 15 0]]
def Pggh150 : List Obj := [Pggo5, Pggo102, Pggo103, Pggo63, Pggo64, Pggo65, Pggo13, Pggo34, Pggo66, Pggo67, oC 30 [kf 7, kf 26], oC 22 [kf 7, kf 8], Pggo104, Pggo69, Pggo70, oC 42 [vP 12 0], oC 48 [vI 0], Pggo105, oC 3 [vI 2], oC 22 [vU 0], Pggo106, Pggo107, Pggo108]
def Pggv109 : List Value := [kf 10, vP 10 0, vI 2, kf 4, vB true, vP 12 0, vI 9, vX, vX, vX, vX, vX]
def Pggv110 : List Value := [vG [kf 9, vI 1], kf 10, vP 12 0, vP 12 0, vB true, vB true, vI 8, vB true, vB true, vB true, vP 12 0, vB false]
def Pggv111 : List Value := [vB true, vB true, vI 8, vI 9, vP 12 0, vP 6 0, vG [vI 2, vI 2, vU 1, vU 0], vX, vX, vX, vX, vX]
def Pggl154 : List Value := Pggv55 ++ (Pggv109 ++ (Pggv57 ++ (Pggv37 ++ (Pggv58 ++ (Pggv59 ++ (Pggv60 ++ (Pggv110 ++ (Pggv111 ++ (Pggv1 ++ (Pggv1 ++ (Pggv1 ++ Pggv2)))))))))))
def Pggo112 : Obj := oC 390360140134 [vU 1, vU 0, vU 0, vU 0, vU 0, vU 0, vU 0, vU 0, vU 0, vU 0, vU 0, vU 0, vU 0, vU 0, vU 0, vU 0, vU 0, vU 0, vU 0, vU 0, vU 0, vU 0, vU 0, vU 0, vU 0, vU 0, vU 0, vU 0, vU 0, vU 0, vU 0, vU 0, vU 0, vU 0, vU 0, vU 0, vU 0, vU 0, vU 0, vU 0, vU 0, vU 0, vU 0, vU 0, vU 0, vU 0, vU 0, vU 0, vU 0, vU 0, vU 0, vU 0, vU 0, vU 0, vU 0, vU 0, vU 0, vU 0, vU 0, vU 0, vU 0, vU 0, vU 0, vU 0, vU 0, vU 0, vU 0, vU 0, vU 0, vU 0, vU 0, vU 0, vU 0, vU 0, vU 0, vU 0, vU 0]
def Pggo113 : Obj := oC 109 [.complex .f32 1 0, vI 2, vI 2, vU 1, vU 0, vI 10]
def Pggo114 : Obj := oC 75 [kf 9, vI 1, .nilFunc, kf 10, vZ, vZ, vS 14 0 2 2, vI 0, vI 0]
def Pggh158 : List Obj := [Pggo5, Pggo112, Pggo113, Pggo63, Pggo64, Pggo65, Pggo13, Pggo34, Pggo66, Pggo67, oC 30 [kf 7, kf 26], oC 22 [kf 7, kf 8], Pggo114, Pggo69, Pggo70]
def Pggv115 : List Value := [vG [kf 9, vI 1], kf 10, vP 12 0, vP 12 0, vB true, vB true, vI 9, vB true, vB true, vB true, vP 12 0, vB true]
def Pggv116 : List Value := [vB false, vB false, vI 8, vI 9, vP 12 0, vP 6 0, vG [vI 2, vI 2, vU 1, vU 0], vX, vX, vX, vX, vX]
def Pggl161 : List Value := Pggv55 ++ (Pggv109 ++ (Pggv57 ++ (Pggv37 ++ (Pggv58 ++ (Pggv59 ++ (Pggv60 ++ (Pggv115 ++ (Pggv116 ++ (Pggv1 ++ (Pggv1 ++ (Pggv1 ++ Pggv2)))))))))))
def Pggh162 : List Obj := [Pggo5, Pggo112, Pggo113, Pggo63, Pggo64, Pggo65, Pggo13, Pggo34, Pggo66, Pggo67, oC 30 [kf 7, kf 26], oC 22 [kf 7, kf 8], Pggo114, Pggo69, Pggo70]
def Pggv117 : List Value := [kf 10, vP 10 0, vI 2, kf 4, vB true, vP 12 0, vI 9, vI 0, vI 0, vX, vX, vX]
def Pggv118 : List Value := [vB false, vB false, vI 8, vI 9, vP 12 0, vP 6 0, vG [vI 2, vI 2, vU 1, vU 0], vT [vI 0, vI 0], vP 12 0, vT [vI 0, vI 0], vI 0, vI 0]
def Pggl165 : List Value := Pggv55 ++ (Pggv117 ++ (Pggv57 ++ (Pggv37 ++ (Pggv58 ++ (Pggv59 ++ (Pggv60 ++ (Pggv115 ++ (Pggv118 ++ (Pggv1 ++ (Pggv1 ++ (Pggv1 ++ Pggv2)))))))))))
def Pggh166 : List Obj := [Pggo5, Pggo112, Pggo113, Pggo63, Pggo64, Pggo65, Pggo13, Pggo34, Pggo66, Pggo67, oC 30 [kf 7, kf 26], oC 22 [kf 7, kf 8], Pggo114, Pggo69, Pggo70]
def Pggv119 : List Value := [vI 0, vB false, vB false, vI 0, vB false, vB false, vX, vX, vX, vX, vX, vX]
def Pggl168 : List Value := Pggv55 ++ (Pggv117 ++ (Pggv57 ++ (Pggv37 ++ (Pggv58 ++ (Pggv59 ++ (Pggv60 ++ (Pggv115 ++ (Pggv118 ++ (Pggv119 ++ (Pggv1 ++ (Pggv1 ++ Pggv2)))))))))))
def Pggh169 : List Obj := [Pggo5, Pggo112, Pggo113, Pggo63, Pggo64, Pggo65, Pggo13, Pggo34, Pggo66, Pggo67, oC 30 [kf 7, kf 26], oC 22 [kf 7, kf 8], Pggo114, Pggo69, Pggo70]
def Pggl170 : List Value := Pggv55 ++ (Pggv117 ++ (Pggv57 ++ (Pggv37 ++ (Pggv58 ++ (Pggv59 ++ (Pggv60 ++ (Pggv115 ++ (Pggv118 ++ (Pggv119 ++ (Pggv1 ++ (Pggv1 ++ Pggv2)))))))))))
def Pggh171 : List Obj := [Pggo5, Pggo112, Pggo113, Pggo63, Pggo64, Pggo65, Pggo13, Pggo34, Pggo66, Pggo67, oC 30 [kf 7, kf 26], oC 22 [kf 7, kf 8], Pggo114, Pggo69, Pggo70]
theorem Pggp0 : PgS PggO (seqL (pgC 0)) Pg0 [] .normal Pggl3 Pggh4 := pgS_ev [] (by decide +kernel)
theorem Pggp1 : PgS PggO (seqL (pgC 1)) Pggl3 Pggh4 .normal Pggl7 Pggh9 := pgS_ev [0] (by decide +kernel)
theorem Pggp2 : PgS PggO (seqL (pgC 2)) Pggl7 Pggh9 .normal Pggl12 Pggh21 := pgS_ev [0, 13, 14, 15, 16, 20, 22, 23, 30, 31, 32] (by decide +kernel)
theorem Pggp3 : PgS PggO (seqL (seqL (pgC 3))) Pggl12 Pggh21 .normal Pggl23 Pggh24 := pgS_ev [0, 1, 2, 3, 4, 5, 6, 7, 8, 9, 10] (by decide +kernel)
theorem Pggp4 : PgS PggO (seqR (seqL (pgC 3))) Pggl23 Pggh24 .normal Pggl25 Pggh26 := pgS_ev [0, 1, 2, 3, 4, 5, 6, 7, 8, 9, 10] (by decide +kernel)
theorem Pggp5 : PgS PggO (seqL (pgC 4)) Pggl25 Pggh26 .normal Pggl29 Pggh30 := pgS_ev [0, 1, 2, 3, 4, 5, 6, 7, 8, 9, 10] (by decide +kernel)
theorem Pggp6 : PgS PggO (seqL (pgC 5)) Pggl29 Pggh30 .normal Pggl32 Pggh33 := pgS_ev [0, 1, 2, 3, 4, 5, 6, 7, 8, 9, 10, 11] (by decide +kernel)
theorem Pggp7 : PgS PggO (seqL (seqL (pgC 6))) Pggl32 Pggh33 .normal Pggl35 Pggh36 := pgS_ev [0, 1, 2, 3, 4, 5, 6, 7, 8, 9, 10, 11] (by decide +kernel)
theorem Pggp8 : PgS PggO (inL (inB (seqR (seqL (pgC 6))))) Pggl35 Pggh36 .normal Pggl42 Pggh46 := pgS_ev [0, 1, 2, 3, 4, 5, 6, 7, 8, 9, 10, 11, 12] (by decide +kernel)
theorem Pggp9 : PgS PggO (inL (inB (seqR (seqL (pgC 6))))) Pggl42 Pggh46 .normal Pggl52 Pggh56 := pgS_ev [0, 1, 2, 3, 4, 5, 6, 7, 8, 9, 10, 11, 13] (by decide +kernel)
theorem Pggp10 : PgS PggO (inL (inB (seqR (seqL (pgC 6))))) Pggl52 Pggh56 (.exit 0) Pggl58 Pggh59 := pgS_ev [0, 1, 2, 3, 4, 5, 6, 7, 8, 9, 10, 11, 12] (by decide +kernel)
theorem Pggp11 : PgS PggO (seqL (pgC 7)) Pggl58 Pggh59 .normal Pggl63 Pggh69 := pgS_ev [0, 1, 2, 3, 4, 5, 6, 7, 8, 9, 10, 11, 12, 14, 17, 18, 22, 23, 24, 25, 26, 27, 28, 29] (by decide +kernel)
theorem Pggp12 : PgS PggO (seqL (seqL (pgC 8))) Pggl63 Pggh69 .normal Pggl71 Pggh72 := pgS_ev [0, 1, 2, 3, 4, 5, 6, 7, 8, 9, 10, 11, 12, 13, 14, 15, 16, 17, 18, 19, 20, 21, 22, 23] (by decide +kernel)
theorem Pggp13 : PgS PggO (inL (inB (seqR (seqL (pgC 8))))) Pggl71 Pggh72 .normal Pggl76 Pggh82 := pgS_ev [0, 1, 2, 3, 4, 5, 6, 7, 8, 9, 10, 11, 12, 15, 34, 35, 36] (by decide +kernel)
theorem Pggp14 : PgS PggO (inL (inB (seqR (seqL (pgC 8))))) Pggl76 Pggh82 .normal Pggl91 Pggh101 := pgS_ev [0, 1, 2, 3, 4, 6, 7, 8, 9, 10, 11, 12, 13, 33, 35, 36, 37, 38, 39, 56, 57, 58] (by decide +kernel)
theorem Pggp15 : PgS PggO (inL (inB (seqR (seqL (pgC 8))))) Pggl91 Pggh101 .normal Pggl105 Pggh110 := pgS_ev [0, 1, 2, 3, 4, 5, 6, 7, 8, 9, 10, 11, 12, 13, 14, 15, 16, 17, 18, 26, 27] (by decide +kernel)
theorem Pggp16 : PgS PggO (inL (inB (seqR (seqL (pgC 8))))) Pggl105 Pggh110 .normal Pggl114 Pggh118 := pgS_ev [0, 1, 2, 3, 4, 5, 6, 7, 8, 9, 10, 11, 12, 13, 14, 15, 16, 25, 26, 27] (by decide +kernel)
theorem Pggp17 : PgS PggO (inL (inB (seqR (seqL (pgC 8))))) Pggl114 Pggh118 .normal Pggl122 Pggh125 := pgS_ev [0, 1, 2, 3, 4, 5, 6, 7, 8, 9, 10, 11, 12, 13, 14, 24, 25, 26, 27, 44, 45, 46] (by decide +kernel)
theorem Pggp18 : PgS PggO (inL (inB (seqR (seqL (pgC 8))))) Pggl122 Pggh125 .normal Pggl129 Pggh132 := pgS_ev [0, 1, 2, 3, 4, 5, 6, 7, 8, 9, 10, 11, 12, 13, 14, 15, 16, 17, 18, 26, 27] (by decide +kernel)
theorem Pggp19 : PgS PggO (inL (inB (seqR (seqL (pgC 8))))) Pggl129 Pggh132 .normal Pggl136 Pggh138 := pgS_ev [0, 1, 2, 3, 4, 5, 6, 7, 8, 9, 10, 11, 12, 13, 14, 15, 16, 25, 26, 27] (by decide +kernel)
theorem Pggp20 : PgS PggO (inL (inB (seqR (seqL (pgC 8))))) Pggl136 Pggh138 .normal Pggl142 Pggh150 := pgS_ev [0, 1, 2, 3, 4, 5, 6, 7, 8, 9, 10, 11, 12, 13, 14, 26, 27, 30, 31, 32, 33, 34, 35] (by decide +kernel)
theorem Pggp21 : PgS PggO (inL (inB (seqR (seqL (pgC 8))))) Pggl142 Pggh150 .normal Pggl154 Pggh158 := pgS_ev [0, 1, 2, 3, 4, 5, 6, 7, 8, 9, 10, 11, 12, 13, 14] (by decide +kernel)
theorem Pggp22 : PgS PggO (inL (inB (seqR (seqL (pgC 8))))) Pggl154 Pggh158 (.exit 2) Pggl161 Pggh162 := pgS_ev [0, 1, 2, 3, 4, 5, 6, 7, 8, 9, 10, 11, 12, 13, 14] (by decide +kernel)
theorem Pggp23 : PgS PggO (seqL (pgC 9)) Pggl161 Pggh162 .normal Pggl165 Pggh166 := pgS_ev [0, 1, 2, 3, 4, 5, 6, 7, 8, 9, 10, 11, 12, 13, 14] (by decide +kernel)
theorem Pggp24 : PgS PggO (seqL (seqL (pgC 10))) Pggl165 Pggh166 .normal Pggl168 Pggh169 := pgS_ev [0, 1, 2, 3, 4, 5, 6, 7, 8, 9, 10, 11, 12, 13, 14] (by decide +kernel)
theorem Pggp25 : PgS PggO (seqR (seqL (pgC 10))) Pggl168 Pggh169 .normal Pggl170 Pggh171 := pgS_ev [0, 1, 2, 3, 4, 5, 6, 7, 8, 9, 10, 11, 12, 13, 14] (by decide +kernel)
theorem Pggw : shrOk (fun j => decide (j < 11)) [(kf 10, kf 10), (kf 7, kf 11), (kf 26, kf 12), (kf 12, kf 15), (kf 13, kf 16), (kf 35, kf 13), (kf 38, kf 14)] 0 [0, 1, 2, 6, 9, 10] Pggl170 Pggh171 Pg2A Pg2H = true := by decide +kernel
def Pghe : List Ent := [⟨.conv 5 3, [kf 5], kf 16⟩,
  ⟨.bin .rem 3, [kf 16, vI 128], kf 17⟩,
  ⟨.bin .add 3, [vI 1, kf 17], kf 9⟩,
  ⟨.bin .geq 3, [kf 9, vI 1], .bool true⟩,
  ⟨.bin .leq 3, [kf 9, vI 4096], .bool true⟩,
  ⟨.bin .mul 3, [vI 5, kf 9], kf 18⟩,
  ⟨.bin .add 3, [vI 82, kf 18], kf 19⟩,
  ⟨.bin .add 3, [kf 19, kf 9], kf 1⟩,
  ⟨.bin .add 3, [kf 9, vI 64], kf 20⟩,
  ⟨.bin .sub 3, [kf 20, vI 1], kf 21⟩,
  ⟨.bin .quo 3, [kf 21, vI 64], vI 2⟩,
  ⟨.bin .add 3, [kf 1, vI 2], kf 3⟩,
  ⟨.bin .add 3, [kf 3, vI 2], kf 0⟩,
  ⟨.bin .lss 3, [kf 0, vI 1], .bool false⟩,
  ⟨.bin .gtr 3, [kf 0, vI 65536], .bool false⟩,
  ⟨.bin .geq 3, [vI 0, kf 0], .bool false⟩,
  ⟨.bin .lss 3, [kf 9, vI 1], .bool false⟩,
  ⟨.bin .gtr 3, [kf 9, vI 4096], .bool false⟩,
  ⟨.bin .mul 3, [vI 8192, kf 9], kf 22⟩,
  ⟨.bin .add 3, [kf 22, vI 0], kf 22⟩,
  ⟨.bin .add 3, [vI 0, kf 9], kf 9⟩,
  ⟨.bin .mul 3, [vI 6, kf 9], kf 23⟩,
  ⟨.bin .add 3, [vI 82, kf 23], kf 1⟩,
  ⟨.bin .add 3, [kf 9, vI 63], kf 21⟩,
  ⟨.bin .add 3, [kf 1, vI 4], kf 0⟩,
  ⟨.conv 5 3, [kf 6], kf 24⟩,
  ⟨.bin .rem 3, [kf 24, kf 9], kf 25⟩,
  ⟨.bin .add 3, [vI 1, kf 25], kf 10⟩,
  ⟨.bin .lss 3, [vI 0, kf 9], .bool true⟩,
  ⟨.bin .sub 3, [kf 9, vI 0], kf 9⟩,
  ⟨.bin .and 22, [kf 7, .int .u64 18446744073709551615], kf 7⟩,
  ⟨.bin .add 3, [kf 1, vI 0], kf 1⟩,
  ⟨.bin .lss 3, [kf 3, vI 0], .bool false⟩,
  ⟨.bin .geq 3, [kf 3, kf 0], .bool false⟩,
  ⟨.bin .geq 3, [kf 3, vI 0], .bool true⟩,
  ⟨.bin .lss 3, [kf 3, kf 0], .bool true⟩,
  ⟨.bin .lss 3, [vI 64, kf 9], .bool true⟩,
  ⟨.bin .sub 3, [kf 9, vI 64], kf 15⟩,
  ⟨.bin .and 22, [kf 8, kf 11], kf 26⟩,
  ⟨.bin .add 3, [kf 1, vI 1], kf 2⟩,
  ⟨.bin .add 3, [kf 2, vI 2], kf 4⟩,
  ⟨.bin .lss 3, [kf 4, vI 0], .bool false⟩,
  ⟨.bin .geq 3, [kf 4, kf 0], .bool false⟩,
  ⟨.bin .geq 3, [kf 4, vI 0], .bool true⟩,
  ⟨.bin .lss 3, [kf 4, kf 0], .bool true⟩,
  ⟨.bin .lss 3, [vI 128, kf 9], .bool false⟩,
  ⟨.bin .lss 3, [kf 10, vI 1], .bool false⟩,
  ⟨.bin .gtr 3, [kf 10, vI 4096], .bool false⟩,
  ⟨.bin .neq 38, [vG [kf 9, vI 1], vG [kf 9, vI 1]], .bool false⟩,
  ⟨.bin .geq 3, [vI 2, kf 0], .bool false⟩,
  ⟨.bin .gtr 3, [kf 10, kf 9], .bool false⟩,
  ⟨.bin .mul 3, [vI 8192, kf 10], kf 27⟩,
  ⟨.bin .lss 3, [kf 22, kf 27], .bool false⟩,
  ⟨.bin .neq 3, [kf 22, kf 22], .bool false⟩,
  ⟨.bin .neq 3, [kf 9, kf 9], .bool false⟩,
  ⟨.bin .lss 3, [kf 9, kf 9], .bool false⟩,
  ⟨.bin .gtr 3, [kf 9, kf 9], .bool false⟩,
  ⟨.bin .sub 3, [kf 9, kf 9], kf 28⟩,
  ⟨.bin .gtr 3, [kf 9, kf 10], .bool true⟩,
  ⟨.bin .add 3, [vI 0, kf 10], kf 10⟩,
  ⟨.bin .sub 3, [kf 9, kf 10], kf 29⟩,
  ⟨.bin .mul 3, [vI 8192, kf 29], kf 30⟩,
  ⟨.bin .add 3, [kf 30, kf 10], kf 31⟩,
  ⟨.bin .add 3, [kf 28, kf 29], kf 29⟩,
  ⟨.bin .add 3, [kf 3, vI 0], kf 3⟩,
  ⟨.conv 3 22, [kf 10], kf 32⟩,
  ⟨.conv 3 22, [kf 29], kf 33⟩,
  ⟨.bin .lss 3, [kf 1, vI 0], .bool false⟩,
  ⟨.bin .geq 3, [kf 1, kf 0], .bool false⟩,
  ⟨.bin .add 22, [.int .u64 0, kf 12], kf 12⟩,
  ⟨.bin .and 22, [kf 7, kf 12], kf 7⟩,
  ⟨.bin .eql 22, [kf 7, .int .u64 0], .bool false⟩,
  ⟨.un .neg, [kf 7], kf 34⟩,
  ⟨.bin .add 22, [kf 7, kf 34], kf 35⟩,
  ⟨.bin .add 3, [kf 3, vI 1], kf 4⟩,
  ⟨.bin .lss 3, [kf 2, vI 0], .bool false⟩,
  ⟨.bin .geq 3, [kf 2, kf 0], .bool false⟩,
  ⟨.bin .add 22, [.int .u64 0, kf 13], kf 13⟩,
  ⟨.bin .and 22, [kf 26, kf 13], kf 36⟩,
  ⟨.bin .eql 22, [kf 36, .int .u64 0], .bool true⟩]
def Pghf : List FnEnt := [⟨14, [], .bool true⟩,
  ⟨44, [kf 9, vZ], vA⟩,
  ⟨5, [kf 9], .int .u64 18446744073709551615⟩,
  ⟨5, [kf 15], kf 11⟩]
def PghO : Orc := orcS Pghe Pghf 4 rdG (pgMk 10 13 12)
def Pghv0 : List Value := [kf 5, kf 6, kf 7, kf 8, vX, vX, vX, vX, vB false, vX, vX, vX]
def Pghv1 : List Value := [vX, vX, vX, vX, vX, vX, vX, vX, vX, vX, vX, vX]
def Pghv2 : List Value := [vX, vX, vX, vX, vX, vX]
def Pghl3 : List Value := Pghv0 ++ (Pghv1 ++ (Pghv1 ++ (Pghv1 ++ (Pghv1 ++ (Pghv1 ++ (Pghv1 ++ (Pghv1 ++ (Pghv1 ++ (Pghv1 ++ (Pghv1 ++ (Pghv1 ++ Pghv2)))))))))))
def Pghh4 : List Obj := []
def Pghv3 : List Value := [kf 5, kf 6, kf 7, kf 8, vX, vX, vX, vX, vB false, vP 0 0, vX, vX]
def Pghv4 : List Value := [kf 5, kf 16, kf 17, kf 9, vG [kf 9, vI 1, vZ], vX, vX, vX, vX, vX, vX, vX]
def Pghl7 : List Value := Pghv3 ++ (Pghv1 ++ (Pghv4 ++ (Pghv1 ++ (Pghv1 ++ (Pghv1 ++ (Pghv1 ++ (Pghv1 ++ (Pghv1 ++ (Pghv1 ++ (Pghv1 ++ (Pghv1 ++ Pghv2)))))))))))
def Pgho5 : Obj := oC 25 [kf 9, vI 1, vZ]
def Pghh9 : List Obj := [Pgho5]
def Pghv6 : List Value := [kf 5, kf 6, kf 7, kf 8, vX, vX, vX, vX, vB false, vP 0 0, vP 7 0, vP 10 0]
def Pghv7 : List Value := [kf 5, kf 16, kf 17, kf 9, vG [kf 9, vI 1, vZ], vT [vP 7 0, vP 10 0], vG [kf 9, vI 1, vZ], vT [vP 7 0, vP 10 0], vP 7 0, vP 10 0, vX, vX]
def Pghl12 : List Value := Pghv6 ++ (Pghv1 ++ (Pghv7 ++ (Pghv1 ++ (Pghv1 ++ (Pghv1 ++ (Pghv1 ++ (Pghv1 ++ (Pghv1 ++ (Pghv1 ++ (Pghv1 ++ (Pghv1 ++ Pghv2)))))))))))
def Pgho8 : Obj := oC 4 [vU 1, vU 0, vU 0, vU 0, vU 0, vU 0, vU 0, vU 0, vU 0, vU 0, vU 0, vU 0, vU 0, vU 0, vU 0, vU 0, vU 0, vU 0, vU 0, vU 0, vU 0, vU 0, vU 0, vU 0, vU 0, vU 0, vU 0, vU 0, vU 0, vU 0, vU 0, vU 0, vU 0, vU 0, vU 0, vU 0, vU 0, vU 0, vU 0, vU 0, vU 0, vU 0, vU 0, vU 0, vU 0, vU 0, vU 0, vU 0, vU 0, vU 0, vU 0, vU 0, vU 0, vU 0, vU 0, vU 0, vU 0, vU 0, vU 0, vU 0, vU 0, vU 0, vU 0, vU 0, vU 0, vU 0, vU 0, vU 0, vU 0, vU 0, vU 0, vU 0, vU 0, vU 0, vU 0, vU 0, vU 0]
def Pgho9 : Obj := oC 109 [.complex .f32 1 0, vI 0, vI 0, vU 0, vU 0, vI 0]
def Pgho10 : Obj := oC 147 [vP 5 0, vI 1]
def Pgho11 : Obj := oC 119 [kf 9, vZ, vI 1, vP 3 0, vS 6 0 1 1, kf 9]
def Pgho12 : Obj := oC 167 [kf 22, .int .u32 0, vI 0, kf 9, vN, vN]
def Pgho13 : Obj := oC 86 [kf 9, vI 1, vP 2 0, vP 4 0]
def Pgho14 : Obj := oC 64 [.complex .f32 8 0, vI 0, vI 0, vU 0, vU 0, vI 0]
def Pgho15 : Obj := oC 40 [vP 9 0, vA, kf 9, vI 1]
def Pghh21 : List Obj := [Pgho5, Pgho8, Pgho9, Pgho10, Pgho11, Pgho12, oC 116 [vI 0, kf 9], Pgho13, Pgho8, Pgho14, Pgho15]
def Pghv16 : List Value := [kf 5, kf 16, kf 17, kf 9, vG [kf 9, vI 1, vZ], vT [vP 7 0, vP 10 0], vG [kf 9, vI 1, vZ], vT [vP 7 0, vP 10 0], vP 7 0, vP 10 0, vP 7 0, vB false]
def Pghl23 : List Value := Pghv6 ++ (Pghv1 ++ (Pghv16 ++ (Pghv1 ++ (Pghv1 ++ (Pghv1 ++ (Pghv1 ++ (Pghv1 ++ (Pghv1 ++ (Pghv1 ++ (Pghv1 ++ (Pghv1 ++ Pghv2)))))))))))
def Pghh24 : List Obj := [Pgho5, Pgho8, Pgho9, Pgho10, Pgho11, Pgho12, oC 116 [vI 0, kf 9], Pgho13, Pgho8, Pgho14, Pgho15]
def Pghl25 : List Value := Pghv6 ++ (Pghv1 ++ (Pghv16 ++ (Pghv1 ++ (Pghv1 ++ (Pghv1 ++ (Pghv1 ++ (Pghv1 ++ (Pghv1 ++ (Pghv1 ++ (Pghv1 ++ (Pghv1 ++ Pghv2)))))))))))
def Pghh26 : List Obj := [Pgho5, Pgho8, Pgho9, Pgho10, Pgho11, Pgho12, oC 116 [vI 0, kf 9], Pgho13, Pgho8, Pgho14, Pgho15]
def Pghv17 : List Value := [kf 10, vX, vX, vX, vX, vX, vX, vX, vX, vX, vX, vX]
def Pghv18 : List Value := [kf 6, kf 24, vP 0 0, kf 9, kf 25, kf 10, vX, vX, vX, vX, vX, vX]
def Pghl29 : List Value := Pghv6 ++ (Pghv17 ++ (Pghv16 ++ (Pghv18 ++ (Pghv1 ++ (Pghv1 ++ (Pghv1 ++ (Pghv1 ++ (Pghv1 ++ (Pghv1 ++ (Pghv1 ++ (Pghv1 ++ Pghv2)))))))))))
def Pghh30 : List Obj := [Pgho5, Pgho8, Pgho9, Pgho10, Pgho11, Pgho12, oC 116 [vI 0, kf 9], Pgho13, Pgho8, Pgho14, Pgho15]
def Pghv19 : List Value := [kf 10, vP 11 0, vX, vX, vX, vX, vX, vX, vX, vX, vX, vX]
def Pghl32 : List Value := Pghv6 ++ (Pghv19 ++ (Pghv16 ++ (Pghv18 ++ (Pghv1 ++ (Pghv1 ++ (Pghv1 ++ (Pghv1 ++ (Pghv1 ++ (Pghv1 ++ (Pghv1 ++ (Pghv1 ++ Pghv2)))))))))))
def Pghh33 : List Obj := [Pgho5, Pgho8, Pgho9, Pgho10, Pgho11, Pgho12, oC 116 [vI 0, kf 9], Pgho13, Pgho8, Pgho14, Pgho15, oC 30 [vU 0, vU 0]]
def Pghv20 : List Value := [kf 10, vP 11 0, vI 0, vX, vX, vX, vX, vX, vX, vX, vX, vX]
def Pghl35 : List Value := Pghv6 ++ (Pghv20 ++ (Pghv16 ++ (Pghv18 ++ (Pghv1 ++ (Pghv1 ++ (Pghv1 ++ (Pghv1 ++ (Pghv1 ++ (Pghv1 ++ (Pghv1 ++ (Pghv1 ++ Pghv2)))))))))))
def Pghh36 : List Obj := [Pgho5, Pgho8, Pgho9, Pgho10, Pgho11, Pgho12, oC 116 [vI 0, kf 9], Pgho13, Pgho8, Pgho14, Pgho15, oC 30 [vU 0, vU 0]]
def Pghv21 : List Value := [kf 10, vP 11 0, vI 1, kf 3, vB true, vX, vX, vX, vX, vX, vX, vX]
def Pghv22 : List Value := [kf 6, kf 24, vP 0 0, kf 9, kf 25, kf 10, vI 0, vI 0, vP 0 0, kf 9, vB true, vI 0]
def Pghv23 : List Value := [vI 1, vI 0, kf 7, kf 8, vS 12 0 2 2, vI 0, vP 12 0, kf 7, vP 0 0, kf 9, vI 0, vI 0]
def Pghv24 : List Value := [kf 9, vU 18446744073709551615, kf 7, vP 11 0, vT [kf 3, vB true], vP 10 0, vP 10 0, vP 10 2, vG [kf 9, vI 1], vI 0, vT [kf 3, vB true], kf 3]
def Pghv25 : List Value := [vB true, vP 7 0, vP 10 0, kf 3, vI 0, vP 11 0, kf 7, vB true, vB false, vX, vX, vX]
def Pghl42 : List Value := Pghv6 ++ (Pghv21 ++ (Pghv16 ++ (Pghv22 ++ (Pghv23 ++ (Pghv24 ++ (Pghv25 ++ (Pghv1 ++ (Pghv1 ++ (Pghv1 ++ (Pghv1 ++ (Pghv1 ++ Pghv2)))))))))))
def Pgho26 : Obj := oC 80000004 [vU 1, vU 0, vU 0, vU 0, vU 0, vU 0, vU 0, vU 0, vU 0, vU 0, vU 0, vU 0, vU 0, vU 0, vU 0, vU 0, vU 0, vU 0, vU 0, vU 0, vU 0, vU 0, vU 0, vU 0, vU 0, vU 0, vU 0, vU 0, vU 0, vU 0, vU 0, vU 0, vU 0, vU 0, vU 0, vU 0, vU 0, vU 0, vU 0, vU 0, vU 0, vU 0, vU 0, vU 0, vU 0, vU 0, vU 0, vU 0, vU 0, vU 0, vU 0, vU 0, vU 0, vU 0, vU 0, vU 0, vU 0, vU 0, vU 0, vU 0, vU 0, vU 0, vU 0, vU 0, vU 0, vU 0, vU 0, vU 0, vU 0, vU 0, vU 0, vU 0, vU 0, vU 0, vU 0, vU 0, vU 0]
def Pgho27 : Obj := oC 109 [.complex .f32 1 0, vI 2, kf 3, vU 0, kf 7, vI 1]
def Pgho28 : Obj := oC 64 [.complex .f32 8 0, vI 2, kf 3, vU 0, kf 7, vI 1]
def Pghh46 : List Obj := [Pgho5, Pgho26, Pgho27, Pgho10, Pgho11, Pgho12, oC 116 [vI 0, kf 9], Pgho13, Pgho26, Pgho28, Pgho15, oC 30 [kf 7, vU 0], oC 22 [kf 7, kf 8]]
def Pghv29 : List Value := [kf 10, vP 11 0, vI 2, kf 4, vB true, vX, vX, vX, vX, vX, vX, vX]
def Pghv30 : List Value := [kf 6, kf 24, vP 0 0, kf 9, kf 25, kf 10, vI 1, vI 64, vP 0 0, kf 9, vB true, vI 1]
def Pghv31 : List Value := [vI 2, vI 1, kf 7, kf 8, vS 12 0 2 2, vI 1, vP 12 1, kf 8, vP 0 0, kf 9, vI 1, vI 64]
def Pghv32 : List Value := [kf 15, kf 11, kf 26, vP 11 1, vT [kf 4, vB true], vP 10 0, vP 10 0, vP 10 2, vG [kf 9, vI 1], vI 1, vT [kf 4, vB true], kf 4]
def Pghv33 : List Value := [vB true, vP 7 0, vP 10 0, kf 4, vI 1, vP 11 1, kf 26, vB true, vB false, vX, vX, vX]
def Pghl52 : List Value := Pghv6 ++ (Pghv29 ++ (Pghv16 ++ (Pghv30 ++ (Pghv31 ++ (Pghv32 ++ (Pghv33 ++ (Pghv1 ++ (Pghv1 ++ (Pghv1 ++ (Pghv1 ++ (Pghv1 ++ Pghv2)))))))))))
def Pgho34 : Obj := oC 270080000004 [vU 1, vU 0, vU 0, vU 0, vU 0, vU 0, vU 0, vU 0, vU 0, vU 0, vU 0, vU 0, vU 0, vU 0, vU 0, vU 0, vU 0, vU 0, vU 0, vU 0, vU 0, vU 0, vU 0, vU 0, vU 0, vU 0, vU 0, vU 0, vU 0, vU 0, vU 0, vU 0, vU 0, vU 0, vU 0, vU 0, vU 0, vU 0, vU 0, vU 0, vU 0, vU 0, vU 0, vU 0, vU 0, vU 0, vU 0, vU 0, vU 0, vU 0, vU 0, vU 0, vU 0, vU 0, vU 0, vU 0, vU 0, vU 0, vU 0, vU 0, vU 0, vU 0, vU 0, vU 0, vU 0, vU 0, vU 0, vU 0, vU 0, vU 0, vU 0, vU 0, vU 0, vU 0, vU 0, vU 0, vU 0]
def Pgho35 : Obj := oC 109 [.complex .f32 1 0, vI 2, kf 4, vU 0, kf 26, vI 2]
def Pgho36 : Obj := oC 64 [.complex .f32 8 0, vI 2, kf 4, vU 0, kf 26, vI 2]
def Pghh56 : List Obj := [Pgho5, Pgho34, Pgho35, Pgho10, Pgho11, Pgho12, oC 116 [vI 0, kf 9], Pgho13, Pgho34, Pgho36, Pgho15, oC 30 [kf 7, kf 26], oC 22 [kf 7, kf 8]]
def Pghv37 : List Value := [kf 6, kf 24, vP 0 0, kf 9, kf 25, kf 10, vI 2, vI 128, vP 0 0, kf 9, vB false, vI 1]
def Pghl58 : List Value := Pghv6 ++ (Pghv29 ++ (Pghv16 ++ (Pghv37 ++ (Pghv31 ++ (Pghv32 ++ (Pghv33 ++ (Pghv1 ++ (Pghv1 ++ (Pghv1 ++ (Pghv1 ++ (Pghv1 ++ Pghv2)))))))))))
def Pghh59 : List Obj := [Pgho5, Pgho34, Pgho35, Pgho10, Pgho11, Pgho12, oC 116 [vI 0, kf 9], Pgho13, Pgho34, Pgho36, Pgho15, oC 30 [kf 7, kf 26], oC 22 [kf 7, kf 8]]
def Pghv38 : List Value := [kf 10, vP 11 0, vI 2, kf 4, vB true, vP 15 0, vX, vX, vX, vX, vX, vX]
def Pghv39 : List Value := [vB true, vP 7 0, vP 10 0, kf 4, vI 1, vP 11 1, kf 26, vB true, vB false, vP 10 0, vP 10 0, vP 10 2]
def Pghv40 : List Value := [vG [kf 9, vI 1], kf 10, vP 15 0, vX, vX, vX, vX, vX, vX, vX, vX, vX]
def Pghl63 : List Value := Pghv6 ++ (Pghv38 ++ (Pghv16 ++ (Pghv37 ++ (Pghv31 ++ (Pghv32 ++ (Pghv39 ++ (Pghv40 ++ (Pghv1 ++ (Pghv1 ++ (Pghv1 ++ (Pghv1 ++ Pghv2)))))))))))
def Pgho41 : Obj := oC 75 [kf 9, vI 1, vF 51 [] [vP 22 0, vP 23 0], kf 10, vZ, vZ, vZ, vI 0, vI 2]
def Pgho42 : Obj := oC 100 [kf 9, vI 1, vF 75 [] [vP 18 0, vP 19 0, vP 20 0, vP 21 0]]
def Pgho43 : Obj := oC 102 [vF 53 [] [vP 17 0]]
def Pgho44 : Obj := oC 98 [.iface 77 (vP 16 0)]
def Pgho45 : Obj := oC 1 [vF 32 [] [vP 14 0, vP 13 0]]
def Pghh69 : List Obj := [Pgho5, Pgho34, Pgho35, Pgho10, Pgho11, Pgho12, oC 116 [vI 0, kf 9], Pgho13, Pgho34, Pgho36, Pgho15, oC 30 [kf 7, kf 26], oC 22 [kf 7, kf 8], oC 3 [kf 10], oC 42 [vP 15 0], Pgho41, Pgho42, oC 77 [vP 16 0], oC 3 [vI 2], oC 22 [vU 0], oC 22 [vU 1], Pgho43, Pgho44, Pgho45]
def Pghv46 : List Value := [kf 10, vP 11 0, vI 2, kf 4, vB true, vP 15 0, vI 0, vX, vX, vX, vX, vX]
def Pghl71 : List Value := Pghv6 ++ (Pghv46 ++ (Pghv16 ++ (Pghv37 ++ (Pghv31 ++ (Pghv32 ++ (Pghv39 ++ (Pghv40 ++ (Pghv1 ++ (Pghv1 ++ (Pghv1 ++ (Pghv1 ++ Pghv2)))))))))))
def Pghh72 : List Obj := [Pgho5, Pgho34, Pgho35, Pgho10, Pgho11, Pgho12, oC 116 [vI 0, kf 9], Pgho13, Pgho34, Pgho36, Pgho15, oC 30 [kf 7, kf 26], oC 22 [kf 7, kf 8], oC 3 [kf 10], oC 42 [vP 15 0], Pgho41, Pgho42, oC 77 [vP 16 0], oC 3 [vI 2], oC 22 [vU 0], oC 22 [vU 1], Pgho43, Pgho44, Pgho45]
def Pghv47 : List Value := [kf 10, vP 11 0, vI 2, kf 4, vB true, vP 13 0, vI 1, vX, vX, vX, vX, vX]
def Pghv48 : List Value := [vG [kf 9, vI 1], kf 10, vP 13 0, vP 13 0, vB true, vB true, vI 0, vB true, vB true, vB true, vP 13 0, vB false]
def Pghv49 : List Value := [vB true, vB true, vI 0, vI 1, vP 13 0, vP 7 0, vG [vI 3, vI 2, vU 0, vU 1], vX, vX, vX, vX, vX]
def Pghl76 : List Value := Pghv6 ++ (Pghv47 ++ (Pghv16 ++ (Pghv37 ++ (Pghv31 ++ (Pghv32 ++ (Pghv39 ++ (Pghv48 ++ (Pghv49 ++ (Pghv1 ++ (Pghv1 ++ (Pghv1 ++ Pghv2)))))))))))
def Pgho50 : Obj := oC 270080000004 [vU 1, vU 0, vU 1, vU 0, vU 0, vU 0, vU 0, vU 0, vU 0, vU 0, vU 0, vU 0, vU 0, vU 0, vU 0, vU 0, vU 0, vU 0, vU 0, vU 0, vU 0, vU 0, vU 0, vU 0, vU 0, vU 0, vU 0, vU 0, vU 0, vU 0, vU 0, vU 0, vU 0, vU 0, vU 0, vU 0, vU 0, vU 0, vU 0, vU 0, vU 0, vU 0, vU 0, vU 0, vU 0, vU 0, vU 0, vU 0, vU 0, vU 0, vU 0, vU 0, vU 0, vU 0, vU 0, vU 0, vU 0, vU 0, vU 0, vU 0, vU 0, vU 0, vU 0, vU 0, vU 0, vU 0, vU 0, vU 0, vU 0, vU 0, vU 0, vU 0, vU 0, vU 0, vU 0, vU 0, vU 0]
def Pgho51 : Obj := oC 109 [.complex .f32 1 0, vI 3, vI 2, vU 0, vU 1, vI 3]
def Pgho52 : Obj := oC 75 [kf 9, vI 1, vF 55 [] [vP 15 0, vP 16 0, vP 14 0], kf 10, vZ, vZ, vZ, vI 0, vI 2]
def Pgho53 : Obj := oC 80 [vF 34 [vP 13 0] []]
def Pgho54 : Obj := oC 81 [vF 35 [vP 13 0] []]
def Pghh82 : List Obj := [Pgho5, Pgho50, Pgho51, Pgho10, Pgho11, Pgho12, oC 116 [vI 0, kf 9], Pgho13, Pgho34, Pgho36, Pgho15, oC 30 [kf 7, kf 26], oC 22 [kf 7, kf 8], Pgho52, oC 3 [kf 10], Pgho53, Pgho54]
def Pghv55 : List Value := [kf 5, kf 6, kf 7, kf 8, vX, vX, vX, vX, vB false, vP 0 0, vP 6 0, vP 9 0]
def Pghv56 : List Value := [kf 10, vP 10 0, vI 2, kf 4, vB true, vP 12 0, vI 2, vX, vX, vX, vX, vX]
def Pghv57 : List Value := [kf 5, kf 16, kf 17, kf 9, vG [kf 9, vI 1, vZ], vT [vP 6 0, vP 9 0], vG [kf 9, vI 1, vZ], vT [vP 6 0, vP 9 0], vP 6 0, vP 9 0, vP 6 0, vB false]
def Pghv58 : List Value := [vI 2, vI 1, kf 7, kf 8, vS 11 0 2 2, vI 1, vP 11 1, kf 8, vP 0 0, kf 9, vI 1, vI 64]
def Pghv59 : List Value := [kf 15, kf 11, kf 26, vP 10 1, vT [kf 4, vB true], vP 9 0, vP 9 0, vP 9 2, vG [kf 9, vI 1], vI 1, vT [kf 4, vB true], kf 4]
def Pghv60 : List Value := [vB true, vP 6 0, vP 9 0, kf 4, vI 1, vP 10 1, kf 26, vB true, vB false, vP 9 0, vP 9 0, vP 9 2]
def Pghv61 : List Value := [vG [kf 9, vI 1], kf 10, vP 12 0, vP 12 0, vB true, vB true, vI 1, vB true, vB true, vB true, vP 12 0, vB false]
def Pghv62 : List Value := [vB true, vB true, vI 1, vI 2, vP 12 0, vP 6 0, vG [vI 6, vI 0, kf 32, kf 33], vX, vX, vX, vX, vX]
def Pghl91 : List Value := Pghv55 ++ (Pghv56 ++ (Pghv57 ++ (Pghv37 ++ (Pghv58 ++ (Pghv59 ++ (Pghv60 ++ (Pghv61 ++ (Pghv62 ++ (Pghv1 ++ (Pghv1 ++ (Pghv1 ++ Pghv2)))))))))))
def Pgho63 : Obj := oC 147 [vP 13 0, vI 1]
def Pgho64 : Obj := oC 119 [kf 9, vZ, vI 2, vP 3 0, vS 5 0 1 1, kf 29]
def Pgho65 : Obj := oC 116 [kf 10, kf 29]
def Pgho66 : Obj := oC 64 [.complex .f32 7 0, vI 2, kf 4, vU 0, kf 26, vI 2]
def Pgho67 : Obj := oC 40 [vP 8 0, vA, kf 9, vI 1]
def Pgho68 : Obj := oC 75 [kf 9, vI 1, vF 108 [] [vP 19 0, vP 20 0, vP 21 0], kf 10, vZ, vZ, vS 14 0 2 2, vI 0, vI 2]
def Pgho69 : Obj := oC 167 [kf 31, .int .u32 0, kf 10, kf 29, vN, vN]
def Pgho70 : Obj := oC 142 [vI 0, kf 12, vI 1, kf 13]
def Pgho71 : Obj := oC 137 [vF 88 [] [vP 15 0, vP 18 0, vP 17 0, vP 16 0]]
def Pghh101 : List Obj := [Pgho5, Pgho50, Pgho51, Pgho63, Pgho64, Pgho65, Pgho13, Pgho34, Pgho66, Pgho67, oC 30 [kf 7, kf 26], oC 22 [kf 7, kf 8], Pgho68, Pgho69, Pgho70, oC 42 [vP 12 0], oC 3 [vI 0], oC 142 [vI 0, kf 12], oC 3 [kf 3], oC 3 [kf 1], oC 22 [kf 12], Pgho71]
def Pghv72 : List Value := [kf 10, vP 10 0, vI 2, kf 4, vB true, vP 12 0, vI 3, vX, vX, vX, vX, vX]
def Pghv73 : List Value := [vG [kf 9, vI 1], kf 10, vP 12 0, vP 12 0, vB true, vB true, vI 2, vB true, vB true, vB true, vP 12 0, vB false]
def Pghv74 : List Value := [vB true, vB true, vI 2, vI 3, vP 12 0, vP 6 0, vG [vI 5, kf 1, vU 0, kf 12], vX, vX, vX, vX, vX]
def Pghl105 : List Value := Pghv55 ++ (Pghv72 ++ (Pghv57 ++ (Pghv37 ++ (Pghv58 ++ (Pghv59 ++ (Pghv60 ++ (Pghv73 ++ (Pghv74 ++ (Pghv1 ++ (Pghv1 ++ (Pghv1 ++ Pghv2)))))))))))
def Pgho75 : Obj := oC 270080000134 [vU 1, vU 0, vU 1, vU 0, vU 0, vU 0, vU 0, vU 0, vU 0, vU 0, vU 0, vU 0, vU 0, vU 0, vU 0, vU 0, vU 0, vU 0, vU 0, vU 0, vU 0, vU 0, vU 0, vU 0, vU 0, vU 0, vU 0, vU 0, vU 0, vU 0, vU 0, vU 0, vU 0, vU 0, vU 0, vU 0, vU 0, vU 0, vU 0, vU 0, vU 0, vU 0, vU 0, vU 0, vU 0, vU 0, vU 0, vU 0, vU 0, vU 0, vU 0, vU 0, vU 0, vU 0, vU 0, vU 0, vU 0, vU 0, vU 0, vU 0, vU 0, vU 0, vU 0, vU 0, vU 0, vU 0, vU 0, vU 0, vU 0, vU 0, vU 0, vU 0, vU 0, vU 0, vU 0, vU 0, vU 0]
def Pgho76 : Obj := oC 109 [.complex .f32 1 0, vI 5, kf 1, vU 0, kf 12, vI 4]
def Pgho77 : Obj := oC 75 [kf 9, vI 1, vF 100 [] [vP 19 0, vP 20 0], kf 10, vZ, vZ, vS 14 0 2 2, vI 0, vI 2]
def Pgho78 : Obj := oC 137 [vF 89 [] [vP 17 0, vP 15 0, vP 16 0, vP 18 0]]
def Pghh110 : List Obj := [Pgho5, Pgho75, Pgho76, Pgho63, Pgho64, Pgho65, Pgho13, Pgho34, Pgho66, Pgho67, oC 30 [kf 7, kf 26], oC 22 [kf 7, kf 8], Pgho77, Pgho69, Pgho70, oC 42 [vP 12 0], oC 3 [vI 0], oC 142 [vI 0, kf 12], oC 3 [kf 3], oC 3 [kf 3], Pgho78]
def Pghv79 : List Value := [kf 10, vP 10 0, vI 2, kf 4, vB true, vP 12 0, vI 4, vX, vX, vX, vX, vX]
def Pghv80 : List Value := [vG [kf 9, vI 1], kf 10, vP 12 0, vP 12 0, vB true, vB true, vI 3, vB true, vB true, vB true, vP 12 0, vB false]
def Pghv81 : List Value := [vB true, vB true, vI 3, vI 4, vP 12 0, vP 6 0, vG [vI 1, kf 3, kf 7, kf 7], vX, vX, vX, vX, vX]
def Pghl114 : List Value := Pghv55 ++ (Pghv79 ++ (Pghv57 ++ (Pghv37 ++ (Pghv58 ++ (Pghv59 ++ (Pghv60 ++ (Pghv80 ++ (Pghv81 ++ (Pghv1 ++ (Pghv1 ++ (Pghv1 ++ Pghv2)))))))))))
def Pgho82 : Obj := oC 109 [.complex .f32 1 0, vI 1, kf 3, kf 7, kf 7, vI 5]
def Pgho83 : Obj := oC 75 [kf 9, vI 1, vF 108 [] [vP 17 0, vP 18 0, vP 19 0], kf 10, vZ, vZ, vS 14 0 2 2, vI 0, vI 2]
def Pgho84 : Obj := oC 137 [vF 90 [] [vP 15 0, vP 16 0]]
def Pghh118 : List Obj := [Pgho5, Pgho75, Pgho82, Pgho63, Pgho64, Pgho65, Pgho13, Pgho34, Pgho66, Pgho67, oC 30 [kf 7, kf 26], oC 22 [kf 7, kf 8], Pgho83, Pgho69, Pgho70, oC 42 [vP 12 0], oC 3 [vI 0], oC 3 [kf 3], oC 22 [kf 34], Pgho84]
def Pghv85 : List Value := [kf 10, vP 10 0, vI 2, kf 4, vB true, vP 12 0, vI 5, vX, vX, vX, vX, vX]
def Pghv86 : List Value := [vG [kf 9, vI 1], kf 10, vP 12 0, vP 12 0, vB true, vB true, vI 4, vB true, vB true, vB true, vP 12 0, vB false]
def Pghv87 : List Value := [vB true, vB true, vI 4, vI 5, vP 12 0, vP 6 0, vG [vI 5, kf 3, kf 7, kf 35], vX, vX, vX, vX, vX]
def Pghl122 : List Value := Pghv55 ++ (Pghv85 ++ (Pghv57 ++ (Pghv37 ++ (Pghv58 ++ (Pghv59 ++ (Pghv60 ++ (Pghv86 ++ (Pghv87 ++ (Pghv1 ++ (Pghv1 ++ (Pghv1 ++ Pghv2)))))))))))
def Pgho88 : Obj := oC 270360000134 [vU 1, vU 0, vU 1, vU 0, vU 0, vU 0, vU 0, vU 0, vU 0, vU 0, vU 0, vU 0, vU 0, vU 0, vU 0, vU 0, vU 0, vU 0, vU 0, vU 0, vU 0, vU 0, vU 0, vU 0, vU 0, vU 0, vU 0, vU 0, vU 0, vU 0, vU 0, vU 0, vU 0, vU 0, vU 0, vU 0, vU 0, vU 0, vU 0, vU 0, vU 0, vU 0, vU 0, vU 0, vU 0, vU 0, vU 0, vU 0, vU 0, vU 0, vU 0, vU 0, vU 0, vU 0, vU 0, vU 0, vU 0, vU 0, vU 0, vU 0, vU 0, vU 0, vU 0, vU 0, vU 0, vU 0, vU 0, vU 0, vU 0, vU 0, vU 0, vU 0, vU 0, vU 0, vU 0, vU 0, vU 0]
def Pgho89 : Obj := oC 109 [.complex .f32 1 0, vI 5, kf 3, kf 7, kf 35, vI 6]
def Pghh125 : List Obj := [Pgho5, Pgho88, Pgho89, Pgho63, Pgho64, Pgho65, Pgho13, Pgho34, Pgho66, Pgho67, oC 30 [kf 7, kf 26], oC 22 [kf 7, kf 8], Pgho68, Pgho69, Pgho70, oC 42 [vP 12 0], oC 3 [vI 1], oC 142 [vI 1, kf 13], oC 3 [kf 4], oC 3 [kf 2], oC 22 [kf 13], Pgho71]
def Pghv90 : List Value := [kf 10, vP 10 0, vI 2, kf 4, vB true, vP 12 0, vI 6, vX, vX, vX, vX, vX]
def Pghv91 : List Value := [vG [kf 9, vI 1], kf 10, vP 12 0, vP 12 0, vB true, vB true, vI 5, vB true, vB true, vB true, vP 12 0, vB false]
def Pghv92 : List Value := [vB true, vB true, vI 5, vI 6, vP 12 0, vP 6 0, vG [vI 5, kf 2, vU 0, kf 13], vX, vX, vX, vX, vX]
def Pghl129 : List Value := Pghv55 ++ (Pghv90 ++ (Pghv57 ++ (Pghv37 ++ (Pghv58 ++ (Pghv59 ++ (Pghv60 ++ (Pghv91 ++ (Pghv92 ++ (Pghv1 ++ (Pghv1 ++ (Pghv1 ++ Pghv2)))))))))))
def Pgho93 : Obj := oC 270360140134 [vU 1, vU 0, vU 1, vU 0, vU 0, vU 0, vU 0, vU 0, vU 0, vU 0, vU 0, vU 0, vU 0, vU 0, vU 0, vU 0, vU 0, vU 0, vU 0, vU 0, vU 0, vU 0, vU 0, vU 0, vU 0, vU 0, vU 0, vU 0, vU 0, vU 0, vU 0, vU 0, vU 0, vU 0, vU 0, vU 0, vU 0, vU 0, vU 0, vU 0, vU 0, vU 0, vU 0, vU 0, vU 0, vU 0, vU 0, vU 0, vU 0, vU 0, vU 0, vU 0, vU 0, vU 0, vU 0, vU 0, vU 0, vU 0, vU 0, vU 0, vU 0, vU 0, vU 0, vU 0, vU 0, vU 0, vU 0, vU 0, vU 0, vU 0, vU 0, vU 0, vU 0, vU 0, vU 0, vU 0, vU 0]
def Pgho94 : Obj := oC 109 [.complex .f32 1 0, vI 5, kf 2, vU 0, kf 13, vI 7]
def Pghh132 : List Obj := [Pgho5, Pgho93, Pgho94, Pgho63, Pgho64, Pgho65, Pgho13, Pgho34, Pgho66, Pgho67, oC 30 [kf 7, kf 26], oC 22 [kf 7, kf 8], Pgho77, Pgho69, Pgho70, oC 42 [vP 12 0], oC 3 [vI 1], oC 142 [vI 1, kf 13], oC 3 [kf 4], oC 3 [kf 4], Pgho78]
def Pghv95 : List Value := [kf 10, vP 10 0, vI 2, kf 4, vB true, vP 12 0, vI 7, vX, vX, vX, vX, vX]
def Pghv96 : List Value := [vG [kf 9, vI 1], kf 10, vP 12 0, vP 12 0, vB true, vB true, vI 6, vB true, vB true, vB true, vP 12 0, vB false]
def Pghv97 : List Value := [vB true, vB true, vI 6, vI 7, vP 12 0, vP 6 0, vG [vI 1, kf 4, kf 26, kf 26], vX, vX, vX, vX, vX]
def Pghl136 : List Value := Pghv55 ++ (Pghv95 ++ (Pghv57 ++ (Pghv37 ++ (Pghv58 ++ (Pghv59 ++ (Pghv60 ++ (Pghv96 ++ (Pghv97 ++ (Pghv1 ++ (Pghv1 ++ (Pghv1 ++ Pghv2)))))))))))
def Pgho98 : Obj := oC 109 [.complex .f32 1 0, vI 1, kf 4, kf 26, kf 26, vI 8]
def Pgho99 : Obj := oC 75 [kf 9, vI 1, vF 51 [] [vP 21 0, vP 22 0], kf 10, vZ, vZ, vS 14 0 2 2, vI 0, vI 2]
def Pgho100 : Obj := oC 176 [kf 9, vI 1, vF 125 [] [vP 18 0, vP 19 0, vP 20 0]]
def Pgho101 : Obj := oC 1 [vF 54 [vP 17 0] []]
def Pgho102 : Obj := oC 98 [.iface 158 (vP 17 0)]
def Pgho103 : Obj := oC 1 [vF 104 [] [vP 16 0, vP 15 0]]
def Pghh143 : List Obj := [Pgho5, Pgho93, Pgho98, Pgho63, Pgho64, Pgho65, Pgho13, Pgho34, Pgho66, Pgho67, oC 30 [kf 7, kf 26], oC 22 [kf 7, kf 8], Pgho99, Pgho69, Pgho70, oC 42 [vP 12 0], oC 48 [vI 0], Pgho100, oC 3 [vI 2], oC 22 [vU 0], Pgho101, Pgho102, Pgho103]
def Pghv104 : List Value := [kf 10, vP 10 0, vI 2, kf 4, vB true, vP 12 0, vI 8, vX, vX, vX, vX, vX]
def Pghv105 : List Value := [vG [kf 9, vI 1], kf 10, vP 12 0, vP 12 0, vB true, vB true, vI 7, vB true, vB true, vB true, vP 12 0, vB false]
def Pghv106 : List Value := [vB true, vB true, vI 7, vI 8, vP 12 0, vP 6 0, vG [vI 2, vI 2, vU 1, vU 0], vX, vX, vX, vX, vX]
def Pghl147 : List Value := Pghv55 ++ (Pghv104 ++ (Pghv57 ++ (Pghv37 ++ (Pghv58 ++ (Pghv59 ++ (Pghv60 ++ (Pghv105 ++ (Pghv106 ++ (Pghv1 ++ (Pghv1 ++ (Pghv1 ++ Pghv2)))))))))))
def Pgho107 : Obj := oC 270360140134 [vU 1, vU 0, vU 0, vU 0, vU 0, vU 0, vU 0, vU 0, vU 0, vU 0, vU 0, vU 0, vU 0, vU 0, vU 0, vU 0, vU 0, vU 0, vU 0, vU 0, vU 0, vU 0, vU 0, vU 0, vU 0, vU 0, vU 0, vU 0, vU 0, vU 0, vU 0, vU 0, vU 0, vU 0, vU 0, vU 0, vU 0, vU 0, vU 0, vU 0, vU 0, vU 0, vU 0, vU 0, vU 0, vU 0, vU 0, vU 0, vU 0, vU 0, vU 0, vU 0, vU 0, vU 0, vU 0, vU 0, vU 0, vU 0, vU 0, vU 0, vU 0, vU 0, vU 0, vU 0, vU 0, vU 0, vU 0, vU 0, vU 0, vU 0, vU 0, vU 0, vU 0, vU 0, vU 0, vU 0, vU 0]
def Pgho108 : Obj := oC 109 [.complex .f32 1 0, vI 2, vI 2, vU 1, vU 0, vI 9]
def Pgho109 : Obj := oC 75 [kf 9, vI 1, .nilFunc, kf 10, vZ, vZ, vS 14 0 2 2, vI 0, vI 0]
def Pghh151 : List Obj := [Pgho5, Pgho107, Pgho108, Pgho63, Pgho64, Pgho65, Pgho13, Pgho34, Pgho66, Pgho67, oC 30 [kf 7, kf 26], oC 22 [kf 7, kf 8], Pgho109, Pgho69, Pgho70]
def Pghv110 : List Value := [vG [kf 9, vI 1], kf 10, vP 12 0, vP 12 0, vB true, vB true, vI 8, vB true, vB true, vB true, vP 12 0, vB true]
def Pghv111 : List Value := [vB false, vB false, vI 7, vI 8, vP 12 0, vP 6 0, vG [vI 2, vI 2, vU 1, vU 0], vX, vX, vX, vX, vX]
def Pghl154 : List Value := Pghv55 ++ (Pghv104 ++ (Pghv57 ++ (Pghv37 ++ (Pghv58 ++ (Pghv59 ++ (Pghv60 ++ (Pghv110 ++ (Pghv111 ++ (Pghv1 ++ (Pghv1 ++ (Pghv1 ++ Pghv2)))))))))))
def Pghh155 : List Obj := [Pgho5, Pgho107, Pgho108, Pgho63, Pgho64, Pgho65, Pgho13, Pgho34, Pgho66, Pgho67, oC 30 [kf 7, kf 26], oC 22 [kf 7, kf 8], Pgho109, Pgho69, Pgho70]
def Pghv112 : List Value := [kf 10, vP 10 0, vI 2, kf 4, vB true, vP 12 0, vI 8, vI 0, vI 0, vX, vX, vX]
def Pghv113 : List Value := [vB false, vB false, vI 7, vI 8, vP 12 0, vP 6 0, vG [vI 2, vI 2, vU 1, vU 0], vT [vI 0, vI 0], vP 12 0, vT [vI 0, vI 0], vI 0, vI 0]
def Pghl158 : List Value := Pghv55 ++ (Pghv112 ++ (Pghv57 ++ (Pghv37 ++ (Pghv58 ++ (Pghv59 ++ (Pghv60 ++ (Pghv110 ++ (Pghv113 ++ (Pghv1 ++ (Pghv1 ++ (Pghv1 ++ Pghv2)))))))))))
def Pghh159 : List Obj := [Pgho5, Pgho107, Pgho108, Pgho63, Pgho64, Pgho65, Pgho13, Pgho34, Pgho66, Pgho67, oC 30 [kf 7, kf 26], oC 22 [kf 7, kf 8], Pgho109, Pgho69, Pgho70]
def Pghv114 : List Value := [vI 0, vB false, vB false, vI 0, vB false, vB false, vX, vX, vX, vX, vX, vX]
def Pghl161 : List Value := Pghv55 ++ (Pghv112 ++ (Pghv57 ++ (Pghv37 ++ (Pghv58 ++ (Pghv59 ++ (Pghv60 ++ (Pghv110 ++ (Pghv113 ++ (Pghv114 ++ (Pghv1 ++ (Pghv1 ++ Pghv2)))))))))))
def Pghh162 : List Obj := [Pgho5, Pgho107, Pgho108, Pgho63, Pgho64, Pgho65, Pgho13, Pgho34, Pgho66, Pgho67, oC 30 [kf 7, kf 26], oC 22 [kf 7, kf 8], Pgho109, Pgho69, Pgho70]
def Pghl163 : List Value := Pghv55 ++ (Pghv112 ++ (Pghv57 ++ (Pghv37 ++ (Pghv58 ++ (Pghv59 ++ (Pghv60 ++ (Pghv110 ++ (Pghv113 ++ (Pghv114 ++ (Pghv1 ++ (Pghv1 ++ Pghv2)))))))))))
def Pghh164 : List Obj := [Pgho5, Pgho107, Pgho108, Pgho63, Pgho64, Pgho65, Pgho13, Pgho34, Pgho66, Pgho67, oC 30 [kf 7, kf 26], oC 22 [kf 7, kf 8], Pgho109, Pgho69, Pgho70]
theorem Pghp0 : PgS PghO (seqL (pgC 0)) Pg0 [] .normal Pghl3 Pghh4 := pgS_ev [] (by decide +kernel)
theorem Pghp1 : PgS PghO (seqL (pgC 1)) Pghl3 Pghh4 .normal Pghl7 Pghh9 := pgS_ev [0] (by decide +kernel)
theorem Pghp2 : PgS PghO (seqL (pgC 2)) Pghl7 Pghh9 .normal Pghl12 Pghh21 := pgS_ev [0, 13, 14, 15, 16, 20, 22, 23, 30, 31, 32] (by decide +kernel)
theorem Pghp3 : PgS PghO (seqL (seqL (pgC 3))) Pghl12 Pghh21 .normal Pghl23 Pghh24 := pgS_ev [0, 1, 2, 3, 4, 5, 6, 7, 8, 9, 10] (by decide +kernel)
theorem Pghp4 : PgS PghO (seqR (seqL (pgC 3))) Pghl23 Pghh24 .normal Pghl25 Pghh26 := pgS_ev [0, 1, 2, 3, 4, 5, 6, 7, 8, 9, 10] (by decide +kernel)
theorem Pghp5 : PgS PghO (seqL (pgC 4)) Pghl25 Pghh26 .normal Pghl29 Pghh30 := pgS_ev [0, 1, 2, 3, 4, 5, 6, 7, 8, 9, 10] (by decide +kernel)
theorem Pghp6 : PgS PghO (seqL (pgC 5)) Pghl29 Pghh30 .normal Pghl32 Pghh33 := pgS_ev [0, 1, 2, 3, 4, 5, 6, 7, 8, 9, 10, 11] (by decide +kernel)
theorem Pghp7 : PgS PghO (seqL (seqL (pgC 6))) Pghl32 Pghh33 .normal Pghl35 Pghh36 := pgS_ev [0, 1, 2, 3, 4, 5, 6, 7, 8, 9, 10, 11] (by decide +kernel)
theorem Pghp8 : PgS PghO (inL (inB (seqR (seqL (pgC 6))))) Pghl35 Pghh36 .normal Pghl42 Pghh46 := pgS_ev [0, 1, 2, 3, 4, 5, 6, 7, 8, 9, 10, 11, 12] (by decide +kernel)
theorem Pghp9 : PgS PghO (inL (inB (seqR (seqL (pgC 6))))) Pghl42 Pghh46 .normal Pghl52 Pghh56 := pgS_ev [0, 1, 2, 3, 4, 5, 6, 7, 8, 9, 10, 11, 13] (by decide +kernel)
theorem Pghp10 : PgS PghO (inL (inB (seqR (seqL (pgC 6))))) Pghl52 Pghh56 (.exit 0) Pghl58 Pghh59 := pgS_ev [0, 1, 2, 3, 4, 5, 6, 7, 8, 9, 10, 11, 12] (by decide +kernel)
theorem Pghp11 : PgS PghO (seqL (pgC 7)) Pghl58 Pghh59 .normal Pghl63 Pghh69 := pgS_ev [0, 1, 2, 3, 4, 5, 6, 7, 8, 9, 10, 11, 12, 14, 17, 18, 22, 23, 24, 25, 26, 27, 28, 29] (by decide +kernel)
theorem Pghp12 : PgS PghO (seqL (seqL (pgC 8))) Pghl63 Pghh69 .normal Pghl71 Pghh72 := pgS_ev [0, 1, 2, 3, 4, 5, 6, 7, 8, 9, 10, 11, 12, 13, 14, 15, 16, 17, 18, 19, 20, 21, 22, 23] (by decide +kernel)
theorem Pghp13 : PgS PghO (inL (inB (seqR (seqL (pgC 8))))) Pghl71 Pghh72 .normal Pghl76 Pghh82 := pgS_ev [0, 1, 2, 3, 4, 5, 6, 7, 8, 9, 10, 11, 12, 15, 34, 35, 36] (by decide +kernel)
theorem Pghp14 : PgS PghO (inL (inB (seqR (seqL (pgC 8))))) Pghl76 Pghh82 .normal Pghl91 Pghh101 := pgS_ev [0, 1, 2, 3, 4, 6, 7, 8, 9, 10, 11, 12, 13, 33, 35, 36, 37, 38, 39, 56, 57, 58] (by decide +kernel)
theorem Pghp15 : PgS PghO (inL (inB (seqR (seqL (pgC 8))))) Pghl91 Pghh101 .normal Pghl105 Pghh110 := pgS_ev [0, 1, 2, 3, 4, 5, 6, 7, 8, 9, 10, 11, 12, 13, 14, 15, 16, 17, 18, 26, 27] (by decide +kernel)
theorem Pghp16 : PgS PghO (inL (inB (seqR (seqL (pgC 8))))) Pghl105 Pghh110 .normal Pghl114 Pghh118 := pgS_ev [0, 1, 2, 3, 4, 5, 6, 7, 8, 9, 10, 11, 12, 13, 14, 15, 16, 25, 26, 27] (by decide +kernel)
theorem Pghp17 : PgS PghO (inL (inB (seqR (seqL (pgC 8))))) Pghl114 Pghh118 .normal Pghl122 Pghh125 := pgS_ev [0, 1, 2, 3, 4, 5, 6, 7, 8, 9, 10, 11, 12, 13, 14, 24, 25, 26, 27, 44, 45, 46] (by decide +kernel)
theorem Pghp18 : PgS PghO (inL (inB (seqR (seqL (pgC 8))))) Pghl122 Pghh125 .normal Pghl129 Pghh132 := pgS_ev [0, 1, 2, 3, 4, 5, 6, 7, 8, 9, 10, 11, 12, 13, 14, 15, 16, 17, 18, 26, 27] (by decide +kernel)
theorem Pghp19 : PgS PghO (inL (inB (seqR (seqL (pgC 8))))) Pghl129 Pghh132 .normal Pghl136 Pghh143 := pgS_ev [0, 1, 2, 3, 4, 5, 6, 7, 8, 9, 10, 11, 12, 13, 14, 27, 28, 31, 32, 33, 34, 35, 36] (by decide +kernel)
theorem Pghp20 : PgS PghO (inL (inB (seqR (seqL (pgC 8))))) Pghl136 Pghh143 .normal Pghl147 Pghh151 := pgS_ev [0, 1, 2, 3, 4, 5, 6, 7, 8, 9, 10, 11, 12, 13, 14] (by decide +kernel)
theorem Pghp21 : PgS PghO (inL (inB (seqR (seqL (pgC 8))))) Pghl147 Pghh151 (.exit 2) Pghl154 Pghh155 := pgS_ev [0, 1, 2, 3, 4, 5, 6, 7, 8, 9, 10, 11, 12, 13, 14] (by decide +kernel)
theorem Pghp22 : PgS PghO (seqL (pgC 9)) Pghl154 Pghh155 .normal Pghl158 Pghh159 := pgS_ev [0, 1, 2, 3, 4, 5, 6, 7, 8, 9, 10, 11, 12, 13, 14] (by decide +kernel)
theorem Pghp23 : PgS PghO (seqL (seqL (pgC 10))) Pghl158 Pghh159 .normal Pghl161 Pghh162 := pgS_ev [0, 1, 2, 3, 4, 5, 6, 7, 8, 9, 10, 11, 12, 13, 14] (by decide +kernel)
theorem Pghp24 : PgS PghO (seqR (seqL (pgC 10))) Pghl161 Pghh162 .normal Pghl163 Pghh164 := pgS_ev [0, 1, 2, 3, 4, 5, 6, 7, 8, 9, 10, 11, 12, 13, 14] (by decide +kernel)
theorem Pghw : shrOk (fun j => decide (j < 11)) [(kf 10, kf 10), (kf 7, kf 11), (kf 26, kf 12), (kf 12, kf 15), (kf 13, kf 16), (kf 35, kf 13), (kf 26, kf 14)] 0 [0, 1, 2, 6, 9, 10] Pghl163 Pghh164 Pg2A Pg2H = true := by decide +kernel
def Pgie : List Ent := [⟨.conv 5 3, [kf 5], kf 16⟩,
  ⟨.bin .rem 3, [kf 16, vI 128], kf 17⟩,
  ⟨.bin .add 3, [vI 1, kf 17], kf 9⟩,
  ⟨.bin .geq 3, [kf 9, vI 1], .bool true⟩,
  ⟨.bin .leq 3, [kf 9, vI 4096], .bool true⟩,
  ⟨.bin .mul 3, [vI 5, kf 9], kf 18⟩,
  ⟨.bin .add 3, [vI 82, kf 18], kf 19⟩,
  ⟨.bin .add 3, [kf 19, kf 9], kf 1⟩,
  ⟨.bin .add 3, [kf 9, vI 64], kf 20⟩,
  ⟨.bin .sub 3, [kf 20, vI 1], kf 21⟩,
  ⟨.bin .quo 3, [kf 21, vI 64], vI 2⟩,
  ⟨.bin .add 3, [kf 1, vI 2], kf 3⟩,
  ⟨.bin .add 3, [kf 3, vI 2], kf 0⟩,
  ⟨.bin .lss 3, [kf 0, vI 1], .bool false⟩,
  ⟨.bin .gtr 3, [kf 0, vI 65536], .bool false⟩,
  ⟨.bin .geq 3, [vI 0, kf 0], .bool false⟩,
  ⟨.bin .lss 3, [kf 9, vI 1], .bool false⟩,
  ⟨.bin .gtr 3, [kf 9, vI 4096], .bool false⟩,
  ⟨.bin .mul 3, [vI 8192, kf 9], kf 22⟩,
  ⟨.bin .add 3, [kf 22, vI 0], kf 22⟩,
  ⟨.bin .add 3, [vI 0, kf 9], kf 9⟩,
  ⟨.bin .mul 3, [vI 6, kf 9], kf 23⟩,
  ⟨.bin .add 3, [vI 82, kf 23], kf 1⟩,
  ⟨.bin .add 3, [kf 9, vI 63], kf 21⟩,
  ⟨.bin .add 3, [kf 1, vI 4], kf 0⟩,
  ⟨.conv 5 3, [kf 6], kf 24⟩,
  ⟨.bin .rem 3, [kf 24, kf 9], kf 25⟩,
  ⟨.bin .add 3, [vI 1, kf 25], kf 10⟩,
  ⟨.bin .lss 3, [vI 0, kf 9], .bool true⟩,
  ⟨.bin .sub 3, [kf 9, vI 0], kf 9⟩,
  ⟨.bin .and 22, [kf 7, .int .u64 18446744073709551615], kf 26⟩,
  ⟨.bin .add 3, [kf 1, vI 0], kf 1⟩,
  ⟨.bin .lss 3, [kf 3, vI 0], .bool false⟩,
  ⟨.bin .geq 3, [kf 3, kf 0], .bool false⟩,
  ⟨.bin .geq 3, [kf 3, vI 0], .bool true⟩,
  ⟨.bin .lss 3, [kf 3, kf 0], .bool true⟩,
  ⟨.bin .lss 3, [vI 64, kf 9], .bool true⟩,
  ⟨.bin .sub 3, [kf 9, vI 64], kf 15⟩,
  ⟨.bin .and 22, [kf 8, kf 11], kf 27⟩,
  ⟨.bin .add 3, [kf 1, vI 1], kf 2⟩,
  ⟨.bin .add 3, [kf 2, vI 2], kf 4⟩,
  ⟨.bin .lss 3, [kf 4, vI 0], .bool false⟩,
  ⟨.bin .geq 3, [kf 4, kf 0], .bool false⟩,
  ⟨.bin .geq 3, [kf 4, vI 0], .bool true⟩,
  ⟨.bin .lss 3, [kf 4, kf 0], .bool true⟩,
  ⟨.bin .lss 3, [vI 128, kf 9], .bool false⟩,
  ⟨.bin .lss 3, [kf 10, vI 1], .bool false⟩,
  ⟨.bin .gtr 3, [kf 10, vI 4096], .bool false⟩,
  ⟨.bin .neq 38, [vG [kf 9, vI 1], vG [kf 9, vI 1]], .bool false⟩,
  ⟨.bin .geq 3, [vI 2, kf 0], .bool false⟩,
  ⟨.bin .gtr 3, [kf 10, kf 9], .bool false⟩,
  ⟨.bin .mul 3, [vI 8192, kf 10], kf 28⟩,
  ⟨.bin .lss 3, [kf 22, kf 28], .bool false⟩,
  ⟨.bin .neq 3, [kf 22, kf 22], .bool false⟩,
  ⟨.bin .neq 3, [kf 9, kf 9], .bool false⟩,
  ⟨.bin .lss 3, [kf 9, kf 9], .bool false⟩,
  ⟨.bin .gtr 3, [kf 9, kf 9], .bool false⟩,
  ⟨.bin .sub 3, [kf 9, kf 9], kf 29⟩,
  ⟨.bin .gtr 3, [kf 9, kf 10], .bool true⟩,
  ⟨.bin .add 3, [vI 0, kf 10], kf 10⟩,
  ⟨.bin .sub 3, [kf 9, kf 10], kf 30⟩,
  ⟨.bin .mul 3, [vI 8192, kf 30], kf 31⟩,
  ⟨.bin .add 3, [kf 31, kf 10], kf 32⟩,
  ⟨.bin .add 3, [kf 29, kf 30], kf 30⟩,
  ⟨.bin .add 3, [kf 3, vI 0], kf 3⟩,
  ⟨.conv 3 22, [kf 10], kf 33⟩,
  ⟨.conv 3 22, [kf 30], kf 34⟩,
  ⟨.bin .lss 3, [kf 1, vI 0], .bool false⟩,
  ⟨.bin .geq 3, [kf 1, kf 0], .bool false⟩,
  ⟨.bin .add 22, [.int .u64 0, kf 12], kf 12⟩,
  ⟨.bin .and 22, [kf 26, kf 12], kf 35⟩,
  ⟨.bin .eql 22, [kf 35, .int .u64 0], .bool true⟩,
  ⟨.bin .add 3, [kf 3, vI 1], kf 4⟩,
  ⟨.bin .lss 3, [kf 2, vI 0], .bool false⟩,
  ⟨.bin .geq 3, [kf 2, kf 0], .bool false⟩,
  ⟨.bin .add 22, [.int .u64 0, kf 13], kf 13⟩,
  ⟨.bin .and 22, [kf 27, kf 13], kf 36⟩,
  ⟨.bin .eql 22, [kf 36, .int .u64 0], .bool false⟩,
  ⟨.un .neg, [kf 36], kf 37⟩,
  ⟨.bin .add 22, [kf 27, kf 37], kf 38⟩]
def Pgif : List FnEnt := [⟨14, [], .bool true⟩,
  ⟨44, [kf 9, vZ], vA⟩,
  ⟨5, [kf 9], .int .u64 18446744073709551615⟩,
  ⟨5, [kf 15], kf 11⟩]
def PgiO : Orc := orcS Pgie Pgif 4 rdG (pgMk 10 13 12)
def Pgiv0 : List Value := [kf 5, kf 6, kf 7, kf 8, vX, vX, vX, vX, vB false, vX, vX, vX]
def Pgiv1 : List Value := [vX, vX, vX, vX, vX, vX, vX, vX, vX, vX, vX, vX]
def Pgiv2 : List Value := [vX, vX, vX, vX, vX, vX]
def Pgil3 : List Value := Pgiv0 ++ (Pgiv1 ++ (Pgiv1 ++ (Pgiv1 ++ (Pgiv1 ++ (Pgiv1 ++ (Pgiv1 ++ (Pgiv1 ++ (Pgiv1 ++ (Pgiv1 ++ (Pgiv1 ++ (Pgiv1 ++ Pgiv2)))))))))))
def Pgih4 : List Obj := []
def Pgiv3 : List Value := [kf 5, kf 6, kf 7, kf 8, vX, vX, vX, vX, vB false, vP 0 0, vX, vX]
def Pgiv4 : List Value := [kf 5, kf 16, kf 17, kf 9, vG [kf 9, vI 1, vZ], vX, vX, vX, vX, vX, vX, vX]
def Pgil7 : List Value := Pgiv3 ++ (Pgiv1 ++ (Pgiv4 ++ (Pgiv1 ++ (Pgiv1 ++ (Pgiv1 ++ (Pgiv1 ++ (Pgiv1 ++ (Pgiv1 ++ (Pgiv1 ++ (Pgiv1 ++ (Pgiv1 ++ Pgiv2)))))))))))
def Pgio5 : Obj := oC 25 [kf 9, vI 1, vZ]
def Pgih9 : List Obj := [Pgio5]
def Pgiv6 : List Value := [kf 5, kf 6, kf 7, kf 8, vX, vX, vX, vX, vB false, vP 0 0, vP 7 0, vP 10 0]
def Pgiv7 : List Value := [kf 5, kf 16, kf 17, kf 9, vG [kf 9, vI 1, vZ], vT [vP 7 0, vP 10 0], vG [kf 9, vI 1, vZ], vT [vP 7 0, vP 10 0], vP 7 0, vP 10 0, vX, vX]
def Pgil12 : List Value := Pgiv6 ++ (Pgiv1 ++ (Pgiv7 ++ (Pgiv1 ++ (Pgiv1 ++ (Pgiv1 ++ (Pgiv1 ++ (Pgiv1 ++ (Pgiv1 ++ (Pgiv1 ++ (Pgiv1 ++ (Pgiv1 ++ Pgiv2)))))))))))
def Pgio8 : Obj := oC 4 [vU 1, vU 0, vU 0, vU 0, vU 0, vU 0, vU 0, vU 0, vU 0, vU 0, vU 0, vU 0, vU 0, vU 0, vU 0, vU 0, vU 0, vU 0, vU 0, vU 0, vU 0, vU 0, vU 0, vU 0, vU 0, vU 0, vU 0, vU 0, vU 0, vU 0, vU 0, vU 0, vU 0, vU 0, vU 0, vU 0, vU 0, vU 0, vU 0, vU 0, vU 0, vU 0, vU 0, vU 0, vU 0, vU 0, vU 0, vU 0, vU 0, vU 0, vU 0, vU 0, vU 0, vU 0, vU 0, vU 0, vU 0, vU 0, vU 0, vU 0, vU 0, vU 0, vU 0, vU 0, vU 0, vU 0, vU 0, vU 0, vU 0, vU 0, vU 0, vU 0, vU 0, vU 0, vU 0, vU 0, vU 0]
def Pgio9 : Obj := oC 109 [.complex .f32 1 0, vI 0, vI 0, vU 0, vU 0, vI 0]
def Pgio10 : Obj := oC 147 [vP 5 0, vI 1]
def Pgio11 : Obj := oC 119 [kf 9, vZ, vI 1, vP 3 0, vS 6 0 1 1, kf 9]
def Pgio12 : Obj := oC 167 [kf 22, .int .u32 0, vI 0, kf 9, vN, vN]
def Pgio13 : Obj := oC 86 [kf 9, vI 1, vP 2 0, vP 4 0]
def Pgio14 : Obj := oC 64 [.complex .f32 8 0, vI 0, vI 0, vU 0, vU 0, vI 0]
def Pgio15 : Obj := oC 40 [vP 9 0, vA, kf 9, vI 1]
def Pgih21 : List Obj := [Pgio5, Pgio8, Pgio9, Pgio10, Pgio11, Pgio12, oC 116 [vI 0, kf 9], Pgio13, Pgio8, Pgio14, Pgio15]
def Pgiv16 : List Value := [kf 5, kf 16, kf 17, kf 9, vG [kf 9, vI 1, vZ], vT [vP 7 0, vP 10 0], vG [kf 9, vI 1, vZ], vT [vP 7 0, vP 10 0], vP 7 0, vP 10 0, vP 7 0, vB false]
def Pgil23 : List Value := Pgiv6 ++ (Pgiv1 ++ (Pgiv16 ++ (Pgiv1 ++ (Pgiv1 ++ (Pgiv1 ++ (Pgiv1 ++ (Pgiv1 ++ (Pgiv1 ++ (Pgiv1 ++ (Pgiv1 ++ (Pgiv1 ++ Pgiv2)))))))))))
def Pgih24 : List Obj := [Pgio5, Pgio8, Pgio9, Pgio10, Pgio11, Pgio12, oC 116 [vI 0, kf 9], Pgio13, Pgio8, Pgio14, Pgio15]
def Pgil25 : List Value := Pgiv6 ++ (Pgiv1 ++ (Pgiv16 ++ (Pgiv1 ++ (Pgiv1 ++ (Pgiv1 ++ (Pgiv1 ++ (Pgiv1 ++ (Pgiv1 ++ (Pgiv1 ++ (Pgiv1 ++ (Pgiv1 ++ Pgiv2)))))))))))
def Pgih26 : List Obj := [Pgio5, Pgio8, Pgio9, Pgio10, Pgio11, Pgio12, oC 116 [vI 0, kf 9], Pgio13, Pgio8, Pgio14, Pgio15]
def Pgiv17 : List Value := [kf 10, vX, vX, vX, vX, vX, vX, vX, vX, vX, vX, vX]
def Pgiv18 : List Value := [kf 6, kf 24, vP 0 0, kf 9, kf 25, kf 10, vX, vX, vX, vX, vX, vX]
def Pgil29 : List Value := Pgiv6 ++ (Pgiv17 ++ (Pgiv16 ++ (Pgiv18 ++ (Pgiv1 ++ (Pgiv1 ++ (Pgiv1 ++ (Pgiv1 ++ (Pgiv1 ++ (Pgiv1 ++ (Pgiv1 ++ (Pgiv1 ++ Pgiv2)))))))))))
def Pgih30 : List Obj := [Pgio5, Pgio8, Pgio9, Pgio10, Pgio11, Pgio12, oC 116 [vI 0, kf 9], Pgio13, Pgio8, Pgio14, Pgio15]
def Pgiv19 : List Value := [kf 10, vP 11 0, vX, vX, vX, vX, vX, vX, vX, vX, vX, vX]
def Pgil32 : List Value := Pgiv6 ++ (Pgiv19 ++ (Pgiv16 ++ (Pgiv18 ++ (Pgiv1 ++ (Pgiv1 ++ (Pgiv1 ++ (Pgiv1 ++ (Pgiv1 ++ (Pgiv1 ++ (Pgiv1 ++ (Pgiv1 ++ Pgiv2)))))))))))
def Pgih33 : List Obj := [Pgio5, Pgio8, Pgio9, Pgio10, Pgio11, Pgio12, oC 116 [vI 0, kf 9], Pgio13, Pgio8, Pgio14, Pgio15, oC 30 [vU 0, vU 0]]
def Pgiv20 : List Value := [kf 10, vP 11 0, vI 0, vX, vX, vX, vX, vX, vX, vX, vX, vX]
def Pgil35 : List Value := Pgiv6 ++ (Pgiv20 ++ (Pgiv16 ++ (Pgiv18 ++ (Pgiv1 ++ (Pgiv1 ++ (Pgiv1 ++ (Pgiv1 ++ (Pgiv1 ++ (Pgiv1 ++ (Pgiv1 ++ (Pgiv1 ++ Pgiv2)))))))))))
def Pgih36 : List Obj := [Pgio5, Pgio8, Pgio9, Pgio10, Pgio11, Pgio12, oC 116 [vI 0, kf 9], Pgio13, Pgio8, Pgio14, Pgio15, oC 30 [vU 0, vU 0]]
def Pgiv21 : List Value := [kf 10, vP 11 0, vI 1, kf 3, vB true, vX, vX, vX, vX, vX, vX, vX]
def Pgiv22 : List Value := [kf 6, kf 24, vP 0 0, kf 9, kf 25, kf 10, vI 0, vI 0, vP 0 0, kf 9, vB true, vI 0]
def Pgiv23 : List Value := [vI 1, vI 0, kf 7, kf 8, vS 12 0 2 2, vI 0, vP 12 0, kf 7, vP 0 0, kf 9, vI 0, vI 0]
def Pgiv24 : List Value := [kf 9, vU 18446744073709551615, kf 26, vP 11 0, vT [kf 3, vB true], vP 10 0, vP 10 0, vP 10 2, vG [kf 9, vI 1], vI 0, vT [kf 3, vB true], kf 3]
def Pgiv25 : List Value := [vB true, vP 7 0, vP 10 0, kf 3, vI 0, vP 11 0, kf 26, vB true, vB false, vX, vX, vX]
def Pgil42 : List Value := Pgiv6 ++ (Pgiv21 ++ (Pgiv16 ++ (Pgiv22 ++ (Pgiv23 ++ (Pgiv24 ++ (Pgiv25 ++ (Pgiv1 ++ (Pgiv1 ++ (Pgiv1 ++ (Pgiv1 ++ (Pgiv1 ++ Pgiv2)))))))))))
def Pgio26 : Obj := oC 270000004 [vU 1, vU 0, vU 0, vU 0, vU 0, vU 0, vU 0, vU 0, vU 0, vU 0, vU 0, vU 0, vU 0, vU 0, vU 0, vU 0, vU 0, vU 0, vU 0, vU 0, vU 0, vU 0, vU 0, vU 0, vU 0, vU 0, vU 0, vU 0, vU 0, vU 0, vU 0, vU 0, vU 0, vU 0, vU 0, vU 0, vU 0, vU 0, vU 0, vU 0, vU 0, vU 0, vU 0, vU 0, vU 0, vU 0, vU 0, vU 0, vU 0, vU 0, vU 0, vU 0, vU 0, vU 0, vU 0, vU 0, vU 0, vU 0, vU 0, vU 0, vU 0, vU 0, vU 0, vU 0, vU 0, vU 0, vU 0, vU 0, vU 0, vU 0, vU 0, vU 0, vU 0, vU 0, vU 0, vU 0, vU 0]
def Pgio27 : Obj := oC 109 [.complex .f32 1 0, vI 2, kf 3, vU 0, kf 26, vI 1]
def Pgio28 : Obj := oC 64 [.complex .f32 8 0, vI 2, kf 3, vU 0, kf 26, vI 1]
def Pgih46 : List Obj := [Pgio5, Pgio26, Pgio27, Pgio10, Pgio11, Pgio12, oC 116 [vI 0, kf 9], Pgio13, Pgio26, Pgio28, Pgio15, oC 30 [kf 26, vU 0], oC 22 [kf 7, kf 8]]
def Pgiv29 : List Value := [kf 10, vP 11 0, vI 2, kf 4, vB true, vX, vX, vX, vX, vX, vX, vX]
def Pgiv30 : List Value := [kf 6, kf 24, vP 0 0, kf 9, kf 25, kf 10, vI 1, vI 64, vP 0 0, kf 9, vB true, vI 1]
def Pgiv31 : List Value := [vI 2, vI 1, kf 7, kf 8, vS 12 0 2 2, vI 1, vP 12 1, kf 8, vP 0 0, kf 9, vI 1, vI 64]
def Pgiv32 : List Value := [kf 15, kf 11, kf 27, vP 11 1, vT [kf 4, vB true], vP 10 0, vP 10 0, vP 10 2, vG [kf 9, vI 1], vI 1, vT [kf 4, vB true], kf 4]
def Pgiv33 : List Value := [vB true, vP 7 0, vP 10 0, kf 4, vI 1, vP 11 1, kf 27, vB true, vB false, vX, vX, vX]
def Pgil52 : List Value := Pgiv6 ++ (Pgiv29 ++ (Pgiv16 ++ (Pgiv30 ++ (Pgiv31 ++ (Pgiv32 ++ (Pgiv33 ++ (Pgiv1 ++ (Pgiv1 ++ (Pgiv1 ++ (Pgiv1 ++ (Pgiv1 ++ Pgiv2)))))))))))
def Pgio34 : Obj := oC 280270000004 [vU 1, vU 0, vU 0, vU 0, vU 0, vU 0, vU 0, vU 0, vU 0, vU 0, vU 0, vU 0, vU 0, vU 0, vU 0, vU 0, vU 0, vU 0, vU 0, vU 0, vU 0, vU 0, vU 0, vU 0, vU 0, vU 0, vU 0, vU 0, vU 0, vU 0, vU 0, vU 0, vU 0, vU 0, vU 0, vU 0, vU 0, vU 0, vU 0, vU 0, vU 0, vU 0, vU 0, vU 0, vU 0, vU 0, vU 0, vU 0, vU 0, vU 0, vU 0, vU 0, vU 0, vU 0, vU 0, vU 0, vU 0, vU 0, vU 0, vU 0, vU 0, vU 0, vU 0, vU 0, vU 0, vU 0, vU 0, vU 0, vU 0, vU 0, vU 0, vU 0, vU 0, vU 0, vU 0, vU 0, vU 0]
def Pgio35 : Obj := oC 109 [.complex .f32 1 0, vI 2, kf 4, vU 0, kf 27, vI 2]
def Pgio36 : Obj := oC 64 [.complex .f32 8 0, vI 2, kf 4, vU 0, kf 27, vI 2]
def Pgih56 : List Obj := [Pgio5, Pgio34, Pgio35, Pgio10, Pgio11, Pgio12, oC 116 [vI 0, kf 9], Pgio13, Pgio34, Pgio36, Pgio15, oC 30 [kf 26, kf 27], oC 22 [kf 7, kf 8]]
def Pgiv37 : List Value := [kf 6, kf 24, vP 0 0, kf 9, kf 25, kf 10, vI 2, vI 128, vP 0 0, kf 9, vB false, vI 1]
def Pgil58 : List Value := Pgiv6 ++ (Pgiv29 ++ (Pgiv16 ++ (Pgiv37 ++ (Pgiv31 ++ (Pgiv32 ++ (Pgiv33 ++ (Pgiv1 ++ (Pgiv1 ++ (Pgiv1 ++ (Pgiv1 ++ (Pgiv1 ++ Pgiv2)))))))))))
def Pgih59 : List Obj := [Pgio5, Pgio34, Pgio35, Pgio10, Pgio11, Pgio12, oC 116 [vI 0, kf 9], Pgio13, Pgio34, Pgio36, Pgio15, oC 30 [kf 26, kf 27], oC 22 [kf 7, kf 8]]
def Pgiv38 : List Value := [kf 10, vP 11 0, vI 2, kf 4, vB true, vP 15 0, vX, vX, vX, vX, vX, vX]
def Pgiv39 : List Value := [vB true, vP 7 0, vP 10 0, kf 4, vI 1, vP 11 1, kf 27, vB true, vB false, vP 10 0, vP 10 0, vP 10 2]
def Pgiv40 : List Value := [vG [kf 9, vI 1], kf 10, vP 15 0, vX, vX, vX, vX, vX, vX, vX, vX, vX]
def Pgil63 : List Value := Pgiv6 ++ (Pgiv38 ++ (Pgiv16 ++ (Pgiv37 ++ (Pgiv31 ++ (Pgiv32 ++ (Pgiv39 ++ (Pgiv40 ++ (Pgiv1 ++ (Pgiv1 ++ (Pgiv1 ++ (Pgiv1 ++ Pgiv2)))))))))))
def Pgio41 : Obj := oC 75 [kf 9, vI 1, vF 51 [] [vP 22 0, vP 23 0], kf 10, vZ, vZ, vZ, vI 0, vI 2]
def Pgio42 : Obj := oC 100 [kf 9, vI 1, vF 75 [] [vP 18 0, vP 19 0, vP 20 0, vP 21 0]]
def Pgio43 : Obj := oC 102 [vF 53 [] [vP 17 0]]
def Pgio44 : Obj := oC 98 [.iface 77 (vP 16 0)]
def Pgio45 : Obj := oC 1 [vF 32 [] [vP 14 0, vP 13 0]]
def Pgih69 : List Obj := [Pgio5, Pgio34, Pgio35, Pgio10, Pgio11, Pgio12, oC 116 [vI 0, kf 9], Pgio13, Pgio34, Pgio36, Pgio15, oC 30 [kf 26, kf 27], oC 22 [kf 7, kf 8], oC 3 [kf 10], oC 42 [vP 15 0], Pgio41, Pgio42, oC 77 [vP 16 0], oC 3 [vI 2], oC 22 [vU 0], oC 22 [vU 1], Pgio43, Pgio44, Pgio45]
def Pgiv46 : List Value := [kf 10, vP 11 0, vI 2, kf 4, vB true, vP 15 0, vI 0, vX, vX, vX, vX, vX]
def Pgil71 : List Value := Pgiv6 ++ (Pgiv46 ++ (Pgiv16 ++ (Pgiv37 ++ (Pgiv31 ++ (Pgiv32 ++ (Pgiv39 ++ (Pgiv40 ++ (Pgiv1 ++ (Pgiv1 ++ (Pgiv1 ++ (Pgiv1 ++ Pgiv2)))))))))))
def Pgih72 : List Obj := [Pgio5, Pgio34, Pgio35, Pgio10, Pgio11, Pgio12, oC 116 [vI 0, kf 9], Pgio13, Pgio34, Pgio36, Pgio15, oC 30 [kf 26, kf 27], oC 22 [kf 7, kf 8], oC 3 [kf 10], oC 42 [vP 15 0], Pgio41, Pgio42, oC 77 [vP 16 0], oC 3 [vI 2], oC 22 [vU 0], oC 22 [vU 1], Pgio43, Pgio44, Pgio45]
def Pgiv47 : List Value := [kf 10, vP 11 0, vI 2, kf 4, vB true, vP 13 0, vI 1, vX, vX, vX, vX, vX]
def Pgiv48 : List Value := [vG [kf 9, vI 1], kf 10, vP 13 0, vP 13 0, vB true, vB true, vI 0, vB true, vB true, vB true, vP 13 0, vB false]
def Pgiv49 : List Value := [vB true, vB true, vI 0, vI 1, vP 13 0, vP 7 0, vG [vI 3, vI 2, vU 0, vU 1], vX, vX, vX, vX, vX]
def Pgil76 : List Value := Pgiv6 ++ (Pgiv47 ++ (Pgiv16 ++ (Pgiv37 ++ (Pgiv31 ++ (Pgiv32 ++ (Pgiv39 ++ (Pgiv48 ++ (Pgiv49 ++ (Pgiv1 ++ (Pgiv1 ++ (Pgiv1 ++ Pgiv2)))))))))))
def Pgio50 : Obj := oC 280270000004 [vU 1, vU 0, vU 1, vU 0, vU 0, vU 0, vU 0, vU 0, vU 0, vU 0, vU 0, vU 0, vU 0, vU 0, vU 0, vU 0, vU 0, vU 0, vU 0, vU 0, vU 0, vU 0, vU 0, vU 0, vU 0, vU 0, vU 0, vU 0, vU 0, vU 0, vU 0, vU 0, vU 0, vU 0, vU 0, vU 0, vU 0, vU 0, vU 0, vU 0, vU 0, vU 0, vU 0, vU 0, vU 0, vU 0, vU 0, vU 0, vU 0, vU 0, vU 0, vU 0, vU 0, vU 0, vU 0, vU 0, vU 0, vU 0, vU 0, vU 0, vU 0, vU 0, vU 0, vU 0, vU 0, vU 0, vU 0, vU 0, vU 0, vU 0, vU 0, vU 0, vU 0, vU 0, vU 0, vU 0, vU 0]
def Pgio51 : Obj := oC 109 [.complex .f32 1 0, vI 3, vI 2, vU 0, vU 1, vI 3]
def Pgio52 : Obj := oC 75 [kf 9, vI 1, vF 55 [] [vP 15 0, vP 16 0, vP 14 0], kf 10, vZ, vZ, vZ, vI 0, vI 2]
def Pgio53 : Obj := oC 80 [vF 34 [vP 13 0] []]
def Pgio54 : Obj := oC 81 [vF 35 [vP 13 0] []]
def Pgih82 : List Obj := [Pgio5, Pgio50, Pgio51, Pgio10, Pgio11, Pgio12, oC 116 [vI 0, kf 9], Pgio13, Pgio34, Pgio36, Pgio15, oC 30 [kf 26, kf 27], oC 22 [kf 7, kf 8], Pgio52, oC 3 [kf 10], Pgio53, Pgio54]
def Pgiv55 : List Value := [kf 5, kf 6, kf 7, kf 8, vX, vX, vX, vX, vB false, vP 0 0, vP 6 0, vP 9 0]
def Pgiv56 : List Value := [kf 10, vP 10 0, vI 2, kf 4, vB true, vP 12 0, vI 2, vX, vX, vX, vX, vX]
def Pgiv57 : List Value := [kf 5, kf 16, kf 17, kf 9, vG [kf 9, vI 1, vZ], vT [vP 6 0, vP 9 0], vG [kf 9, vI 1, vZ], vT [vP 6 0, vP 9 0], vP 6 0, vP 9 0, vP 6 0, vB false]
def Pgiv58 : List Value := [vI 2, vI 1, kf 7, kf 8, vS 11 0 2 2, vI 1, vP 11 1, kf 8, vP 0 0, kf 9, vI 1, vI 64]
def Pgiv59 : List Value := [kf 15, kf 11, kf 27, vP 10 1, vT [kf 4, vB true], vP 9 0, vP 9 0, vP 9 2, vG [kf 9, vI 1], vI 1, vT [kf 4, vB true], kf 4]
def Pgiv60 : List Value := [vB true, vP 6 0, vP 9 0, kf 4, vI 1, vP 10 1, kf 27, vB true, vB false, vP 9 0, vP 9 0, vP 9 2]
def Pgiv61 : List Value := [vG [kf 9, vI 1], kf 10, vP 12 0, vP 12 0, vB true, vB true, vI 1, vB true, vB true, vB true, vP 12 0, vB false]
def Pgiv62 : List Value := [vB true, vB true, vI 1, vI 2, vP 12 0, vP 6 0, vG [vI 6, vI 0, kf 33, kf 34], vX, vX, vX, vX, vX]
def Pgil91 : List Value := Pgiv55 ++ (Pgiv56 ++ (Pgiv57 ++ (Pgiv37 ++ (Pgiv58 ++ (Pgiv59 ++ (Pgiv60 ++ (Pgiv61 ++ (Pgiv62 ++ (Pgiv1 ++ (Pgiv1 ++ (Pgiv1 ++ Pgiv2)))))))))))
def Pgio63 : Obj := oC 147 [vP 13 0, vI 1]
def Pgio64 : Obj := oC 119 [kf 9, vZ, vI 2, vP 3 0, vS 5 0 1 1, kf 30]
def Pgio65 : Obj := oC 116 [kf 10, kf 30]
def Pgio66 : Obj := oC 64 [.complex .f32 7 0, vI 2, kf 4, vU 0, kf 27, vI 2]
def Pgio67 : Obj := oC 40 [vP 8 0, vA, kf 9, vI 1]
def Pgio68 : Obj := oC 75 [kf 9, vI 1, vF 108 [] [vP 19 0, vP 20 0, vP 21 0], kf 10, vZ, vZ, vS 14 0 2 2, vI 0, vI 2]
def Pgio69 : Obj := oC 167 [kf 32, .int .u32 0, kf 10, kf 30, vN, vN]
def Pgio70 : Obj := oC 142 [vI 0, kf 12, vI 1, kf 13]
def Pgio71 : Obj := oC 137 [vF 88 [] [vP 15 0, vP 18 0, vP 17 0, vP 16 0]]
def Pgih101 : List Obj := [Pgio5, Pgio50, Pgio51, Pgio63, Pgio64, Pgio65, Pgio13, Pgio34, Pgio66, Pgio67, oC 30 [kf 26, kf 27], oC 22 [kf 7, kf 8], Pgio68, Pgio69, Pgio70, oC 42 [vP 12 0], oC 3 [vI 0], oC 142 [vI 0, kf 12], oC 3 [kf 3], oC 3 [kf 1], oC 22 [kf 12], Pgio71]
def Pgiv72 : List Value := [kf 10, vP 10 0, vI 2, kf 4, vB true, vP 12 0, vI 3, vX, vX, vX, vX, vX]
def Pgiv73 : List Value := [vG [kf 9, vI 1], kf 10, vP 12 0, vP 12 0, vB true, vB true, vI 2, vB true, vB true, vB true, vP 12 0, vB false]
def Pgiv74 : List Value := [vB true, vB true, vI 2, vI 3, vP 12 0, vP 6 0, vG [vI 5, kf 1, vU 0, kf 12], vX, vX, vX, vX, vX]
def Pgil105 : List Value := Pgiv55 ++ (Pgiv72 ++ (Pgiv57 ++ (Pgiv37 ++ (Pgiv58 ++ (Pgiv59 ++ (Pgiv60 ++ (Pgiv73 ++ (Pgiv74 ++ (Pgiv1 ++ (Pgiv1 ++ (Pgiv1 ++ Pgiv2)))))))))))
def Pgio75 : Obj := oC 280270000134 [vU 1, vU 0, vU 1, vU 0, vU 0, vU 0, vU 0, vU 0, vU 0, vU 0, vU 0, vU 0, vU 0, vU 0, vU 0, vU 0, vU 0, vU 0, vU 0, vU 0, vU 0, vU 0, vU 0, vU 0, vU 0, vU 0, vU 0, vU 0, vU 0, vU 0, vU 0, vU 0, vU 0, vU 0, vU 0, vU 0, vU 0, vU 0, vU 0, vU 0, vU 0, vU 0, vU 0, vU 0, vU 0, vU 0, vU 0, vU 0, vU 0, vU 0, vU 0, vU 0, vU 0, vU 0, vU 0, vU 0, vU 0, vU 0, vU 0, vU 0, vU 0, vU 0, vU 0, vU 0, vU 0, vU 0, vU 0, vU 0, vU 0, vU 0, vU 0, vU 0, vU 0, vU 0, vU 0, vU 0, vU 0]
def Pgio76 : Obj := oC 109 [.complex .f32 1 0, vI 5, kf 1, vU 0, kf 12, vI 4]
def Pgio77 : Obj := oC 75 [kf 9, vI 1, vF 100 [] [vP 19 0, vP 20 0], kf 10, vZ, vZ, vS 14 0 2 2, vI 0, vI 2]
def Pgio78 : Obj := oC 137 [vF 89 [] [vP 17 0, vP 15 0, vP 16 0, vP 18 0]]
def Pgih110 : List Obj := [Pgio5, Pgio75, Pgio76, Pgio63, Pgio64, Pgio65, Pgio13, Pgio34, Pgio66, Pgio67, oC 30 [kf 26, kf 27], oC 22 [kf 7, kf 8], Pgio77, Pgio69, Pgio70, oC 42 [vP 12 0], oC 3 [vI 0], oC 142 [vI 0, kf 12], oC 3 [kf 3], oC 3 [kf 3], Pgio78]
def Pgiv79 : List Value := [kf 10, vP 10 0, vI 2, kf 4, vB true, vP 12 0, vI 4, vX, vX, vX, vX, vX]
def Pgiv80 : List Value := [vG [kf 9, vI 1], kf 10, vP 12 0, vP 12 0, vB true, vB true, vI 3, vB true, vB true, vB true, vP 12 0, vB false]
def Pgiv81 : List Value := [vB true, vB true, vI 3, vI 4, vP 12 0, vP 6 0, vG [vI 1, kf 3, kf 26, kf 26], vX, vX, vX, vX, vX]
def Pgil114 : List Value := Pgiv55 ++ (Pgiv79 ++ (Pgiv57 ++ (Pgiv37 ++ (Pgiv58 ++ (Pgiv59 ++ (Pgiv60 ++ (Pgiv80 ++ (Pgiv81 ++ (Pgiv1 ++ (Pgiv1 ++ (Pgiv1 ++ Pgiv2)))))))))))
def Pgio82 : Obj := oC 109 [.complex .f32 1 0, vI 1, kf 3, kf 26, kf 26, vI 5]
def Pgih116 : List Obj := [Pgio5, Pgio75, Pgio82, Pgio63, Pgio64, Pgio65, Pgio13, Pgio34, Pgio66, Pgio67, oC 30 [kf 26, kf 27], oC 22 [kf 7, kf 8], Pgio68, Pgio69, Pgio70, oC 42 [vP 12 0], oC 3 [vI 1], oC 142 [vI 1, kf 13], oC 3 [kf 4], oC 3 [kf 2], oC 22 [kf 13], Pgio71]
def Pgiv83 : List Value := [kf 10, vP 10 0, vI 2, kf 4, vB true, vP 12 0, vI 5, vX, vX, vX, vX, vX]
def Pgiv84 : List Value := [vG [kf 9, vI 1], kf 10, vP 12 0, vP 12 0, vB true, vB true, vI 4, vB true, vB true, vB true, vP 12 0, vB false]
def Pgiv85 : List Value := [vB true, vB true, vI 4, vI 5, vP 12 0, vP 6 0, vG [vI 5, kf 2, vU 0, kf 13], vX, vX, vX, vX, vX]
def Pgil120 : List Value := Pgiv55 ++ (Pgiv83 ++ (Pgiv57 ++ (Pgiv37 ++ (Pgiv58 ++ (Pgiv59 ++ (Pgiv60 ++ (Pgiv84 ++ (Pgiv85 ++ (Pgiv1 ++ (Pgiv1 ++ (Pgiv1 ++ Pgiv2)))))))))))
def Pgio86 : Obj := oC 280270140134 [vU 1, vU 0, vU 1, vU 0, vU 0, vU 0, vU 0, vU 0, vU 0, vU 0, vU 0, vU 0, vU 0, vU 0, vU 0, vU 0, vU 0, vU 0, vU 0, vU 0, vU 0, vU 0, vU 0, vU 0, vU 0, vU 0, vU 0, vU 0, vU 0, vU 0, vU 0, vU 0, vU 0, vU 0, vU 0, vU 0, vU 0, vU 0, vU 0, vU 0, vU 0, vU 0, vU 0, vU 0, vU 0, vU 0, vU 0, vU 0, vU 0, vU 0, vU 0, vU 0, vU 0, vU 0, vU 0, vU 0, vU 0, vU 0, vU 0, vU 0, vU 0, vU 0, vU 0, vU 0, vU 0, vU 0, vU 0, vU 0, vU 0, vU 0, vU 0, vU 0, vU 0, vU 0, vU 0, vU 0, vU 0]
def Pgio87 : Obj := oC 109 [.complex .f32 1 0, vI 5, kf 2, vU 0, kf 13, vI 6]
def Pgih123 : List Obj := [Pgio5, Pgio86, Pgio87, Pgio63, Pgio64, Pgio65, Pgio13, Pgio34, Pgio66, Pgio67, oC 30 [kf 26, kf 27], oC 22 [kf 7, kf 8], Pgio77, Pgio69, Pgio70, oC 42 [vP 12 0], oC 3 [vI 1], oC 142 [vI 1, kf 13], oC 3 [kf 4], oC 3 [kf 4], Pgio78]
def Pgiv88 : List Value := [kf 10, vP 10 0, vI 2, kf 4, vB true, vP 12 0, vI 6, vX, vX, vX, vX, vX]
def Pgiv89 : List Value := [vG [kf 9, vI 1], kf 10, vP 12 0, vP 12 0, vB true, vB true, vI 5, vB true, vB true, vB true, vP 12 0, vB false]
def Pgiv90 : List Value := [vB true, vB true, vI 5, vI 6, vP 12 0, vP 6 0, vG [vI 1, kf 4, kf 27, kf 27], vX, vX, vX, vX, vX]
def Pgil127 : List Value := Pgiv55 ++ (Pgiv88 ++ (Pgiv57 ++ (Pgiv37 ++ (Pgiv58 ++ (Pgiv59 ++ (Pgiv60 ++ (Pgiv89 ++ (Pgiv90 ++ (Pgiv1 ++ (Pgiv1 ++ (Pgiv1 ++ Pgiv2)))))))))))
def Pgio91 : Obj := oC 109 [.complex .f32 1 0, vI 1, kf 4, kf 27, kf 27, vI 7]
def Pgio92 : Obj := oC 75 [kf 9, vI 1, vF 108 [] [vP 17 0, vP 18 0, vP 19 0], kf 10, vZ, vZ, vS 14 0 2 2, vI 0, vI 2]
def Pgio93 : Obj := oC 137 [vF 90 [] [vP 15 0, vP 16 0]]
def Pgih131 : List Obj := [Pgio5, Pgio86, Pgio91, Pgio63, Pgio64, Pgio65, Pgio13, Pgio34, Pgio66, Pgio67, oC 30 [kf 26, kf 27], oC 22 [kf 7, kf 8], Pgio92, Pgio69, Pgio70, oC 42 [vP 12 0], oC 3 [vI 1], oC 3 [kf 4], oC 22 [kf 37], Pgio93]
def Pgiv94 : List Value := [kf 10, vP 10 0, vI 2, kf 4, vB true, vP 12 0, vI 7, vX, vX, vX, vX, vX]
def Pgiv95 : List Value := [vG [kf 9, vI 1], kf 10, vP 12 0, vP 12 0, vB true, vB true, vI 6, vB true, vB true, vB true, vP 12 0, vB false]
def Pgiv96 : List Value := [vB true, vB true, vI 6, vI 7, vP 12 0, vP 6 0, vG [vI 5, kf 4, kf 27, kf 38], vX, vX, vX, vX, vX]
def Pgil135 : List Value := Pgiv55 ++ (Pgiv94 ++ (Pgiv57 ++ (Pgiv37 ++ (Pgiv58 ++ (Pgiv59 ++ (Pgiv60 ++ (Pgiv95 ++ (Pgiv96 ++ (Pgiv1 ++ (Pgiv1 ++ (Pgiv1 ++ Pgiv2)))))))))))
def Pgio97 : Obj := oC 390270140134 [vU 1, vU 0, vU 1, vU 0, vU 0, vU 0, vU 0, vU 0, vU 0, vU 0, vU 0, vU 0, vU 0, vU 0, vU 0, vU 0, vU 0, vU 0, vU 0, vU 0, vU 0, vU 0, vU 0, vU 0, vU 0, vU 0, vU 0, vU 0, vU 0, vU 0, vU 0, vU 0, vU 0, vU 0, vU 0, vU 0, vU 0, vU 0, vU 0, vU 0, vU 0, vU 0, vU 0, vU 0, vU 0, vU 0, vU 0, vU 0, vU 0, vU 0, vU 0, vU 0, vU 0, vU 0, vU 0, vU 0, vU 0, vU 0, vU 0, vU 0, vU 0, vU 0, vU 0, vU 0, vU 0, vU 0, vU 0, vU 0, vU 0, vU 0, vU 0, vU 0, vU 0, vU 0, vU 0, vU 0, vU 0]
def Pgio98 : Obj := oC 109 [.complex .f32 1 0, vI 5, kf 4, kf 27, kf 38, vI 8]
def Pgio99 : Obj := oC 75 [kf 9, vI 1, vF 51 [] [vP 21 0, vP 22 0], kf 10, vZ, vZ, vS 14 0 2 2, vI 0, vI 2]
def Pgio100 : Obj := oC 176 [kf 9, vI 1, vF 125 [] [vP 18 0, vP 19 0, vP 20 0]]
def Pgio101 : Obj := oC 1 [vF 54 [vP 17 0] []]
def Pgio102 : Obj := oC 98 [.iface 158 (vP 17 0)]
def Pgio103 : Obj := oC 1 [vF 104 [] [vP 16 0, vP 15 0]]
def Pgih143 : List Obj := [Pgio5, Pgio97, Pgio98, Pgio63, Pgio64, Pgio65, Pgio13, Pgio34, Pgio66, Pgio67, oC 30 [kf 26, kf 27], oC 22 [kf 7, kf 8], Pgio99, Pgio69, Pgio70, oC 42 [vP 12 0], oC 48 [vI 0], Pgio100, oC 3 [vI 2], oC 22 [vU 0], Pgio101, Pgio102, Pgio103]
def Pgiv104 : List Value := [kf 10, vP 10 0, vI 2, kf 4, vB true, vP 12 0, vI 8, vX, vX, vX, vX, vX]
def Pgiv105 : List Value := [vG [kf 9, vI 1], kf 10, vP 12 0, vP 12 0, vB true, vB true, vI 7, vB true, vB true, vB true, vP 12 0, vB false]
def Pgiv106 : List Value := [vB true, vB true, vI 7, vI 8, vP 12 0, vP 6 0, vG [vI 2, vI 2, vU 1, vU 0], vX, vX, vX, vX, vX]
def Pgil147 : List Value := Pgiv55 ++ (Pgiv104 ++ (Pgiv57 ++ (Pgiv37 ++ (Pgiv58 ++ (Pgiv59 ++ (Pgiv60 ++ (Pgiv105 ++ (Pgiv106 ++ (Pgiv1 ++ (Pgiv1 ++ (Pgiv1 ++ Pgiv2)))))))))))
def Pgio107 : Obj := oC 390270140134 [vU 1, vU 0, vU 0, vU 0, vU 0, vU 0, vU 0, vU 0, vU 0, vU 0, vU 0, vU 0, vU 0, vU 0, vU 0, vU 0, vU 0, vU 0, vU 0, vU 0, vU 0, vU 0, vU 0, vU 0, vU 0, vU 0, vU 0, vU 0, vU 0, vU 0, vU 0, vU 0, vU 0, vU 0, vU 0, vU 0, vU 0, vU 0, vU 0, vU 0, vU 0, vU 0, vU 0, vU 0, vU 0, vU 0, vU 0, vU 0, vU 0, vU 0, vU 0, vU 0, vU 0, vU 0, vU 0, vU 0, vU 0, vU 0, vU 0, vU 0, vU 0, vU 0, vU 0, vU 0, vU 0, vU 0, vU 0, vU 0, vU 0, vU 0, vU 0, vU 0, vU 0, vU 0, vU 0, vU 0, vU 0]
def Pgio108 : Obj := oC 109 [.complex .f32 1 0, vI 2, vI 2, vU 1, vU 0, vI 9]
def Pgio109 : Obj := oC 75 [kf 9, vI 1, .nilFunc, kf 10, vZ, vZ, vS 14 0 2 2, vI 0, vI 0]
def Pgih151 : List Obj := [Pgio5, Pgio107, Pgio108, Pgio63, Pgio64, Pgio65, Pgio13, Pgio34, Pgio66, Pgio67, oC 30 [kf 26, kf 27], oC 22 [kf 7, kf 8], Pgio109, Pgio69, Pgio70]
def Pgiv110 : List Value := [vG [kf 9, vI 1], kf 10, vP 12 0, vP 12 0, vB true, vB true, vI 8, vB true, vB true, vB true, vP 12 0, vB true]
def Pgiv111 : List Value := [vB false, vB false, vI 7, vI 8, vP 12 0, vP 6 0, vG [vI 2, vI 2, vU 1, vU 0], vX, vX, vX, vX, vX]
def Pgil154 : List Value := Pgiv55 ++ (Pgiv104 ++ (Pgiv57 ++ (Pgiv37 ++ (Pgiv58 ++ (Pgiv59 ++ (Pgiv60 ++ (Pgiv110 ++ (Pgiv111 ++ (Pgiv1 ++ (Pgiv1 ++ (Pgiv1 ++ Pgiv2)))))))))))
def Pgih155 : List Obj := [Pgio5, Pgio107, Pgio108, Pgio63, Pgio64, Pgio65, Pgio13, Pgio34, Pgio66, Pgio67, oC 30 [kf 26, kf 27], oC 22 [kf 7, kf 8], Pgio109, Pgio69, Pgio70]
def Pgiv112 : List Value := [kf 10, vP 10 0, vI 2, kf 4, vB true, vP 12 0, vI 8, vI 0, vI 0, vX, vX, vX]
def Pgiv113 : List Value := [vB false, vB false, vI 7, vI 8, vP 12 0, vP 6 0, vG [vI 2, vI 2, vU 1, vU 0], vT [vI 0, vI 0], vP 12 0, vT [vI 0, vI 0], vI 0, vI 0]
def Pgil158 : List Value := Pgiv55 ++ (Pgiv112 ++ (Pgiv57 ++ (Pgiv37 ++ (Pgiv58 ++ (Pgiv59 ++ (Pgiv60 ++ (Pgiv110 ++ (Pgiv113 ++ (Pgiv1 ++ (Pgiv1 ++ (Pgiv1 ++ Pgiv2)))))))))))
def Pgih159 : List Obj := [Pgio5, Pgio107, Pgio108, Pgio63, Pgio64, Pgio65, Pgio13, Pgio34, Pgio66, Pgio67, oC 30 [kf 26, kf 27], oC 22 [kf 7, kf 8], Pgio109, Pgio69, Pgio70]
def Pgiv114 : List Value := [vI 0, vB false, vB false, vI 0, vB false, vB false, vX, vX, vX, vX, vX, vX]
def Pgil161 : List Value := Pgiv55 ++ (Pgiv112 ++ (Pgiv57 ++ (Pgiv37 ++ (Pgiv58 ++ (Pgiv59 ++ (Pgiv60 ++ (Pgiv110 ++ (Pgiv113 ++ (Pgiv114 ++ (Pgiv1 ++ (Pgiv1 ++ Pgiv2)))))))))))
def Pgih162 : List Obj := [Pgio5, Pgio107, Pgio108, Pgio63, Pgio64, Pgio65, Pgio13, Pgio34, Pgio66, Pgio67, oC 30 [kf 26, kf 27], oC 22 [kf 7, kf 8], Pgio109, Pgio69, Pgio70]
def Pgil163 : List Value := Pgiv55 ++ (Pgiv112 ++ (Pgiv57 ++ (Pgiv37 ++ (Pgiv58 ++ (Pgiv59 ++ (Pgiv60 ++ (Pgiv110 ++ (Pgiv113 ++ (Pgiv114 ++ (Pgiv1 ++ (Pgiv1 ++ Pgiv2)))))))))))
def Pgih164 : List Obj := [Pgio5, Pgio107, Pgio108, Pgio63, Pgio64, Pgio65, Pgio13, Pgio34, Pgio66, Pgio67, oC 30 [kf 26, kf 27], oC 22 [kf 7, kf 8], Pgio109, Pgio69, Pgio70]
theorem Pgip0 : PgS PgiO (seqL (pgC 0)) Pg0 [] .normal Pgil3 Pgih4 := pgS_ev [] (by decide +kernel)
theorem Pgip1 : PgS PgiO (seqL (pgC 1)) Pgil3 Pgih4 .normal Pgil7 Pgih9 := pgS_ev [0] (by decide +kernel)
theorem Pgip2 : PgS PgiO (seqL (pgC 2)) Pgil7 Pgih9 .normal Pgil12 Pgih21 := pgS_ev [0, 13, 14, 15, 16, 20, 22, 23, 30, 31, 32] (by decide +kernel)
theorem Pgip3 : PgS PgiO (seqL (seqL (pgC 3))) Pgil12 Pgih21 .normal Pgil23 Pgih24 := pgS_ev [0, 1, 2, 3, 4, 5, 6, 7, 8, 9, 10] (by decide +kernel)
theorem Pgip4 : PgS PgiO (seqR (seqL (pgC 3))) Pgil23 Pgih24 .normal Pgil25 Pgih26 := pgS_ev [0, 1, 2, 3, 4, 5, 6, 7, 8, 9, 10] (by decide +kernel)
theorem Pgip5 : PgS PgiO (seqL (pgC 4)) Pgil25 Pgih26 .normal Pgil29 Pgih30 := pgS_ev [0, 1, 2, 3, 4, 5, 6, 7, 8, 9, 10] (by decide +kernel)
theorem Pgip6 : PgS PgiO (seqL (pgC 5)) Pgil29 Pgih30 .normal Pgil32 Pgih33 := pgS_ev [0, 1, 2, 3, 4, 5, 6, 7, 8, 9, 10, 11] (by decide +kernel)
theorem Pgip7 : PgS PgiO (seqL (seqL (pgC 6))) Pgil32 Pgih33 .normal Pgil35 Pgih36 := pgS_ev [0, 1, 2, 3, 4, 5, 6, 7, 8, 9, 10, 11] (by decide +kernel)
theorem Pgip8 : PgS PgiO (inL (inB (seqR (seqL (pgC 6))))) Pgil35 Pgih36 .normal Pgil42 Pgih46 := pgS_ev [0, 1, 2, 3, 4, 5, 6, 7, 8, 9, 10, 11, 12] (by decide +kernel)
theorem Pgip9 : PgS PgiO (inL (inB (seqR (seqL (pgC 6))))) Pgil42 Pgih46 .normal Pgil52 Pgih56 := pgS_ev [0, 1, 2, 3, 4, 5, 6, 7, 8, 9, 10, 11, 13] (by decide +kernel)
theorem Pgip10 : PgS PgiO (inL (inB (seqR (seqL (pgC 6))))) Pgil52 Pgih56 (.exit 0) Pgil58 Pgih59 := pgS_ev [0, 1, 2, 3, 4, 5, 6, 7, 8, 9, 10, 11, 12] (by decide +kernel)
theorem Pgip11 : PgS PgiO (seqL (pgC 7)) Pgil58 Pgih59 .normal Pgil63 Pgih69 := pgS_ev [0, 1, 2, 3, 4, 5, 6, 7, 8, 9, 10, 11, 12, 14, 17, 18, 22, 23, 24, 25, 26, 27, 28, 29] (by decide +kernel)
theorem Pgip12 : PgS PgiO (seqL (seqL (pgC 8))) Pgil63 Pgih69 .normal Pgil71 Pgih72 := pgS_ev [0, 1, 2, 3, 4, 5, 6, 7, 8, 9, 10, 11, 12, 13, 14, 15, 16, 17, 18, 19, 20, 21, 22, 23] (by decide +kernel)
theorem Pgip13 : PgS PgiO (inL (inB (seqR (seqL (pgC 8))))) Pgil71 Pgih72 .normal Pgil76 Pgih82 := pgS_ev [0, 1, 2, 3, 4, 5, 6, 7, 8, 9, 10, 11, 12, 15, 34, 35, 36] (by decide +kernel)
theorem Pgip14 : PgS PgiO (inL (inB (seqR (seqL (pgC 8))))) Pgil76 Pgih82 .normal Pgil91 Pgih101 := pgS_ev [0, 1, 2, 3, 4, 6, 7, 8, 9, 10, 11, 12, 13, 33, 35, 36, 37, 38, 39, 56, 57, 58] (by decide +kernel)
theorem Pgip15 : PgS PgiO (inL (inB (seqR (seqL (pgC 8))))) Pgil91 Pgih101 .normal Pgil105 Pgih110 := pgS_ev [0, 1, 2, 3, 4, 5, 6, 7, 8, 9, 10, 11, 12, 13, 14, 15, 16, 17, 18, 26, 27] (by decide +kernel)
theorem Pgip16 : PgS PgiO (inL (inB (seqR (seqL (pgC 8))))) Pgil105 Pgih110 .normal Pgil114 Pgih116 := pgS_ev [0, 1, 2, 3, 4, 5, 6, 7, 8, 9, 10, 11, 12, 13, 14, 25, 26, 27, 28, 45, 46, 47] (by decide +kernel)
theorem Pgip17 : PgS PgiO (inL (inB (seqR (seqL (pgC 8))))) Pgil114 Pgih116 .normal Pgil120 Pgih123 := pgS_ev [0, 1, 2, 3, 4, 5, 6, 7, 8, 9, 10, 11, 12, 13, 14, 15, 16, 17, 18, 26, 27] (by decide +kernel)
theorem Pgip18 : PgS PgiO (inL (inB (seqR (seqL (pgC 8))))) Pgil120 Pgih123 .normal Pgil127 Pgih131 := pgS_ev [0, 1, 2, 3, 4, 5, 6, 7, 8, 9, 10, 11, 12, 13, 14, 15, 16, 25, 26, 27] (by decide +kernel)
theorem Pgip19 : PgS PgiO (inL (inB (seqR (seqL (pgC 8))))) Pgil127 Pgih131 .normal Pgil135 Pgih143 := pgS_ev [0, 1, 2, 3, 4, 5, 6, 7, 8, 9, 10, 11, 12, 13, 14, 26, 27, 30, 31, 32, 33, 34, 35] (by decide +kernel)
theorem Pgip20 : PgS PgiO (inL (inB (seqR (seqL (pgC 8))))) Pgil135 Pgih143 .normal Pgil147 Pgih151 := pgS_ev [0, 1, 2, 3, 4, 5, 6, 7, 8, 9, 10, 11, 12, 13, 14] (by decide +kernel)
theorem Pgip21 : PgS PgiO (inL (inB (seqR (seqL (pgC 8))))) Pgil147 Pgih151 (.exit 2) Pgil154 Pgih155 := pgS_ev [0, 1, 2, 3, 4, 5, 6, 7, 8, 9, 10, 11, 12, 13, 14] (by decide +kernel)
theorem Pgip22 : PgS PgiO (seqL (pgC 9)) Pgil154 Pgih155 .normal Pgil158 Pgih159 := pgS_ev [0, 1, 2, 3, 4, 5, 6, 7, 8, 9, 10, 11, 12, 13, 14] (by decide +kernel)
theorem Pgip23 : PgS PgiO (seqL (seqL (pgC 10))) Pgil158 Pgih159 .normal Pgil161 Pgih162 := pgS_ev [0, 1, 2, 3, 4, 5, 6, 7, 8, 9, 10, 11, 12, 13, 14] (by decide +kernel)
theorem Pgip24 : PgS PgiO (seqR (seqL (pgC 10))) Pgil161 Pgih162 .normal Pgil163 Pgih164 := pgS_ev [0, 1, 2, 3, 4, 5, 6, 7, 8, 9, 10, 11, 12, 13, 14] (by decide +kernel)
theorem Pgiw : shrOk (fun j => decide (j < 11)) [(kf 10, kf 10), (kf 26, kf 11), (kf 27, kf 12), (kf 12, kf 15), (kf 13, kf 16), (kf 26, kf 13), (kf 38, kf 14)] 0 [0, 1, 2, 6, 9, 10] Pgil163 Pgih164 Pg2A Pg2H = true := by decide +kernel
end Go.Proofs.YtfppinabdalblaaGreat
