/- PagerGone: runs, with numbers that are not looked into, in pieces (printed by gen_pg.py). -/
import Derived.Test.YtfppinabdalblaaGreatPgL2
import Derived.Test.YtfppinabdalblaaGreatPgP
namespace Go.Proofs.YtfppinabdalblaaGreat
open Go.RowKit Go.IntWalk
set_option linter.unusedVariables false
set_option linter.unusedSimpArgs false
set_option maxRecDepth 100000
def Pgme : List Ent := [⟨.conv 5 3, [kf 5], kf 16⟩,
  ⟨.bin .rem 3, [kf 16, vI 128], kf 17⟩,
  ⟨.bin .add 3, [vI 1, kf 17], kf 9⟩,
  ⟨.bin .geq 3, [kf 9, vI 1], .bool true⟩,
  ⟨.bin .leq 3, [kf 9, vI 4096], .bool true⟩,
  ⟨.bin .mul 3, [vI 5, kf 9], kf 18⟩,
  ⟨.bin .add 3, [vI 82, kf 18], kf 19⟩,
  ⟨.bin .add 3, [kf 19, kf 9], kf 1⟩,
  ⟨.bin .add 3, [kf 9, vI 64], kf 20⟩,
  ⟨.bin .sub 3, [kf 20, vI 1], kf 21⟩,
  ⟨.bin .quo 3, [kf 21, vI 64], vI 2⟩,
  ⟨.bin .add 3, [kf 1, vI 2], kf 3⟩,
  ⟨.bin .add 3, [kf 3, vI 2], kf 0⟩,
  ⟨.bin .lss 3, [kf 0, vI 1], .bool false⟩,
  ⟨.bin .gtr 3, [kf 0, vI 65536], .bool false⟩,
  ⟨.bin .geq 3, [vI 0, kf 0], .bool false⟩,
  ⟨.bin .lss 3, [kf 9, vI 1], .bool false⟩,
  ⟨.bin .gtr 3, [kf 9, vI 4096], .bool false⟩,
  ⟨.bin .mul 3, [vI 8192, kf 9], kf 22⟩,
  ⟨.bin .add 3, [kf 22, vI 0], kf 22⟩,
  ⟨.bin .add 3, [vI 0, kf 9], kf 9⟩,
  ⟨.bin .mul 3, [vI 6, kf 9], kf 23⟩,
  ⟨.bin .add 3, [vI 82, kf 23], kf 1⟩,
  ⟨.bin .add 3, [kf 9, vI 63], kf 21⟩,
  ⟨.bin .add 3, [kf 1, vI 4], kf 0⟩,
  ⟨.conv 5 3, [kf 6], kf 24⟩,
  ⟨.bin .rem 3, [kf 24, kf 9], kf 17⟩,
  ⟨.bin .lss 3, [vI 0, kf 9], .bool true⟩,
  ⟨.bin .sub 3, [kf 9, vI 0], kf 9⟩,
  ⟨.bin .and 22, [kf 7, .int .u64 18446744073709551615], kf 25⟩,
  ⟨.bin .add 3, [kf 1, vI 0], kf 1⟩,
  ⟨.bin .lss 3, [kf 3, vI 0], .bool false⟩,
  ⟨.bin .geq 3, [kf 3, kf 0], .bool false⟩,
  ⟨.bin .geq 3, [kf 3, vI 0], .bool true⟩,
  ⟨.bin .lss 3, [kf 3, kf 0], .bool true⟩,
  ⟨.bin .lss 3, [vI 64, kf 9], .bool true⟩,
  ⟨.bin .sub 3, [kf 9, vI 64], kf 15⟩,
  ⟨.bin .and 22, [kf 8, kf 11], kf 26⟩,
  ⟨.bin .add 3, [kf 1, vI 1], kf 2⟩,
  ⟨.bin .add 3, [kf 2, vI 2], kf 4⟩,
  ⟨.bin .lss 3, [kf 4, vI 0], .bool false⟩,
  ⟨.bin .geq 3, [kf 4, kf 0], .bool false⟩,
  ⟨.bin .geq 3, [kf 4, vI 0], .bool true⟩,
  ⟨.bin .lss 3, [kf 4, kf 0], .bool true⟩,
  ⟨.bin .lss 3, [vI 128, kf 9], .bool false⟩,
  ⟨.bin .neq 38, [vG [kf 9, vI 1], vG [kf 9, vI 1]], .bool false⟩,
  ⟨.bin .geq 3, [vI 2, kf 0], .bool false⟩,
  ⟨.bin .gtr 3, [kf 9, kf 9], .bool false⟩,
  ⟨.bin .lss 3, [kf 22, kf 22], .bool false⟩,
  ⟨.bin .neq 3, [kf 22, kf 22], .bool false⟩,
  ⟨.bin .neq 3, [kf 9, kf 9], .bool false⟩,
  ⟨.bin .lss 3, [kf 9, kf 9], .bool false⟩,
  ⟨.bin .sub 3, [kf 9, kf 9], kf 27⟩,
  ⟨.bin .add 3, [kf 3, vI 0], kf 3⟩,
  ⟨.conv 3 22, [kf 9], kf 28⟩,
  ⟨.conv 3 22, [kf 27], kf 29⟩,
  ⟨.bin .lss 3, [kf 1, vI 0], .bool false⟩,
  ⟨.bin .geq 3, [kf 1, kf 0], .bool false⟩,
  ⟨.bin .add 22, [.int .u64 0, kf 12], kf 12⟩,
  ⟨.bin .and 22, [kf 25, kf 12], kf 30⟩,
  ⟨.bin .eql 22, [kf 30, .int .u64 0], .bool true⟩,
  ⟨.bin .add 3, [kf 3, vI 1], kf 4⟩,
  ⟨.bin .lss 3, [kf 2, vI 0], .bool false⟩,
  ⟨.bin .geq 3, [kf 2, kf 0], .bool false⟩,
  ⟨.bin .add 22, [.int .u64 0, kf 11], kf 11⟩,
  ⟨.bin .and 22, [kf 26, kf 11], kf 26⟩,
  ⟨.bin .eql 22, [kf 26, .int .u64 0], .bool false⟩,
  ⟨.un .neg, [kf 26], kf 31⟩,
  ⟨.bin .add 22, [kf 26, kf 31], kf 32⟩]
def Pgmf : List FnEnt := [⟨14, [], .bool true⟩,
  ⟨44, [kf 9, vZ], vA⟩,
  ⟨5, [kf 9], .int .u64 18446744073709551615⟩,
  ⟨5, [kf 15], kf 11⟩]
def PgmO : Orc := orcS Pgme Pgmf 4 rdG (pgMk 9 11 12)
def Pgmv0 : List Value := [kf 5, kf 6, kf 7, kf 8, vX, vX, vX, vX, vB false, vX, vX, vX]
def Pgmv1 : List Value := [vX, vX, vX, vX, vX, vX, vX, vX, vX, vX, vX, vX]
def Pgmv2 : List Value := [vX, vX, vX, vX, vX, vX]
def Pgml3 : List Value := Pgmv0 ++ (Pgmv1 ++ (Pgmv1 ++ (Pgmv1 ++ (Pgmv1 ++ (Pgmv1 ++ (Pgmv1 ++ (Pgmv1 ++ (Pgmv1 ++ (Pgmv1 ++ (Pgmv1 ++ (Pgmv1 ++ Pgmv2)))))))))))
def Pgmh4 : List Obj := []
def Pgmv3 : List Value := [kf 5, kf 6, kf 7, kf 8, vX, vX, vX, vX, vB false, vP 0 0, vX, vX]
def Pgmv4 : List Value := [kf 5, kf 16, kf 17, kf 9, vG [kf 9, vI 1, vZ], vX, vX, vX, vX, vX, vX, vX]
def Pgml7 : List Value := Pgmv3 ++ (Pgmv1 ++ (Pgmv4 ++ (Pgmv1 ++ (Pgmv1 ++ (Pgmv1 ++ (Pgmv1 ++ (Pgmv1 ++ (Pgmv1 ++ (Pgmv1 ++ (Pgmv1 ++ (Pgmv1 ++ Pgmv2)))))))))))
def Pgmo5 : Obj := oC 25 [kf 9, vI 1, vZ]
def Pgmh9 : List Obj := [Pgmo5]
def Pgmv6 : List Value := [kf 5, kf 6, kf 7, kf 8, vX, vX, vX, vX, vB false, vP 0 0, vP 7 0, vP 10 0]
def Pgmv7 : List Value := [kf 5, kf 16, kf 17, kf 9, vG [kf 9, vI 1, vZ], vT [vP 7 0, vP 10 0], vG [kf 9, vI 1, vZ], vT [vP 7 0, vP 10 0], vP 7 0, vP 10 0, vX, vX]
def Pgml12 : List Value := Pgmv6 ++ (Pgmv1 ++ (Pgmv7 ++ (Pgmv1 ++ (Pgmv1 ++ (Pgmv1 ++ (Pgmv1 ++ (Pgmv1 ++ (Pgmv1 ++ (Pgmv1 ++ (Pgmv1 ++ (Pgmv1 ++ Pgmv2)))))))))))
def Pgmo8 : Obj := oC 4 [vU 1, vU 0, vU 0, vU 0, vU 0, vU 0, vU 0, vU 0, vU 0, vU 0, vU 0, vU 0, vU 0, vU 0, vU 0, vU 0, vU 0, vU 0, vU 0, vU 0, vU 0, vU 0, vU 0, vU 0, vU 0, vU 0, vU 0, vU 0, vU 0, vU 0, vU 0, vU 0, vU 0, vU 0, vU 0, vU 0, vU 0, vU 0, vU 0, vU 0, vU 0, vU 0, vU 0, vU 0, vU 0, vU 0, vU 0, vU 0, vU 0, vU 0, vU 0, vU 0, vU 0, vU 0, vU 0, vU 0, vU 0, vU 0, vU 0, vU 0, vU 0, vU 0, vU 0, vU 0, vU 0, vU 0, vU 0, vU 0, vU 0, vU 0, vU 0, vU 0, vU 0, vU 0, vU 0, vU 0, vU 0]
def Pgmo9 : Obj := oC 109 [.complex .f32 1 0, vI 0, vI 0, vU 0, vU 0, vI 0]
def Pgmo10 : Obj := oC 147 [vP 5 0, vI 1]
def Pgmo11 : Obj := oC 119 [kf 9, vZ, vI 1, vP 3 0, vS 6 0 1 1, kf 9]
def Pgmo12 : Obj := oC 167 [kf 22, .int .u32 0, vI 0, kf 9, vN, vN]
def Pgmo13 : Obj := oC 86 [kf 9, vI 1, vP 2 0, vP 4 0]
def Pgmo14 : Obj := oC 64 [.complex .f32 8 0, vI 0, vI 0, vU 0, vU 0, vI 0]
def Pgmo15 : Obj := oC 40 [vP 9 0, vA, kf 9, vI 1]
def Pgmh21 : List Obj := [Pgmo5, Pgmo8, Pgmo9, Pgmo10, Pgmo11, Pgmo12, oC 116 [vI 0, kf 9], Pgmo13, Pgmo8, Pgmo14, Pgmo15]
def Pgmv16 : List Value := [kf 5, kf 16, kf 17, kf 9, vG [kf 9, vI 1, vZ], vT [vP 7 0, vP 10 0], vG [kf 9, vI 1, vZ], vT [vP 7 0, vP 10 0], vP 7 0, vP 10 0, vP 7 0, vB false]
def Pgml23 : List Value := Pgmv6 ++ (Pgmv1 ++ (Pgmv16 ++ (Pgmv1 ++ (Pgmv1 ++ (Pgmv1 ++ (Pgmv1 ++ (Pgmv1 ++ (Pgmv1 ++ (Pgmv1 ++ (Pgmv1 ++ (Pgmv1 ++ Pgmv2)))))))))))
def Pgmh24 : List Obj := [Pgmo5, Pgmo8, Pgmo9, Pgmo10, Pgmo11, Pgmo12, oC 116 [vI 0, kf 9], Pgmo13, Pgmo8, Pgmo14, Pgmo15]
def Pgml25 : List Value := Pgmv6 ++ (Pgmv1 ++ (Pgmv16 ++ (Pgmv1 ++ (Pgmv1 ++ (Pgmv1 ++ (Pgmv1 ++ (Pgmv1 ++ (Pgmv1 ++ (Pgmv1 ++ (Pgmv1 ++ (Pgmv1 ++ Pgmv2)))))))))))
def Pgmh26 : List Obj := [Pgmo5, Pgmo8, Pgmo9, Pgmo10, Pgmo11, Pgmo12, oC 116 [vI 0, kf 9], Pgmo13, Pgmo8, Pgmo14, Pgmo15]
def Pgmv17 : List Value := [kf 9, vX, vX, vX, vX, vX, vX, vX, vX, vX, vX, vX]
def Pgmv18 : List Value := [kf 6, kf 24, vP 0 0, kf 9, kf 17, kf 9, vX, vX, vX, vX, vX, vX]
def Pgml29 : List Value := Pgmv6 ++ (Pgmv17 ++ (Pgmv16 ++ (Pgmv18 ++ (Pgmv1 ++ (Pgmv1 ++ (Pgmv1 ++ (Pgmv1 ++ (Pgmv1 ++ (Pgmv1 ++ (Pgmv1 ++ (Pgmv1 ++ Pgmv2)))))))))))
def Pgmh30 : List Obj := [Pgmo5, Pgmo8, Pgmo9, Pgmo10, Pgmo11, Pgmo12, oC 116 [vI 0, kf 9], Pgmo13, Pgmo8, Pgmo14, Pgmo15]
def Pgmv19 : List Value := [kf 9, vP 11 0, vX, vX, vX, vX, vX, vX, vX, vX, vX, vX]
def Pgml32 : List Value := Pgmv6 ++ (Pgmv19 ++ (Pgmv16 ++ (Pgmv18 ++ (Pgmv1 ++ (Pgmv1 ++ (Pgmv1 ++ (Pgmv1 ++ (Pgmv1 ++ (Pgmv1 ++ (Pgmv1 ++ (Pgmv1 ++ Pgmv2)))))))))))
def Pgmh33 : List Obj := [Pgmo5, Pgmo8, Pgmo9, Pgmo10, Pgmo11, Pgmo12, oC 116 [vI 0, kf 9], Pgmo13, Pgmo8, Pgmo14, Pgmo15, oC 30 [vU 0, vU 0]]
def Pgmv20 : List Value := [kf 9, vP 11 0, vI 0, vX, vX, vX, vX, vX, vX, vX, vX, vX]
def Pgml35 : List Value := Pgmv6 ++ (Pgmv20 ++ (Pgmv16 ++ (Pgmv18 ++ (Pgmv1 ++ (Pgmv1 ++ (Pgmv1 ++ (Pgmv1 ++ (Pgmv1 ++ (Pgmv1 ++ (Pgmv1 ++ (Pgmv1 ++ Pgmv2)))))))))))
def Pgmh36 : List Obj := [Pgmo5, Pgmo8, Pgmo9, Pgmo10, Pgmo11, Pgmo12, oC 116 [vI 0, kf 9], Pgmo13, Pgmo8, Pgmo14, Pgmo15, oC 30 [vU 0, vU 0]]
def Pgmv21 : List Value := [kf 9, vP 11 0, vI 1, kf 3, vB true, vX, vX, vX, vX, vX, vX, vX]
def Pgmv22 : List Value := [kf 6, kf 24, vP 0 0, kf 9, kf 17, kf 9, vI 0, vI 0, vP 0 0, kf 9, vB true, vI 0]
def Pgmv23 : List Value := [vI 1, vI 0, kf 7, kf 8, vS 12 0 2 2, vI 0, vP 12 0, kf 7, vP 0 0, kf 9, vI 0, vI 0]
def Pgmv24 : List Value := [kf 9, vU 18446744073709551615, kf 25, vP 11 0, vT [kf 3, vB true], vP 10 0, vP 10 0, vP 10 2, vG [kf 9, vI 1], vI 0, vT [kf 3, vB true], kf 3]
def Pgmv25 : List Value := [vB true, vP 7 0, vP 10 0, kf 3, vI 0, vP 11 0, kf 25, vB true, vB false, vX, vX, vX]
def Pgml42 : List Value := Pgmv6 ++ (Pgmv21 ++ (Pgmv16 ++ (Pgmv22 ++ (Pgmv23 ++ (Pgmv24 ++ (Pgmv25 ++ (Pgmv1 ++ (Pgmv1 ++ (Pgmv1 ++ (Pgmv1 ++ (Pgmv1 ++ Pgmv2)))))))))))
def Pgmo26 : Obj := oC 260000004 [vU 1, vU 0, vU 0, vU 0, vU 0, vU 0, vU 0, vU 0, vU 0, vU 0, vU 0, vU 0, vU 0, vU 0, vU 0, vU 0, vU 0, vU 0, vU 0, vU 0, vU 0, vU 0, vU 0, vU 0, vU 0, vU 0, vU 0, vU 0, vU 0, vU 0, vU 0, vU 0, vU 0, vU 0, vU 0, vU 0, vU 0, vU 0, vU 0, vU 0, vU 0, vU 0, vU 0, vU 0, vU 0, vU 0, vU 0, vU 0, vU 0, vU 0, vU 0, vU 0, vU 0, vU 0, vU 0, vU 0, vU 0, vU 0, vU 0, vU 0, vU 0, vU 0, vU 0, vU 0, vU 0, vU 0, vU 0, vU 0, vU 0, vU 0, vU 0, vU 0, vU 0, vU 0, vU 0, vU 0, vU 0]
def Pgmo27 : Obj := oC 109 [.complex .f32 1 0, vI 2, kf 3, vU 0, kf 25, vI 1]
def Pgmo28 : Obj := oC 64 [.complex .f32 8 0, vI 2, kf 3, vU 0, kf 25, vI 1]
def Pgmh46 : List Obj := [Pgmo5, Pgmo26, Pgmo27, Pgmo10, Pgmo11, Pgmo12, oC 116 [vI 0, kf 9], Pgmo13, Pgmo26, Pgmo28, Pgmo15, oC 30 [kf 25, vU 0], oC 22 [kf 7, kf 8]]
def Pgmv29 : List Value := [kf 9, vP 11 0, vI 2, kf 4, vB true, vX, vX, vX, vX, vX, vX, vX]
def Pgmv30 : List Value := [kf 6, kf 24, vP 0 0, kf 9, kf 17, kf 9, vI 1, vI 64, vP 0 0, kf 9, vB true, vI 1]
def Pgmv31 : List Value := [vI 2, vI 1, kf 7, kf 8, vS 12 0 2 2, vI 1, vP 12 1, kf 8, vP 0 0, kf 9, vI 1, vI 64]
def Pgmv32 : List Value := [kf 15, kf 11, kf 26, vP 11 1, vT [kf 4, vB true], vP 10 0, vP 10 0, vP 10 2, vG [kf 9, vI 1], vI 1, vT [kf 4, vB true], kf 4]
def Pgmv33 : List Value := [vB true, vP 7 0, vP 10 0, kf 4, vI 1, vP 11 1, kf 26, vB true, vB false, vX, vX, vX]
def Pgml52 : List Value := Pgmv6 ++ (Pgmv29 ++ (Pgmv16 ++ (Pgmv30 ++ (Pgmv31 ++ (Pgmv32 ++ (Pgmv33 ++ (Pgmv1 ++ (Pgmv1 ++ (Pgmv1 ++ (Pgmv1 ++ (Pgmv1 ++ Pgmv2)))))))))))
def Pgmo34 : Obj := oC 270260000004 [vU 1, vU 0, vU 0, vU 0, vU 0, vU 0, vU 0, vU 0, vU 0, vU 0, vU 0, vU 0, vU 0, vU 0, vU 0, vU 0, vU 0, vU 0, vU 0, vU 0, vU 0, vU 0, vU 0, vU 0, vU 0, vU 0, vU 0, vU 0, vU 0, vU 0, vU 0, vU 0, vU 0, vU 0, vU 0, vU 0, vU 0, vU 0, vU 0, vU 0, vU 0, vU 0, vU 0, vU 0, vU 0, vU 0, vU 0, vU 0, vU 0, vU 0, vU 0, vU 0, vU 0, vU 0, vU 0, vU 0, vU 0, vU 0, vU 0, vU 0, vU 0, vU 0, vU 0, vU 0, vU 0, vU 0, vU 0, vU 0, vU 0, vU 0, vU 0, vU 0, vU 0, vU 0, vU 0, vU 0, vU 0]
def Pgmo35 : Obj := oC 109 [.complex .f32 1 0, vI 2, kf 4, vU 0, kf 26, vI 2]
def Pgmo36 : Obj := oC 64 [.complex .f32 8 0, vI 2, kf 4, vU 0, kf 26, vI 2]
def Pgmh56 : List Obj := [Pgmo5, Pgmo34, Pgmo35, Pgmo10, Pgmo11, Pgmo12, oC 116 [vI 0, kf 9], Pgmo13, Pgmo34, Pgmo36, Pgmo15, oC 30 [kf 25, kf 26], oC 22 [kf 7, kf 8]]
def Pgmv37 : List Value := [kf 6, kf 24, vP 0 0, kf 9, kf 17, kf 9, vI 2, vI 128, vP 0 0, kf 9, vB false, vI 1]
def Pgml58 : List Value := Pgmv6 ++ (Pgmv29 ++ (Pgmv16 ++ (Pgmv37 ++ (Pgmv31 ++ (Pgmv32 ++ (Pgmv33 ++ (Pgmv1 ++ (Pgmv1 ++ (Pgmv1 ++ (Pgmv1 ++ (Pgmv1 ++ Pgmv2)))))))))))
def Pgmh59 : List Obj := [Pgmo5, Pgmo34, Pgmo35, Pgmo10, Pgmo11, Pgmo12, oC 116 [vI 0, kf 9], Pgmo13, Pgmo34, Pgmo36, Pgmo15, oC 30 [kf 25, kf 26], oC 22 [kf 7, kf 8]]
def Pgmv38 : List Value := [kf 9, vP 11 0, vI 2, kf 4, vB true, vP 15 0, vX, vX, vX, vX, vX, vX]
def Pgmv39 : List Value := [vB true, vP 7 0, vP 10 0, kf 4, vI 1, vP 11 1, kf 26, vB true, vB false, vP 10 0, vP 10 0, vP 10 2]
def Pgmv40 : List Value := [vG [kf 9, vI 1], kf 9, vP 15 0, vX, vX, vX, vX, vX, vX, vX, vX, vX]
def Pgml63 : List Value := Pgmv6 ++ (Pgmv38 ++ (Pgmv16 ++ (Pgmv37 ++ (Pgmv31 ++ (Pgmv32 ++ (Pgmv39 ++ (Pgmv40 ++ (Pgmv1 ++ (Pgmv1 ++ (Pgmv1 ++ (Pgmv1 ++ Pgmv2)))))))))))
def Pgmo41 : Obj := oC 75 [kf 9, vI 1, vF 51 [] [vP 22 0, vP 23 0], kf 9, vZ, vZ, vZ, vI 0, vI 2]
def Pgmo42 : Obj := oC 100 [kf 9, vI 1, vF 75 [] [vP 18 0, vP 19 0, vP 20 0, vP 21 0]]
def Pgmo43 : Obj := oC 102 [vF 53 [] [vP 17 0]]
def Pgmo44 : Obj := oC 98 [.iface 77 (vP 16 0)]
def Pgmo45 : Obj := oC 1 [vF 32 [] [vP 14 0, vP 13 0]]
def Pgmh69 : List Obj := [Pgmo5, Pgmo34, Pgmo35, Pgmo10, Pgmo11, Pgmo12, oC 116 [vI 0, kf 9], Pgmo13, Pgmo34, Pgmo36, Pgmo15, oC 30 [kf 25, kf 26], oC 22 [kf 7, kf 8], oC 3 [kf 9], oC 42 [vP 15 0], Pgmo41, Pgmo42, oC 77 [vP 16 0], oC 3 [vI 2], oC 22 [vU 0], oC 22 [vU 1], Pgmo43, Pgmo44, Pgmo45]
def Pgmv46 : List Value := [kf 9, vP 11 0, vI 2, kf 4, vB true, vP 15 0, vI 0, vX, vX, vX, vX, vX]
def Pgml71 : List Value := Pgmv6 ++ (Pgmv46 ++ (Pgmv16 ++ (Pgmv37 ++ (Pgmv31 ++ (Pgmv32 ++ (Pgmv39 ++ (Pgmv40 ++ (Pgmv1 ++ (Pgmv1 ++ (Pgmv1 ++ (Pgmv1 ++ Pgmv2)))))))))))
def Pgmh72 : List Obj := [Pgmo5, Pgmo34, Pgmo35, Pgmo10, Pgmo11, Pgmo12, oC 116 [vI 0, kf 9], Pgmo13, Pgmo34, Pgmo36, Pgmo15, oC 30 [kf 25, kf 26], oC 22 [kf 7, kf 8], oC 3 [kf 9], oC 42 [vP 15 0], Pgmo41, Pgmo42, oC 77 [vP 16 0], oC 3 [vI 2], oC 22 [vU 0], oC 22 [vU 1], Pgmo43, Pgmo44, Pgmo45]
def Pgmv47 : List Value := [kf 9, vP 11 0, vI 2, kf 4, vB true, vP 13 0, vI 1, vX, vX, vX, vX, vX]
def Pgmv48 : List Value := [vG [kf 9, vI 1], kf 9, vP 13 0, vP 13 0, vB true, vB true, vI 0, vB true, vB true, vB true, vP 13 0, vB false]
def Pgmv49 : List Value := [vB true, vB true, vI 0, vI 1, vP 13 0, vP 7 0, vG [vI 3, vI 2, vU 0, vU 1], vX, vX, vX, vX, vX]
def Pgml76 : List Value := Pgmv6 ++ (Pgmv47 ++ (Pgmv16 ++ (Pgmv37 ++ (Pgmv31 ++ (Pgmv32 ++ (Pgmv39 ++ (Pgmv48 ++ (Pgmv49 ++ (Pgmv1 ++ (Pgmv1 ++ (Pgmv1 ++ Pgmv2)))))))))))
def Pgmo50 : Obj := oC 270260000004 [vU 1, vU 0, vU 1, vU 0, vU 0, vU 0, vU 0, vU 0, vU 0, vU 0, vU 0, vU 0, vU 0, vU 0, vU 0, vU 0, vU 0, vU 0, vU 0, vU 0, vU 0, vU 0, vU 0, vU 0, vU 0, vU 0, vU 0, vU 0, vU 0, vU 0, vU 0, vU 0, vU 0, vU 0, vU 0, vU 0, vU 0, vU 0, vU 0, vU 0, vU 0, vU 0, vU 0, vU 0, vU 0, vU 0, vU 0, vU 0, vU 0, vU 0, vU 0, vU 0, vU 0, vU 0, vU 0, vU 0, vU 0, vU 0, vU 0, vU 0, vU 0, vU 0, vU 0, vU 0, vU 0, vU 0, vU 0, vU 0, vU 0, vU 0, vU 0, vU 0, vU 0, vU 0, vU 0, vU 0, vU 0]
def Pgmo51 : Obj := oC 109 [.complex .f32 1 0, vI 3, vI 2, vU 0, vU 1, vI 3]
def Pgmo52 : Obj := oC 75 [kf 9, vI 1, vF 55 [] [vP 15 0, vP 16 0, vP 14 0], kf 9, vZ, vZ, vZ, vI 0, vI 2]
def Pgmo53 : Obj := oC 80 [vF 34 [vP 13 0] []]
def Pgmo54 : Obj := oC 81 [vF 35 [vP 13 0] []]
def Pgmh82 : List Obj := [Pgmo5, Pgmo50, Pgmo51, Pgmo10, Pgmo11, Pgmo12, oC 116 [vI 0, kf 9], Pgmo13, Pgmo34, Pgmo36, Pgmo15, oC 30 [kf 25, kf 26], oC 22 [kf 7, kf 8], Pgmo52, oC 3 [kf 9], Pgmo53, Pgmo54]
def Pgmv55 : List Value := [kf 5, kf 6, kf 7, kf 8, vX, vX, vX, vX, vB false, vP 0 0, vP 6 0, vP 9 0]
def Pgmv56 : List Value := [kf 9, vP 10 0, vI 2, kf 4, vB true, vP 12 0, vI 2, vX, vX, vX, vX, vX]
def Pgmv57 : List Value := [kf 5, kf 16, kf 17, kf 9, vG [kf 9, vI 1, vZ], vT [vP 6 0, vP 9 0], vG [kf 9, vI 1, vZ], vT [vP 6 0, vP 9 0], vP 6 0, vP 9 0, vP 6 0, vB false]
def Pgmv58 : List Value := [vI 2, vI 1, kf 7, kf 8, vS 11 0 2 2, vI 1, vP 11 1, kf 8, vP 0 0, kf 9, vI 1, vI 64]
def Pgmv59 : List Value := [kf 15, kf 11, kf 26, vP 10 1, vT [kf 4, vB true], vP 9 0, vP 9 0, vP 9 2, vG [kf 9, vI 1], vI 1, vT [kf 4, vB true], kf 4]
def Pgmv60 : List Value := [vB true, vP 6 0, vP 9 0, kf 4, vI 1, vP 10 1, kf 26, vB true, vB false, vP 9 0, vP 9 0, vP 9 2]
def Pgmv61 : List Value := [vG [kf 9, vI 1], kf 9, vP 12 0, vP 12 0, vB true, vB true, vI 1, vB true, vB true, vB true, vP 12 0, vB false]
def Pgmv62 : List Value := [vB true, vB true, vI 1, vI 2, vP 12 0, vP 6 0, vG [vI 6, vI 0, kf 28, kf 29], vX, vX, vX, vX, vX]
def Pgml91 : List Value := Pgmv55 ++ (Pgmv56 ++ (Pgmv57 ++ (Pgmv37 ++ (Pgmv58 ++ (Pgmv59 ++ (Pgmv60 ++ (Pgmv61 ++ (Pgmv62 ++ (Pgmv1 ++ (Pgmv1 ++ (Pgmv1 ++ Pgmv2)))))))))))
def Pgmo63 : Obj := oC 119 [kf 9, vZ, vI 1, vP 3 0, vS 5 0 0 1, kf 27]
def Pgmo64 : Obj := oC 64 [.complex .f32 7 0, vI 2, kf 4, vU 0, kf 26, vI 2]
def Pgmo65 : Obj := oC 40 [vP 8 0, vA, kf 9, vI 1]
def Pgmo66 : Obj := oC 75 [kf 9, vI 1, vF 108 [] [vP 18 0, vP 19 0, vP 20 0], kf 9, vZ, vZ, vS 13 0 2 2, vI 0, vI 2]
def Pgmo67 : Obj := oC 142 [vI 0, kf 12, vI 1, kf 11]
def Pgmo68 : Obj := oC 137 [vF 88 [] [vP 14 0, vP 17 0, vP 16 0, vP 15 0]]
def Pgmh98 : List Obj := [Pgmo5, Pgmo50, Pgmo51, oC 147 [vN, vI 0], Pgmo63, oC 116 [vI 0, vI 0], Pgmo13, Pgmo34, Pgmo64, Pgmo65, oC 30 [kf 25, kf 26], oC 22 [kf 7, kf 8], Pgmo66, Pgmo67, oC 42 [vP 12 0], oC 3 [vI 0], oC 142 [vI 0, kf 12], oC 3 [kf 3], oC 3 [kf 1], oC 22 [kf 12], Pgmo68]
def Pgmv69 : List Value := [kf 9, vP 10 0, vI 2, kf 4, vB true, vP 12 0, vI 3, vX, vX, vX, vX, vX]
def Pgmv70 : List Value := [vG [kf 9, vI 1], kf 9, vP 12 0, vP 12 0, vB true, vB true, vI 2, vB true, vB true, vB true, vP 12 0, vB false]
def Pgmv71 : List Value := [vB true, vB true, vI 2, vI 3, vP 12 0, vP 6 0, vG [vI 5, kf 1, vU 0, kf 12], vX, vX, vX, vX, vX]
def Pgml102 : List Value := Pgmv55 ++ (Pgmv69 ++ (Pgmv57 ++ (Pgmv37 ++ (Pgmv58 ++ (Pgmv59 ++ (Pgmv60 ++ (Pgmv70 ++ (Pgmv71 ++ (Pgmv1 ++ (Pgmv1 ++ (Pgmv1 ++ Pgmv2)))))))))))
def Pgmo72 : Obj := oC 270260000134 [vU 1, vU 0, vU 1, vU 0, vU 0, vU 0, vU 0, vU 0, vU 0, vU 0, vU 0, vU 0, vU 0, vU 0, vU 0, vU 0, vU 0, vU 0, vU 0, vU 0, vU 0, vU 0, vU 0, vU 0, vU 0, vU 0, vU 0, vU 0, vU 0, vU 0, vU 0, vU 0, vU 0, vU 0, vU 0, vU 0, vU 0, vU 0, vU 0, vU 0, vU 0, vU 0, vU 0, vU 0, vU 0, vU 0, vU 0, vU 0, vU 0, vU 0, vU 0, vU 0, vU 0, vU 0, vU 0, vU 0, vU 0, vU 0, vU 0, vU 0, vU 0, vU 0, vU 0, vU 0, vU 0, vU 0, vU 0, vU 0, vU 0, vU 0, vU 0, vU 0, vU 0, vU 0, vU 0, vU 0, vU 0]
def Pgmo73 : Obj := oC 109 [.complex .f32 1 0, vI 5, kf 1, vU 0, kf 12, vI 4]
def Pgmo74 : Obj := oC 75 [kf 9, vI 1, vF 100 [] [vP 18 0, vP 19 0], kf 9, vZ, vZ, vS 13 0 2 2, vI 0, vI 2]
def Pgmo75 : Obj := oC 137 [vF 89 [] [vP 16 0, vP 14 0, vP 15 0, vP 17 0]]
def Pgmh107 : List Obj := [Pgmo5, Pgmo72, Pgmo73, oC 147 [vN, vI 0], Pgmo63, oC 116 [vI 0, vI 0], Pgmo13, Pgmo34, Pgmo64, Pgmo65, oC 30 [kf 25, kf 26], oC 22 [kf 7, kf 8], Pgmo74, Pgmo67, oC 42 [vP 12 0], oC 3 [vI 0], oC 142 [vI 0, kf 12], oC 3 [kf 3], oC 3 [kf 3], Pgmo75]
def Pgmv76 : List Value := [kf 9, vP 10 0, vI 2, kf 4, vB true, vP 12 0, vI 4, vX, vX, vX, vX, vX]
def Pgmv77 : List Value := [vG [kf 9, vI 1], kf 9, vP 12 0, vP 12 0, vB true, vB true, vI 3, vB true, vB true, vB true, vP 12 0, vB false]
def Pgmv78 : List Value := [vB true, vB true, vI 3, vI 4, vP 12 0, vP 6 0, vG [vI 1, kf 3, kf 25, kf 25], vX, vX, vX, vX, vX]
def Pgml111 : List Value := Pgmv55 ++ (Pgmv76 ++ (Pgmv57 ++ (Pgmv37 ++ (Pgmv58 ++ (Pgmv59 ++ (Pgmv60 ++ (Pgmv77 ++ (Pgmv78 ++ (Pgmv1 ++ (Pgmv1 ++ (Pgmv1 ++ Pgmv2)))))))))))
def Pgmo79 : Obj := oC 109 [.complex .f32 1 0, vI 1, kf 3, kf 25, kf 25, vI 5]
def Pgmh113 : List Obj := [Pgmo5, Pgmo72, Pgmo79, oC 147 [vN, vI 0], Pgmo63, oC 116 [vI 0, vI 0], Pgmo13, Pgmo34, Pgmo64, Pgmo65, oC 30 [kf 25, kf 26], oC 22 [kf 7, kf 8], Pgmo66, Pgmo67, oC 42 [vP 12 0], oC 3 [vI 1], oC 142 [vI 1, kf 11], oC 3 [kf 4], oC 3 [kf 2], oC 22 [kf 11], Pgmo68]
def Pgmv80 : List Value := [kf 9, vP 10 0, vI 2, kf 4, vB true, vP 12 0, vI 5, vX, vX, vX, vX, vX]
def Pgmv81 : List Value := [vG [kf 9, vI 1], kf 9, vP 12 0, vP 12 0, vB true, vB true, vI 4, vB true, vB true, vB true, vP 12 0, vB false]
def Pgmv82 : List Value := [vB true, vB true, vI 4, vI 5, vP 12 0, vP 6 0, vG [vI 5, kf 2, vU 0, kf 11], vX, vX, vX, vX, vX]
def Pgml117 : List Value := Pgmv55 ++ (Pgmv80 ++ (Pgmv57 ++ (Pgmv37 ++ (Pgmv58 ++ (Pgmv59 ++ (Pgmv60 ++ (Pgmv81 ++ (Pgmv82 ++ (Pgmv1 ++ (Pgmv1 ++ (Pgmv1 ++ Pgmv2)))))))))))
def Pgmo83 : Obj := oC 270260120134 [vU 1, vU 0, vU 1, vU 0, vU 0, vU 0, vU 0, vU 0, vU 0, vU 0, vU 0, vU 0, vU 0, vU 0, vU 0, vU 0, vU 0, vU 0, vU 0, vU 0, vU 0, vU 0, vU 0, vU 0, vU 0, vU 0, vU 0, vU 0, vU 0, vU 0, vU 0, vU 0, vU 0, vU 0, vU 0, vU 0, vU 0, vU 0, vU 0, vU 0, vU 0, vU 0, vU 0, vU 0, vU 0, vU 0, vU 0, vU 0, vU 0, vU 0, vU 0, vU 0, vU 0, vU 0, vU 0, vU 0, vU 0, vU 0, vU 0, vU 0, vU 0, vU 0, vU 0, vU 0, vU 0, vU 0, vU 0, vU 0, vU 0, vU 0, vU 0, vU 0, vU 0, vU 0, vU 0, vU 0, vU 0]
def Pgmo84 : Obj := oC 109 [.complex .f32 1 0, vI 5, kf 2, vU 0, kf 11, vI 6]
def Pgmh120 : List Obj := [Pgmo5, Pgmo83, Pgmo84, oC 147 [vN, vI 0], Pgmo63, oC 116 [vI 0, vI 0], Pgmo13, Pgmo34, Pgmo64, Pgmo65, oC 30 [kf 25, kf 26], oC 22 [kf 7, kf 8], Pgmo74, Pgmo67, oC 42 [vP 12 0], oC 3 [vI 1], oC 142 [vI 1, kf 11], oC 3 [kf 4], oC 3 [kf 4], Pgmo75]
def Pgmv85 : List Value := [kf 9, vP 10 0, vI 2, kf 4, vB true, vP 12 0, vI 6, vX, vX, vX, vX, vX]
def Pgmv86 : List Value := [vG [kf 9, vI 1], kf 9, vP 12 0, vP 12 0, vB true, vB true, vI 5, vB true, vB true, vB true, vP 12 0, vB false]
def Pgmv87 : List Value := [vB true, vB true, vI 5, vI 6, vP 12 0, vP 6 0, vG [vI 1, kf 4, kf 26, kf 26], vX, vX, vX, vX, vX]
def Pgml124 : List Value := Pgmv55 ++ (Pgmv85 ++ (Pgmv57 ++ (Pgmv37 ++ (Pgmv58 ++ (Pgmv59 ++ (Pgmv60 ++ (Pgmv86 ++ (Pgmv87 ++ (Pgmv1 ++ (Pgmv1 ++ (Pgmv1 ++ Pgmv2)))))))))))
def Pgmo88 : Obj := oC 109 [.complex .f32 1 0, vI 1, kf 4, kf 26, kf 26, vI 7]
def Pgmo89 : Obj := oC 75 [kf 9, vI 1, vF 108 [] [vP 16 0, vP 17 0, vP 18 0], kf 9, vZ, vZ, vS 13 0 2 2, vI 0, vI 2]
def Pgmo90 : Obj := oC 137 [vF 90 [] [vP 14 0, vP 15 0]]
def Pgmh128 : List Obj := [Pgmo5, Pgmo83, Pgmo88, oC 147 [vN, vI 0], Pgmo63, oC 116 [vI 0, vI 0], Pgmo13, Pgmo34, Pgmo64, Pgmo65, oC 30 [kf 25, kf 26], oC 22 [kf 7, kf 8], Pgmo89, Pgmo67, oC 42 [vP 12 0], oC 3 [vI 1], oC 3 [kf 4], oC 22 [kf 31], Pgmo90]
def Pgmv91 : List Value := [kf 9, vP 10 0, vI 2, kf 4, vB true, vP 12 0, vI 7, vX, vX, vX, vX, vX]
def Pgmv92 : List Value := [vG [kf 9, vI 1], kf 9, vP 12 0, vP 12 0, vB true, vB true, vI 6, vB true, vB true, vB true, vP 12 0, vB false]
def Pgmv93 : List Value := [vB true, vB true, vI 6, vI 7, vP 12 0, vP 6 0, vG [vI 5, kf 4, kf 26, kf 32], vX, vX, vX, vX, vX]
def Pgml132 : List Value := Pgmv55 ++ (Pgmv91 ++ (Pgmv57 ++ (Pgmv37 ++ (Pgmv58 ++ (Pgmv59 ++ (Pgmv60 ++ (Pgmv92 ++ (Pgmv93 ++ (Pgmv1 ++ (Pgmv1 ++ (Pgmv1 ++ Pgmv2)))))))))))
def Pgmo94 : Obj := oC 330260120134 [vU 1, vU 0, vU 1, vU 0, vU 0, vU 0, vU 0, vU 0, vU 0, vU 0, vU 0, vU 0, vU 0, vU 0, vU 0, vU 0, vU 0, vU 0, vU 0, vU 0, vU 0, vU 0, vU 0, vU 0, vU 0, vU 0, vU 0, vU 0, vU 0, vU 0, vU 0, vU 0, vU 0, vU 0, vU 0, vU 0, vU 0, vU 0, vU 0, vU 0, vU 0, vU 0, vU 0, vU 0, vU 0, vU 0, vU 0, vU 0, vU 0, vU 0, vU 0, vU 0, vU 0, vU 0, vU 0, vU 0, vU 0, vU 0, vU 0, vU 0, vU 0, vU 0, vU 0, vU 0, vU 0, vU 0, vU 0, vU 0, vU 0, vU 0, vU 0, vU 0, vU 0, vU 0, vU 0, vU 0, vU 0]
def Pgmo95 : Obj := oC 109 [.complex .f32 1 0, vI 5, kf 4, kf 26, kf 32, vI 8]
def Pgmo96 : Obj := oC 75 [kf 9, vI 1, vF 51 [] [vP 20 0, vP 21 0], kf 9, vZ, vZ, vS 13 0 2 2, vI 0, vI 2]
def Pgmo97 : Obj := oC 176 [kf 9, vI 1, vF 125 [] [vP 17 0, vP 18 0, vP 19 0]]
def Pgmo98 : Obj := oC 1 [vF 54 [vP 16 0] []]
def Pgmo99 : Obj := oC 98 [.iface 158 (vP 16 0)]
def Pgmo100 : Obj := oC 1 [vF 104 [] [vP 15 0, vP 14 0]]
def Pgmh140 : List Obj := [Pgmo5, Pgmo94, Pgmo95, oC 147 [vN, vI 0], Pgmo63, oC 116 [vI 0, vI 0], Pgmo13, Pgmo34, Pgmo64, Pgmo65, oC 30 [kf 25, kf 26], oC 22 [kf 7, kf 8], Pgmo96, Pgmo67, oC 42 [vP 12 0], oC 48 [vI 0], Pgmo97, oC 3 [vI 2], oC 22 [vU 0], Pgmo98, Pgmo99, Pgmo100]
def Pgmv101 : List Value := [kf 9, vP 10 0, vI 2, kf 4, vB true, vP 12 0, vI 8, vX, vX, vX, vX, vX]
def Pgmv102 : List Value := [vG [kf 9, vI 1], kf 9, vP 12 0, vP 12 0, vB true, vB true, vI 7, vB true, vB true, vB true, vP 12 0, vB false]
def Pgmv103 : List Value := [vB true, vB true, vI 7, vI 8, vP 12 0, vP 6 0, vG [vI 2, vI 2, vU 1, vU 0], vX, vX, vX, vX, vX]
def Pgml144 : List Value := Pgmv55 ++ (Pgmv101 ++ (Pgmv57 ++ (Pgmv37 ++ (Pgmv58 ++ (Pgmv59 ++ (Pgmv60 ++ (Pgmv102 ++ (Pgmv103 ++ (Pgmv1 ++ (Pgmv1 ++ (Pgmv1 ++ Pgmv2)))))))))))
def Pgmo104 : Obj := oC 330260120134 [vU 1, vU 0, vU 0, vU 0, vU 0, vU 0, vU 0, vU 0, vU 0, vU 0, vU 0, vU 0, vU 0, vU 0, vU 0, vU 0, vU 0, vU 0, vU 0, vU 0, vU 0, vU 0, vU 0, vU 0, vU 0, vU 0, vU 0, vU 0, vU 0, vU 0, vU 0, vU 0, vU 0, vU 0, vU 0, vU 0, vU 0, vU 0, vU 0, vU 0, vU 0, vU 0, vU 0, vU 0, vU 0, vU 0, vU 0, vU 0, vU 0, vU 0, vU 0, vU 0, vU 0, vU 0, vU 0, vU 0, vU 0, vU 0, vU 0, vU 0, vU 0, vU 0, vU 0, vU 0, vU 0, vU 0, vU 0, vU 0, vU 0, vU 0, vU 0, vU 0, vU 0, vU 0, vU 0, vU 0, vU 0]
def Pgmo105 : Obj := oC 109 [.complex .f32 1 0, vI 2, vI 2, vU 1, vU 0, vI 9]
def Pgmo106 : Obj := oC 75 [kf 9, vI 1, .nilFunc, kf 9, vZ, vZ, vS 13 0 2 2, vI 0, vI 0]
def Pgmh148 : List Obj := [Pgmo5, Pgmo104, Pgmo105, oC 147 [vN, vI 0], Pgmo63, oC 116 [vI 0, vI 0], Pgmo13, Pgmo34, Pgmo64, Pgmo65, oC 30 [kf 25, kf 26], oC 22 [kf 7, kf 8], Pgmo106, Pgmo67]
def Pgmv107 : List Value := [vG [kf 9, vI 1], kf 9, vP 12 0, vP 12 0, vB true, vB true, vI 8, vB true, vB true, vB true, vP 12 0, vB true]
def Pgmv108 : List Value := [vB false, vB false, vI 7, vI 8, vP 12 0, vP 6 0, vG [vI 2, vI 2, vU 1, vU 0], vX, vX, vX, vX, vX]
def Pgml151 : List Value := Pgmv55 ++ (Pgmv101 ++ (Pgmv57 ++ (Pgmv37 ++ (Pgmv58 ++ (Pgmv59 ++ (Pgmv60 ++ (Pgmv107 ++ (Pgmv108 ++ (Pgmv1 ++ (Pgmv1 ++ (Pgmv1 ++ Pgmv2)))))))))))
def Pgmh152 : List Obj := [Pgmo5, Pgmo104, Pgmo105, oC 147 [vN, vI 0], Pgmo63, oC 116 [vI 0, vI 0], Pgmo13, Pgmo34, Pgmo64, Pgmo65, oC 30 [kf 25, kf 26], oC 22 [kf 7, kf 8], Pgmo106, Pgmo67]
def Pgmv109 : List Value := [kf 9, vP 10 0, vI 2, kf 4, vB true, vP 12 0, vI 8, vI 0, vI 0, vX, vX, vX]
def Pgmv110 : List Value := [vB false, vB false, vI 7, vI 8, vP 12 0, vP 6 0, vG [vI 2, vI 2, vU 1, vU 0], vT [vI 0, vI 0], vP 12 0, vT [vI 0, vI 0], vI 0, vI 0]
def Pgml155 : List Value := Pgmv55 ++ (Pgmv109 ++ (Pgmv57 ++ (Pgmv37 ++ (Pgmv58 ++ (Pgmv59 ++ (Pgmv60 ++ (Pgmv107 ++ (Pgmv110 ++ (Pgmv1 ++ (Pgmv1 ++ (Pgmv1 ++ Pgmv2)))))))))))
def Pgmh156 : List Obj := [Pgmo5, Pgmo104, Pgmo105, oC 147 [vN, vI 0], Pgmo63, oC 116 [vI 0, vI 0], Pgmo13, Pgmo34, Pgmo64, Pgmo65, oC 30 [kf 25, kf 26], oC 22 [kf 7, kf 8], Pgmo106, Pgmo67]
def Pgmv111 : List Value := [vI 0, vB false, vB false, vI 0, vB false, vB false, vX, vX, vX, vX, vX, vX]
def Pgml158 : List Value := Pgmv55 ++ (Pgmv109 ++ (Pgmv57 ++ (Pgmv37 ++ (Pgmv58 ++ (Pgmv59 ++ (Pgmv60 ++ (Pgmv107 ++ (Pgmv110 ++ (Pgmv111 ++ (Pgmv1 ++ (Pgmv1 ++ Pgmv2)))))))))))
def Pgmh159 : List Obj := [Pgmo5, Pgmo104, Pgmo105, oC 147 [vN, vI 0], Pgmo63, oC 116 [vI 0, vI 0], Pgmo13, Pgmo34, Pgmo64, Pgmo65, oC 30 [kf 25, kf 26], oC 22 [kf 7, kf 8], Pgmo106, Pgmo67]
def Pgml160 : List Value := Pgmv55 ++ (Pgmv109 ++ (Pgmv57 ++ (Pgmv37 ++ (Pgmv58 ++ (Pgmv59 ++ (Pgmv60 ++ (Pgmv107 ++ (Pgmv110 ++ (Pgmv111 ++ (Pgmv1 ++ (Pgmv1 ++ Pgmv2)))))))))))
def Pgmh161 : List Obj := [Pgmo5, Pgmo104, Pgmo105, oC 147 [vN, vI 0], Pgmo63, oC 116 [vI 0, vI 0], Pgmo13, Pgmo34, Pgmo64, Pgmo65, oC 30 [kf 25, kf 26], oC 22 [kf 7, kf 8], Pgmo106, Pgmo67]
theorem Pgmp0 : PgS PgmO (seqL (pgC 0)) Pg0 [] .normal Pgml3 Pgmh4 := pgS_ev [] (by decide +kernel)
theorem Pgmp1 : PgS PgmO (seqL (pgC 1)) Pgml3 Pgmh4 .normal Pgml7 Pgmh9 := pgS_ev [0] (by decide +kernel)
theorem Pgmp2 : PgS PgmO (seqL (pgC 2)) Pgml7 Pgmh9 .normal Pgml12 Pgmh21 := pgS_ev [0, 13, 14, 15, 16, 20, 22, 23, 30, 31, 32] (by decide +kernel)
theorem Pgmp3 : PgS PgmO (seqL (seqL (pgC 3))) Pgml12 Pgmh21 .normal Pgml23 Pgmh24 := pgS_ev [0, 1, 2, 3, 4, 5, 6, 7, 8, 9, 10] (by decide +kernel)
theorem Pgmp4 : PgS PgmO (seqR (seqL (pgC 3))) Pgml23 Pgmh24 .normal Pgml25 Pgmh26 := pgS_ev [0, 1, 2, 3, 4, 5, 6, 7, 8, 9, 10] (by decide +kernel)
theorem Pgmp5 : PgS PgmO (seqL (pgC 4)) Pgml25 Pgmh26 .normal Pgml29 Pgmh30 := pgS_ev [0, 1, 2, 3, 4, 5, 6, 7, 8, 9, 10] (by decide +kernel)
theorem Pgmp6 : PgS PgmO (seqL (pgC 5)) Pgml29 Pgmh30 .normal Pgml32 Pgmh33 := pgS_ev [0, 1, 2, 3, 4, 5, 6, 7, 8, 9, 10, 11] (by decide +kernel)
theorem Pgmp7 : PgS PgmO (seqL (seqL (pgC 6))) Pgml32 Pgmh33 .normal Pgml35 Pgmh36 := pgS_ev [0, 1, 2, 3, 4, 5, 6, 7, 8, 9, 10, 11] (by decide +kernel)
theorem Pgmp8 : PgS PgmO (inL (inB (seqR (seqL (pgC 6))))) Pgml35 Pgmh36 .normal Pgml42 Pgmh46 := pgS_ev [0, 1, 2, 3, 4, 5, 6, 7, 8, 9, 10, 11, 12] (by decide +kernel)
theorem Pgmp9 : PgS PgmO (inL (inB (seqR (seqL (pgC 6))))) Pgml42 Pgmh46 .normal Pgml52 Pgmh56 := pgS_ev [0, 1, 2, 3, 4, 5, 6, 7, 8, 9, 10, 11, 13] (by decide +kernel)
theorem Pgmp10 : PgS PgmO (inL (inB (seqR (seqL (pgC 6))))) Pgml52 Pgmh56 (.exit 0) Pgml58 Pgmh59 := pgS_ev [0, 1, 2, 3, 4, 5, 6, 7, 8, 9, 10, 11, 12] (by decide +kernel)
theorem Pgmp11 : PgS PgmO (seqL (pgC 7)) Pgml58 Pgmh59 .normal Pgml63 Pgmh69 := pgS_ev [0, 1, 2, 3, 4, 5, 6, 7, 8, 9, 10, 11, 12, 14, 17, 18, 22, 23, 24, 25, 26, 27, 28, 29] (by decide +kernel)
theorem Pgmp12 : PgS PgmO (seqL (seqL (pgC 8))) Pgml63 Pgmh69 .normal Pgml71 Pgmh72 := pgS_ev [0, 1, 2, 3, 4, 5, 6, 7, 8, 9, 10, 11, 12, 13, 14, 15, 16, 17, 18, 19, 20, 21, 22, 23] (by decide +kernel)
theorem Pgmp13 : PgS PgmO (inL (inB (seqR (seqL (pgC 8))))) Pgml71 Pgmh72 .normal Pgml76 Pgmh82 := pgS_ev [0, 1, 2, 3, 4, 5, 6, 7, 8, 9, 10, 11, 12, 15, 34, 35, 36] (by decide +kernel)
theorem Pgmp14 : PgS PgmO (inL (inB (seqR (seqL (pgC 8))))) Pgml76 Pgmh82 .normal Pgml91 Pgmh98 := pgS_ev [0, 1, 2, 3, 4, 6, 7, 8, 9, 10, 11, 12, 13, 30, 31, 32, 33, 34, 51, 52, 53] (by decide +kernel)
theorem Pgmp15 : PgS PgmO (inL (inB (seqR (seqL (pgC 8))))) Pgml91 Pgmh98 .normal Pgml102 Pgmh107 := pgS_ev [0, 1, 2, 3, 4, 5, 6, 7, 8, 9, 10, 11, 12, 13, 14, 15, 16, 17, 25, 26] (by decide +kernel)
theorem Pgmp16 : PgS PgmO (inL (inB (seqR (seqL (pgC 8))))) Pgml102 Pgmh107 .normal Pgml111 Pgmh113 := pgS_ev [0, 1, 2, 3, 4, 5, 6, 7, 8, 9, 10, 11, 12, 13, 24, 25, 26, 27, 44, 45, 46] (by decide +kernel)
theorem Pgmp17 : PgS PgmO (inL (inB (seqR (seqL (pgC 8))))) Pgml111 Pgmh113 .normal Pgml117 Pgmh120 := pgS_ev [0, 1, 2, 3, 4, 5, 6, 7, 8, 9, 10, 11, 12, 13, 14, 15, 16, 17, 25, 26] (by decide +kernel)
theorem Pgmp18 : PgS PgmO (inL (inB (seqR (seqL (pgC 8))))) Pgml117 Pgmh120 .normal Pgml124 Pgmh128 := pgS_ev [0, 1, 2, 3, 4, 5, 6, 7, 8, 9, 10, 11, 12, 13, 14, 15, 24, 25, 26] (by decide +kernel)
theorem Pgmp19 : PgS PgmO (inL (inB (seqR (seqL (pgC 8))))) Pgml124 Pgmh128 .normal Pgml132 Pgmh140 := pgS_ev [0, 1, 2, 3, 4, 5, 6, 7, 8, 9, 10, 11, 12, 13, 25, 26, 29, 30, 31, 32, 33, 34] (by decide +kernel)
theorem Pgmp20 : PgS PgmO (inL (inB (seqR (seqL (pgC 8))))) Pgml132 Pgmh140 .normal Pgml144 Pgmh148 := pgS_ev [0, 1, 2, 3, 4, 5, 6, 7, 8, 9, 10, 11, 12, 13] (by decide +kernel)
theorem Pgmp21 : PgS PgmO (inL (inB (seqR (seqL (pgC 8))))) Pgml144 Pgmh148 (.exit 2) Pgml151 Pgmh152 := pgS_ev [0, 1, 2, 3, 4, 5, 6, 7, 8, 9, 10, 11, 12, 13] (by decide +kernel)
theorem Pgmp22 : PgS PgmO (seqL (pgC 9)) Pgml151 Pgmh152 .normal Pgml155 Pgmh156 := pgS_ev [0, 1, 2, 3, 4, 5, 6, 7, 8, 9, 10, 11, 12, 13] (by decide +kernel)
theorem Pgmp23 : PgS PgmO (seqL (seqL (pgC 10))) Pgml155 Pgmh156 .normal Pgml158 Pgmh159 := pgS_ev [0, 1, 2, 3, 4, 5, 6, 7, 8, 9, 10, 11, 12, 13] (by decide +kernel)
theorem Pgmp24 : PgS PgmO (seqR (seqL (pgC 10))) Pgml158 Pgmh159 .normal Pgml160 Pgmh161 := pgS_ev [0, 1, 2, 3, 4, 5, 6, 7, 8, 9, 10, 11, 12, 13] (by decide +kernel)
theorem Pgmw : shrOk (fun j => decide (j < 11)) [(kf 9, kf 10), (kf 25, kf 11), (kf 26, kf 12), (kf 12, kf 15), (kf 11, kf 16), (kf 25, kf 13), (kf 32, kf 14)] 0 [0, 1, 2, 6, 9, 10] Pgml160 Pgmh161 Pg2A Pg2H = true := by decide +kernel
def Pgne : List Ent := [⟨.conv 5 3, [kf 5], kf 16⟩,
  ⟨.bin .rem 3, [kf 16, vI 128], kf 17⟩,
  ⟨.bin .add 3, [vI 1, kf 17], kf 9⟩,
  ⟨.bin .geq 3, [kf 9, vI 1], .bool true⟩,
  ⟨.bin .leq 3, [kf 9, vI 4096], .bool true⟩,
  ⟨.bin .mul 3, [vI 5, kf 9], kf 18⟩,
  ⟨.bin .add 3, [vI 82, kf 18], kf 19⟩,
  ⟨.bin .add 3, [kf 19, kf 9], kf 1⟩,
  ⟨.bin .add 3, [kf 9, vI 64], kf 20⟩,
  ⟨.bin .sub 3, [kf 20, vI 1], kf 21⟩,
  ⟨.bin .quo 3, [kf 21, vI 64], vI 2⟩,
  ⟨.bin .add 3, [kf 1, vI 2], kf 3⟩,
  ⟨.bin .add 3, [kf 3, vI 2], kf 0⟩,
  ⟨.bin .lss 3, [kf 0, vI 1], .bool false⟩,
  ⟨.bin .gtr 3, [kf 0, vI 65536], .bool false⟩,
  ⟨.bin .geq 3, [vI 0, kf 0], .bool false⟩,
  ⟨.bin .lss 3, [kf 9, vI 1], .bool false⟩,
  ⟨.bin .gtr 3, [kf 9, vI 4096], .bool false⟩,
  ⟨.bin .mul 3, [vI 8192, kf 9], kf 22⟩,
  ⟨.bin .add 3, [kf 22, vI 0], kf 22⟩,
  ⟨.bin .add 3, [vI 0, kf 9], kf 9⟩,
  ⟨.bin .mul 3, [vI 6, kf 9], kf 23⟩,
  ⟨.bin .add 3, [vI 82, kf 23], kf 1⟩,
  ⟨.bin .add 3, [kf 9, vI 63], kf 21⟩,
  ⟨.bin .add 3, [kf 1, vI 4], kf 0⟩,
  ⟨.conv 5 3, [kf 6], kf 24⟩,
  ⟨.bin .rem 3, [kf 24, kf 9], kf 17⟩,
  ⟨.bin .lss 3, [vI 0, kf 9], .bool true⟩,
  ⟨.bin .sub 3, [kf 9, vI 0], kf 9⟩,
  ⟨.bin .and 22, [kf 7, .int .u64 18446744073709551615], kf 25⟩,
  ⟨.bin .add 3, [kf 1, vI 0], kf 1⟩,
  ⟨.bin .lss 3, [kf 3, vI 0], .bool false⟩,
  ⟨.bin .geq 3, [kf 3, kf 0], .bool false⟩,
  ⟨.bin .geq 3, [kf 3, vI 0], .bool true⟩,
  ⟨.bin .lss 3, [kf 3, kf 0], .bool true⟩,
  ⟨.bin .lss 3, [vI 64, kf 9], .bool true⟩,
  ⟨.bin .sub 3, [kf 9, vI 64], kf 15⟩,
  ⟨.bin .and 22, [kf 8, kf 11], kf 26⟩,
  ⟨.bin .add 3, [kf 1, vI 1], kf 2⟩,
  ⟨.bin .add 3, [kf 2, vI 2], kf 4⟩,
  ⟨.bin .lss 3, [kf 4, vI 0], .bool false⟩,
  ⟨.bin .geq 3, [kf 4, kf 0], .bool false⟩,
  ⟨.bin .geq 3, [kf 4, vI 0], .bool true⟩,
  ⟨.bin .lss 3, [kf 4, kf 0], .bool true⟩,
  ⟨.bin .lss 3, [vI 128, kf 9], .bool false⟩,
  ⟨.bin .neq 38, [vG [kf 9, vI 1], vG [kf 9, vI 1]], .bool false⟩,
  ⟨.bin .geq 3, [vI 2, kf 0], .bool false⟩,
  ⟨.bin .gtr 3, [kf 9, kf 9], .bool false⟩,
  ⟨.bin .lss 3, [kf 22, kf 22], .bool false⟩,
  ⟨.bin .neq 3, [kf 22, kf 22], .bool false⟩,
  ⟨.bin .neq 3, [kf 9, kf 9], .bool false⟩,
  ⟨.bin .lss 3, [kf 9, kf 9], .bool false⟩,
  ⟨.bin .sub 3, [kf 9, kf 9], kf 27⟩,
  ⟨.bin .add 3, [kf 3, vI 0], kf 3⟩,
  ⟨.conv 3 22, [kf 9], kf 28⟩,
  ⟨.conv 3 22, [kf 27], kf 29⟩,
  ⟨.bin .lss 3, [kf 1, vI 0], .bool false⟩,
  ⟨.bin .geq 3, [kf 1, kf 0], .bool false⟩,
  ⟨.bin .add 22, [.int .u64 0, kf 12], kf 12⟩,
  ⟨.bin .and 22, [kf 25, kf 12], kf 30⟩,
  ⟨.bin .eql 22, [kf 30, .int .u64 0], .bool true⟩,
  ⟨.bin .add 3, [kf 3, vI 1], kf 4⟩,
  ⟨.bin .lss 3, [kf 2, vI 0], .bool false⟩,
  ⟨.bin .geq 3, [kf 2, kf 0], .bool false⟩,
  ⟨.bin .add 22, [.int .u64 0, kf 11], kf 11⟩,
  ⟨.bin .and 22, [kf 26, kf 11], kf 31⟩,
  ⟨.bin .eql 22, [kf 31, .int .u64 0], .bool true⟩]
def Pgnf : List FnEnt := [⟨14, [], .bool true⟩,
  ⟨44, [kf 9, vZ], vA⟩,
  ⟨5, [kf 9], .int .u64 18446744073709551615⟩,
  ⟨5, [kf 15], kf 11⟩]
def PgnO : Orc := orcS Pgne Pgnf 4 rdG (pgMk 9 11 12)
def Pgnv0 : List Value := [kf 5, kf 6, kf 7, kf 8, vX, vX, vX, vX, vB false, vX, vX, vX]
def Pgnv1 : List Value := [vX, vX, vX, vX, vX, vX, vX, vX, vX, vX, vX, vX]
def Pgnv2 : List Value := [vX, vX, vX, vX, vX, vX]
def Pgnl3 : List Value := Pgnv0 ++ (Pgnv1 ++ (Pgnv1 ++ (Pgnv1 ++ (Pgnv1 ++ (Pgnv1 ++ (Pgnv1 ++ (Pgnv1 ++ (Pgnv1 ++ (Pgnv1 ++ (Pgnv1 ++ (Pgnv1 ++ Pgnv2)))))))))))
def Pgnh4 : List Obj := []
def Pgnv3 : List Value := [kf 5, kf 6, kf 7, kf 8, vX, vX, vX, vX, vB false, vP 0 0, vX, vX]
def Pgnv4 : List Value := [kf 5, kf 16, kf 17, kf 9, vG [kf 9, vI 1, vZ], vX, vX, vX, vX, vX, vX, vX]
def Pgnl7 : List Value := Pgnv3 ++ (Pgnv1 ++ (Pgnv4 ++ (Pgnv1 ++ (Pgnv1 ++ (Pgnv1 ++ (Pgnv1 ++ (Pgnv1 ++ (Pgnv1 ++ (Pgnv1 ++ (Pgnv1 ++ (Pgnv1 ++ Pgnv2)))))))))))
def Pgno5 : Obj := oC 25 [kf 9, vI 1, vZ]
def Pgnh9 : List Obj := [Pgno5]
def Pgnv6 : List Value := [kf 5, kf 6, kf 7, kf 8, vX, vX, vX, vX, vB false, vP 0 0, vP 7 0, vP 10 0]
def Pgnv7 : List Value := [kf 5, kf 16, kf 17, kf 9, vG [kf 9, vI 1, vZ], vT [vP 7 0, vP 10 0], vG [kf 9, vI 1, vZ], vT [vP 7 0, vP 10 0], vP 7 0, vP 10 0, vX, vX]
def Pgnl12 : List Value := Pgnv6 ++ (Pgnv1 ++ (Pgnv7 ++ (Pgnv1 ++ (Pgnv1 ++ (Pgnv1 ++ (Pgnv1 ++ (Pgnv1 ++ (Pgnv1 ++ (Pgnv1 ++ (Pgnv1 ++ (Pgnv1 ++ Pgnv2)))))))))))
def Pgno8 : Obj := oC 4 [vU 1, vU 0, vU 0, vU 0, vU 0, vU 0, vU 0, vU 0, vU 0, vU 0, vU 0, vU 0, vU 0, vU 0, vU 0, vU 0, vU 0, vU 0, vU 0, vU 0, vU 0, vU 0, vU 0, vU 0, vU 0, vU 0, vU 0, vU 0, vU 0, vU 0, vU 0, vU 0, vU 0, vU 0, vU 0, vU 0, vU 0, vU 0, vU 0, vU 0, vU 0, vU 0, vU 0, vU 0, vU 0, vU 0, vU 0, vU 0, vU 0, vU 0, vU 0, vU 0, vU 0, vU 0, vU 0, vU 0, vU 0, vU 0, vU 0, vU 0, vU 0, vU 0, vU 0, vU 0, vU 0, vU 0, vU 0, vU 0, vU 0, vU 0, vU 0, vU 0, vU 0, vU 0, vU 0, vU 0, vU 0]
def Pgno9 : Obj := oC 109 [.complex .f32 1 0, vI 0, vI 0, vU 0, vU 0, vI 0]
def Pgno10 : Obj := oC 147 [vP 5 0, vI 1]
def Pgno11 : Obj := oC 119 [kf 9, vZ, vI 1, vP 3 0, vS 6 0 1 1, kf 9]
def Pgno12 : Obj := oC 167 [kf 22, .int .u32 0, vI 0, kf 9, vN, vN]
def Pgno13 : Obj := oC 86 [kf 9, vI 1, vP 2 0, vP 4 0]
def Pgno14 : Obj := oC 64 [.complex .f32 8 0, vI 0, vI 0, vU 0, vU 0, vI 0]
def Pgno15 : Obj := oC 40 [vP 9 0, vA, kf 9, vI 1]
def Pgnh21 : List Obj := [Pgno5, Pgno8, Pgno9, Pgno10, Pgno11, Pgno12, oC 116 [vI 0, kf 9], Pgno13, Pgno8, Pgno14, Pgno15]
def Pgnv16 : List Value := [kf 5, kf 16, kf 17, kf 9, vG [kf 9, vI 1, vZ], vT [vP 7 0, vP 10 0], vG [kf 9, vI 1, vZ], vT [vP 7 0, vP 10 0], vP 7 0, vP 10 0, vP 7 0, vB false]
def Pgnl23 : List Value := Pgnv6 ++ (Pgnv1 ++ (Pgnv16 ++ (Pgnv1 ++ (Pgnv1 ++ (Pgnv1 ++ (Pgnv1 ++ (Pgnv1 ++ (Pgnv1 ++ (Pgnv1 ++ (Pgnv1 ++ (Pgnv1 ++ Pgnv2)))))))))))
def Pgnh24 : List Obj := [Pgno5, Pgno8, Pgno9, Pgno10, Pgno11, Pgno12, oC 116 [vI 0, kf 9], Pgno13, Pgno8, Pgno14, Pgno15]
def Pgnl25 : List Value := Pgnv6 ++ (Pgnv1 ++ (Pgnv16 ++ (Pgnv1 ++ (Pgnv1 ++ (Pgnv1 ++ (Pgnv1 ++ (Pgnv1 ++ (Pgnv1 ++ (Pgnv1 ++ (Pgnv1 ++ (Pgnv1 ++ Pgnv2)))))))))))
def Pgnh26 : List Obj := [Pgno5, Pgno8, Pgno9, Pgno10, Pgno11, Pgno12, oC 116 [vI 0, kf 9], Pgno13, Pgno8, Pgno14, Pgno15]
def Pgnv17 : List Value := [kf 9, vX, vX, vX, vX, vX, vX, vX, vX, vX, vX, vX]
def Pgnv18 : List Value := [kf 6, kf 24, vP 0 0, kf 9, kf 17, kf 9, vX, vX, vX, vX, vX, vX]
def Pgnl29 : List Value := Pgnv6 ++ (Pgnv17 ++ (Pgnv16 ++ (Pgnv18 ++ (Pgnv1 ++ (Pgnv1 ++ (Pgnv1 ++ (Pgnv1 ++ (Pgnv1 ++ (Pgnv1 ++ (Pgnv1 ++ (Pgnv1 ++ Pgnv2)))))))))))
def Pgnh30 : List Obj := [Pgno5, Pgno8, Pgno9, Pgno10, Pgno11, Pgno12, oC 116 [vI 0, kf 9], Pgno13, Pgno8, Pgno14, Pgno15]
def Pgnv19 : List Value := [kf 9, vP 11 0, vX, vX, vX, vX, vX, vX, vX, vX, vX, vX]
def Pgnl32 : List Value := Pgnv6 ++ (Pgnv19 ++ (Pgnv16 ++ (Pgnv18 ++ (Pgnv1 ++ (Pgnv1 ++ (Pgnv1 ++ (Pgnv1 ++ (Pgnv1 ++ (Pgnv1 ++ (Pgnv1 ++ (Pgnv1 ++ Pgnv2)))))))))))
def Pgnh33 : List Obj := [Pgno5, Pgno8, Pgno9, Pgno10, Pgno11, Pgno12, oC 116 [vI 0, kf 9], Pgno13, Pgno8, Pgno14, Pgno15, oC 30 [vU 0, vU 0]]
def Pgnv20 : List Value := [kf 9, vP 11 0, vI 0, vX, vX, vX, vX, vX, vX, vX, vX, vX]
def Pgnl35 : List Value := Pgnv6 ++ (Pgnv20 ++ (Pgnv16 ++ (Pgnv18 ++ (Pgnv1 ++ (Pgnv1 ++ (Pgnv1 ++ (Pgnv1 ++ (Pgnv1 ++ (Pgnv1 ++ (Pgnv1 ++ (Pgnv1 ++ Pgnv2)))))))))))
def Pgnh36 : List Obj := [Pgno5, Pgno8, Pgno9, Pgno10, Pgno11, Pgno12, oC 116 [vI 0, kf 9], Pgno13, Pgno8, Pgno14, Pgno15, oC 30 [vU 0, vU 0]]
def Pgnv21 : List Value := [kf 9, vP 11 0, vI 1, kf 3, vB true, vX, vX, vX, vX, vX, vX, vX]
def Pgnv22 : List Value := [kf 6, kf 24, vP 0 0, kf 9, kf 17, kf 9, vI 0, vI 0, vP 0 0, kf 9, vB true, vI 0]
def Pgnv23 : List Value := [vI 1, vI 0, kf 7, kf 8, vS 12 0 2 2, vI 0, vP 12 0, kf 7, vP 0 0, kf 9, vI 0, vI 0]
def Pgnv24 : List Value := [kf 9, vU 18446744073709551615, kf 25, vP 11 0, vT [kf 3, vB true], vP 10 0, vP 10 0, vP 10 2, vG [kf 9, vI 1], vI 0, vT [kf 3, vB true], kf 3]
def Pgnv25 : List Value := [vB true, vP 7 0, vP 10 0, kf 3, vI 0, vP 11 0, kf 25, vB true, vB false, vX, vX, vX]
def Pgnl42 : List Value := Pgnv6 ++ (Pgnv21 ++ (Pgnv16 ++ (Pgnv22 ++ (Pgnv23 ++ (Pgnv24 ++ (Pgnv25 ++ (Pgnv1 ++ (Pgnv1 ++ (Pgnv1 ++ (Pgnv1 ++ (Pgnv1 ++ Pgnv2)))))))))))
def Pgno26 : Obj := oC 260000004 [vU 1, vU 0, vU 0, vU 0, vU 0, vU 0, vU 0, vU 0, vU 0, vU 0, vU 0, vU 0, vU 0, vU 0, vU 0, vU 0, vU 0, vU 0, vU 0, vU 0, vU 0, vU 0, vU 0, vU 0, vU 0, vU 0, vU 0, vU 0, vU 0, vU 0, vU 0, vU 0, vU 0, vU 0, vU 0, vU 0, vU 0, vU 0, vU 0, vU 0, vU 0, vU 0, vU 0, vU 0, vU 0, vU 0, vU 0, vU 0, vU 0, vU 0, vU 0, vU 0, vU 0, vU 0, vU 0, vU 0, vU 0, vU 0, vU 0, vU 0, vU 0, vU 0, vU 0, vU 0, vU 0, vU 0, vU 0, vU 0, vU 0, vU 0, vU 0, vU 0, vU 0, vU 0, vU 0, vU 0, vU 0]
def Pgno27 : Obj := oC 109 [.complex .f32 1 0, vI 2, kf 3, vU 0, kf 25, vI 1]
def Pgno28 : Obj := oC 64 [.complex .f32 8 0, vI 2, kf 3, vU 0, kf 25, vI 1]
def Pgnh46 : List Obj := [Pgno5, Pgno26, Pgno27, Pgno10, Pgno11, Pgno12, oC 116 [vI 0, kf 9], Pgno13, Pgno26, Pgno28, Pgno15, oC 30 [kf 25, vU 0], oC 22 [kf 7, kf 8]]
def Pgnv29 : List Value := [kf 9, vP 11 0, vI 2, kf 4, vB true, vX, vX, vX, vX, vX, vX, vX]
def Pgnv30 : List Value := [kf 6, kf 24, vP 0 0, kf 9, kf 17, kf 9, vI 1, vI 64, vP 0 0, kf 9, vB true, vI 1]
def Pgnv31 : List Value := [vI 2, vI 1, kf 7, kf 8, vS 12 0 2 2, vI 1, vP 12 1, kf 8, vP 0 0, kf 9, vI 1, vI 64]
def Pgnv32 : List Value := [kf 15, kf 11, kf 26, vP 11 1, vT [kf 4, vB true], vP 10 0, vP 10 0, vP 10 2, vG [kf 9, vI 1], vI 1, vT [kf 4, vB true], kf 4]
def Pgnv33 : List Value := [vB true, vP 7 0, vP 10 0, kf 4, vI 1, vP 11 1, kf 26, vB true, vB false, vX, vX, vX]
def Pgnl52 : List Value := Pgnv6 ++ (Pgnv29 ++ (Pgnv16 ++ (Pgnv30 ++ (Pgnv31 ++ (Pgnv32 ++ (Pgnv33 ++ (Pgnv1 ++ (Pgnv1 ++ (Pgnv1 ++ (Pgnv1 ++ (Pgnv1 ++ Pgnv2)))))))))))
def Pgno34 : Obj := oC 270260000004 [vU 1, vU 0, vU 0, vU 0, vU 0, vU 0, vU 0, vU 0, vU 0, vU 0, vU 0, vU 0, vU 0, vU 0, vU 0, vU 0, vU 0, vU 0, vU 0, vU 0, vU 0, vU 0, vU 0, vU 0, vU 0, vU 0, vU 0, vU 0, vU 0, vU 0, vU 0, vU 0, vU 0, vU 0, vU 0, vU 0, vU 0, vU 0, vU 0, vU 0, vU 0, vU 0, vU 0, vU 0, vU 0, vU 0, vU 0, vU 0, vU 0, vU 0, vU 0, vU 0, vU 0, vU 0, vU 0, vU 0, vU 0, vU 0, vU 0, vU 0, vU 0, vU 0, vU 0, vU 0, vU 0, vU 0, vU 0, vU 0, vU 0, vU 0, vU 0, vU 0, vU 0, vU 0, vU 0, vU 0, vU 0]
def Pgno35 : Obj := oC 109 [.complex .f32 1 0, vI 2, kf 4, vU 0, kf 26, vI 2]
def Pgno36 : Obj := oC 64 [.complex .f32 8 0, vI 2, kf 4, vU 0, kf 26, vI 2]
def Pgnh56 : List Obj := [Pgno5, Pgno34, Pgno35, Pgno10, Pgno11, Pgno12, oC 116 [vI 0, kf 9], Pgno13, Pgno34, Pgno36, Pgno15, oC 30 [kf 25, kf 26], oC 22 [kf 7, kf 8]]
def Pgnv37 : List Value := [kf 6, kf 24, vP 0 0, kf 9, kf 17, kf 9, vI 2, vI 128, vP 0 0, kf 9, vB false, vI 1]
def Pgnl58 : List Value := Pgnv6 ++ (Pgnv29 ++ (Pgnv16 ++ (Pgnv37 ++ (Pgnv31 ++ (Pgnv32 ++ (Pgnv33 ++ (Pgnv1 ++ (Pgnv1 ++ (Pgnv1 ++ (Pgnv1 ++ (Pgnv1 ++ Pgnv2)))))))))))
def Pgnh59 : List Obj := [Pgno5, Pgno34, Pgno35, Pgno10, Pgno11, Pgno12, oC 116 [vI 0, kf 9], Pgno13, Pgno34, Pgno36, Pgno15, oC 30 [kf 25, kf 26], oC 22 [kf 7, kf 8]]
def Pgnv38 : List Value := [kf 9, vP 11 0, vI 2, kf 4, vB true, vP 15 0, vX, vX, vX, vX, vX, vX]
def Pgnv39 : List Value := [vB true, vP 7 0, vP 10 0, kf 4, vI 1, vP 11 1, kf 26, vB true, vB false, vP 10 0, vP 10 0, vP 10 2]
def Pgnv40 : List Value := [vG [kf 9, vI 1], kf 9, vP 15 0, vX, vX, vX, vX, vX, vX, vX, vX, vX]
def Pgnl63 : List Value := Pgnv6 ++ (Pgnv38 ++ (Pgnv16 ++ (Pgnv37 ++ (Pgnv31 ++ (Pgnv32 ++ (Pgnv39 ++ (Pgnv40 ++ (Pgnv1 ++ (Pgnv1 ++ (Pgnv1 ++ (Pgnv1 ++ Pgnv2)))))))))))
def Pgno41 : Obj := oC 75 [kf 9, vI 1, vF 51 [] [vP 22 0, vP 23 0], kf 9, vZ, vZ, vZ, vI 0, vI 2]
def Pgno42 : Obj := oC 100 [kf 9, vI 1, vF 75 [] [vP 18 0, vP 19 0, vP 20 0, vP 21 0]]
def Pgno43 : Obj := oC 102 [vF 53 [] [vP 17 0]]
def Pgno44 : Obj := oC 98 [.iface 77 (vP 16 0)]
def Pgno45 : Obj := oC 1 [vF 32 [] [vP 14 0, vP 13 0]]
def Pgnh69 : List Obj := [Pgno5, Pgno34, Pgno35, Pgno10, Pgno11, Pgno12, oC 116 [vI 0, kf 9], Pgno13, Pgno34, Pgno36, Pgno15, oC 30 [kf 25, kf 26], oC 22 [kf 7, kf 8], oC 3 [kf 9], oC 42 [vP 15 0], Pgno41, Pgno42, oC 77 [vP 16 0], oC 3 [vI 2], oC 22 [vU 0], oC 22 [vU 1], Pgno43, Pgno44, Pgno45]
def Pgnv46 : List Value := [kf 9, vP 11 0, vI 2, kf 4, vB true, vP 15 0, vI 0, vX, vX, vX, vX, vX]
def Pgnl71 : List Value := Pgnv6 ++ (Pgnv46 ++ (Pgnv16 ++ (Pgnv37 ++ (Pgnv31 ++ (Pgnv32 ++ (Pgnv39 ++ (Pgnv40 ++ (Pgnv1 ++ (Pgnv1 ++ (Pgnv1 ++ (Pgnv1 ++ Pgnv2)))))))))))
def Pgnh72 : List Obj := [Pgno5, Pgno34, Pgno35, Pgno10, Pgno11, Pgno12, oC 116 [vI 0, kf 9], Pgno13, Pgno34, Pgno36, Pgno15, oC 30 [kf 25, kf 26], oC 22 [kf 7, kf 8], oC 3 [kf 9], oC 42 [vP 15 0], Pgno41, Pgno42, oC 77 [vP 16 0], oC 3 [vI 2], oC 22 [vU 0], oC 22 [vU 1], Pgno43, Pgno44, Pgno45]
def Pgnv47 : List Value := [kf 9, vP 11 0, vI 2, kf 4, vB true, vP 13 0, vI 1, vX, vX, vX, vX, vX]
def Pgnv48 : List Value := [vG [kf 9, vI 1], kf 9, vP 13 0, vP 13 0, vB true, vB true, vI 0, vB true, vB true, vB true, vP 13 0, vB false]
def Pgnv49 : List Value := [vB true, vB true, vI 0, vI 1, vP 13 0, vP 7 0, vG [vI 3, vI 2, vU 0, vU 1], vX, vX, vX, vX, vX]
def Pgnl76 : List Value := Pgnv6 ++ (Pgnv47 ++ (Pgnv16 ++ (Pgnv37 ++ (Pgnv31 ++ (Pgnv32 ++ (Pgnv39 ++ (Pgnv48 ++ (Pgnv49 ++ (Pgnv1 ++ (Pgnv1 ++ (Pgnv1 ++ Pgnv2)))))))))))
def Pgno50 : Obj := oC 270260000004 [vU 1, vU 0, vU 1, vU 0, vU 0, vU 0, vU 0, vU 0, vU 0, vU 0, vU 0, vU 0, vU 0, vU 0, vU 0, vU 0, vU 0, vU 0, vU 0, vU 0, vU 0, vU 0, vU 0, vU 0, vU 0, vU 0, vU 0, vU 0, vU 0, vU 0, vU 0, vU 0, vU 0, vU 0, vU 0, vU 0, vU 0, vU 0, vU 0, vU 0, vU 0, vU 0, vU 0, vU 0, vU 0, vU 0, vU 0, vU 0, vU 0, vU 0, vU 0, vU 0, vU 0, vU 0, vU 0, vU 0, vU 0, vU 0, vU 0, vU 0, vU 0, vU 0, vU 0, vU 0, vU 0, vU 0, vU 0, vU 0, vU 0, vU 0, vU 0, vU 0, vU 0, vU 0, vU 0, vU 0, vU 0]
def Pgno51 : Obj := oC 109 [.complex .f32 1 0, vI 3, vI 2, vU 0, vU 1, vI 3]
def Pgno52 : Obj := oC 75 [kf 9, vI 1, vF 55 [] [vP 15 0, vP 16 0, vP 14 0], kf 9, vZ, vZ, vZ, vI 0, vI 2]
def Pgno53 : Obj := oC 80 [vF 34 [vP 13 0] []]
def Pgno54 : Obj := oC 81 [vF 35 [vP 13 0] []]
def Pgnh82 : List Obj := [Pgno5, Pgno50, Pgno51, Pgno10, Pgno11, Pgno12, oC 116 [vI 0, kf 9], Pgno13, Pgno34, Pgno36, Pgno15, oC 30 [kf 25, kf 26], oC 22 [kf 7, kf 8], Pgno52, oC 3 [kf 9], Pgno53, Pgno54]
def Pgnv55 : List Value := [kf 5, kf 6, kf 7, kf 8, vX, vX, vX, vX, vB false, vP 0 0, vP 6 0, vP 9 0]
def Pgnv56 : List Value := [kf 9, vP 10 0, vI 2, kf 4, vB true, vP 12 0, vI 2, vX, vX, vX, vX, vX]
def Pgnv57 : List Value := [kf 5, kf 16, kf 17, kf 9, vG [kf 9, vI 1, vZ], vT [vP 6 0, vP 9 0], vG [kf 9, vI 1, vZ], vT [vP 6 0, vP 9 0], vP 6 0, vP 9 0, vP 6 0, vB false]
def Pgnv58 : List Value := [vI 2, vI 1, kf 7, kf 8, vS 11 0 2 2, vI 1, vP 11 1, kf 8, vP 0 0, kf 9, vI 1, vI 64]
def Pgnv59 : List Value := [kf 15, kf 11, kf 26, vP 10 1, vT [kf 4, vB true], vP 9 0, vP 9 0, vP 9 2, vG [kf 9, vI 1], vI 1, vT [kf 4, vB true], kf 4]
def Pgnv60 : List Value := [vB true, vP 6 0, vP 9 0, kf 4, vI 1, vP 10 1, kf 26, vB true, vB false, vP 9 0, vP 9 0, vP 9 2]
def Pgnv61 : List Value := [vG [kf 9, vI 1], kf 9, vP 12 0, vP 12 0, vB true, vB true, vI 1, vB true, vB true, vB true, vP 12 0, vB false]
def Pgnv62 : List Value := [vB true, vB true, vI 1, vI 2, vP 12 0, vP 6 0, vG [vI 6, vI 0, kf 28, kf 29], vX, vX, vX, vX, vX]
def Pgnl91 : List Value := Pgnv55 ++ (Pgnv56 ++ (Pgnv57 ++ (Pgnv37 ++ (Pgnv58 ++ (Pgnv59 ++ (Pgnv60 ++ (Pgnv61 ++ (Pgnv62 ++ (Pgnv1 ++ (Pgnv1 ++ (Pgnv1 ++ Pgnv2)))))))))))
def Pgno63 : Obj := oC 119 [kf 9, vZ, vI 1, vP 3 0, vS 5 0 0 1, kf 27]
def Pgno64 : Obj := oC 64 [.complex .f32 7 0, vI 2, kf 4, vU 0, kf 26, vI 2]
def Pgno65 : Obj := oC 40 [vP 8 0, vA, kf 9, vI 1]
def Pgno66 : Obj := oC 75 [kf 9, vI 1, vF 108 [] [vP 18 0, vP 19 0, vP 20 0], kf 9, vZ, vZ, vS 13 0 2 2, vI 0, vI 2]
def Pgno67 : Obj := oC 142 [vI 0, kf 12, vI 1, kf 11]
def Pgno68 : Obj := oC 137 [vF 88 [] [vP 14 0, vP 17 0, vP 16 0, vP 15 0]]
def Pgnh98 : List Obj := [Pgno5, Pgno50, Pgno51, oC 147 [vN, vI 0], Pgno63, oC 116 [vI 0, vI 0], Pgno13, Pgno34, Pgno64, Pgno65, oC 30 [kf 25, kf 26], oC 22 [kf 7, kf 8], Pgno66, Pgno67, oC 42 [vP 12 0], oC 3 [vI 0], oC 142 [vI 0, kf 12], oC 3 [kf 3], oC 3 [kf 1], oC 22 [kf 12], Pgno68]
def Pgnv69 : List Value := [kf 9, vP 10 0, vI 2, kf 4, vB true, vP 12 0, vI 3, vX, vX, vX, vX, vX]
def Pgnv70 : List Value := [vG [kf 9, vI 1], kf 9, vP 12 0, vP 12 0, vB true, vB true, vI 2, vB true, vB true, vB true, vP 12 0, vB false]
def Pgnv71 : List Value := [vB true, vB true, vI 2, vI 3, vP 12 0, vP 6 0, vG [vI 5, kf 1, vU 0, kf 12], vX, vX, vX, vX, vX]
def Pgnl102 : List Value := Pgnv55 ++ (Pgnv69 ++ (Pgnv57 ++ (Pgnv37 ++ (Pgnv58 ++ (Pgnv59 ++ (Pgnv60 ++ (Pgnv70 ++ (Pgnv71 ++ (Pgnv1 ++ (Pgnv1 ++ (Pgnv1 ++ Pgnv2)))))))))))
def Pgno72 : Obj := oC 270260000134 [vU 1, vU 0, vU 1, vU 0, vU 0, vU 0, vU 0, vU 0, vU 0, vU 0, vU 0, vU 0, vU 0, vU 0, vU 0, vU 0, vU 0, vU 0, vU 0, vU 0, vU 0, vU 0, vU 0, vU 0, vU 0, vU 0, vU 0, vU 0, vU 0, vU 0, vU 0, vU 0, vU 0, vU 0, vU 0, vU 0, vU 0, vU 0, vU 0, vU 0, vU 0, vU 0, vU 0, vU 0, vU 0, vU 0, vU 0, vU 0, vU 0, vU 0, vU 0, vU 0, vU 0, vU 0, vU 0, vU 0, vU 0, vU 0, vU 0, vU 0, vU 0, vU 0, vU 0, vU 0, vU 0, vU 0, vU 0, vU 0, vU 0, vU 0, vU 0, vU 0, vU 0, vU 0, vU 0, vU 0, vU 0]
def Pgno73 : Obj := oC 109 [.complex .f32 1 0, vI 5, kf 1, vU 0, kf 12, vI 4]
def Pgno74 : Obj := oC 75 [kf 9, vI 1, vF 100 [] [vP 18 0, vP 19 0], kf 9, vZ, vZ, vS 13 0 2 2, vI 0, vI 2]
def Pgno75 : Obj := oC 137 [vF 89 [] [vP 16 0, vP 14 0, vP 15 0, vP 17 0]]
def Pgnh107 : List Obj := [Pgno5, Pgno72, Pgno73, oC 147 [vN, vI 0], Pgno63, oC 116 [vI 0, vI 0], Pgno13, Pgno34, Pgno64, Pgno65, oC 30 [kf 25, kf 26], oC 22 [kf 7, kf 8], Pgno74, Pgno67, oC 42 [vP 12 0], oC 3 [vI 0], oC 142 [vI 0, kf 12], oC 3 [kf 3], oC 3 [kf 3], Pgno75]
def Pgnv76 : List Value := [kf 9, vP 10 0, vI 2, kf 4, vB true, vP 12 0, vI 4, vX, vX, vX, vX, vX]
def Pgnv77 : List Value := [vG [kf 9, vI 1], kf 9, vP 12 0, vP 12 0, vB true, vB true, vI 3, vB true, vB true, vB true, vP 12 0, vB false]
def Pgnv78 : List Value := [vB true, vB true, vI 3, vI 4, vP 12 0, vP 6 0, vG [vI 1, kf 3, kf 25, kf 25], vX, vX, vX, vX, vX]
def Pgnl111 : List Value := Pgnv55 ++ (Pgnv76 ++ (Pgnv57 ++ (Pgnv37 ++ (Pgnv58 ++ (Pgnv59 ++ (Pgnv60 ++ (Pgnv77 ++ (Pgnv78 ++ (Pgnv1 ++ (Pgnv1 ++ (Pgnv1 ++ Pgnv2)))))))))))
def Pgno79 : Obj := oC 109 [.complex .f32 1 0, vI 1, kf 3, kf 25, kf 25, vI 5]
def Pgnh113 : List Obj := [Pgno5, Pgno72, Pgno79, oC 147 [vN, vI 0], Pgno63, oC 116 [vI 0, vI 0], Pgno13, Pgno34, Pgno64, Pgno65, oC 30 [kf 25, kf 26], oC 22 [kf 7, kf 8], Pgno66, Pgno67, oC 42 [vP 12 0], oC 3 [vI 1], oC 142 [vI 1, kf 11], oC 3 [kf 4], oC 3 [kf 2], oC 22 [kf 11], Pgno68]
def Pgnv80 : List Value := [kf 9, vP 10 0, vI 2, kf 4, vB true, vP 12 0, vI 5, vX, vX, vX, vX, vX]
def Pgnv81 : List Value := [vG [kf 9, vI 1], kf 9, vP 12 0, vP 12 0, vB true, vB true, vI 4, vB true, vB true, vB true, vP 12 0, vB false]
def Pgnv82 : List Value := [vB true, vB true, vI 4, vI 5, vP 12 0, vP 6 0, vG [vI 5, kf 2, vU 0, kf 11], vX, vX, vX, vX, vX]
def Pgnl117 : List Value := Pgnv55 ++ (Pgnv80 ++ (Pgnv57 ++ (Pgnv37 ++ (Pgnv58 ++ (Pgnv59 ++ (Pgnv60 ++ (Pgnv81 ++ (Pgnv82 ++ (Pgnv1 ++ (Pgnv1 ++ (Pgnv1 ++ Pgnv2)))))))))))
def Pgno83 : Obj := oC 270260120134 [vU 1, vU 0, vU 1, vU 0, vU 0, vU 0, vU 0, vU 0, vU 0, vU 0, vU 0, vU 0, vU 0, vU 0, vU 0, vU 0, vU 0, vU 0, vU 0, vU 0, vU 0, vU 0, vU 0, vU 0, vU 0, vU 0, vU 0, vU 0, vU 0, vU 0, vU 0, vU 0, vU 0, vU 0, vU 0, vU 0, vU 0, vU 0, vU 0, vU 0, vU 0, vU 0, vU 0, vU 0, vU 0, vU 0, vU 0, vU 0, vU 0, vU 0, vU 0, vU 0, vU 0, vU 0, vU 0, vU 0, vU 0, vU 0, vU 0, vU 0, vU 0, vU 0, vU 0, vU 0, vU 0, vU 0, vU 0, vU 0, vU 0, vU 0, vU 0, vU 0, vU 0, vU 0, vU 0, vU 0, vU 0]
def Pgno84 : Obj := oC 109 [.complex .f32 1 0, vI 5, kf 2, vU 0, kf 11, vI 6]
def Pgnh120 : List Obj := [Pgno5, Pgno83, Pgno84, oC 147 [vN, vI 0], Pgno63, oC 116 [vI 0, vI 0], Pgno13, Pgno34, Pgno64, Pgno65, oC 30 [kf 25, kf 26], oC 22 [kf 7, kf 8], Pgno74, Pgno67, oC 42 [vP 12 0], oC 3 [vI 1], oC 142 [vI 1, kf 11], oC 3 [kf 4], oC 3 [kf 4], Pgno75]
def Pgnv85 : List Value := [kf 9, vP 10 0, vI 2, kf 4, vB true, vP 12 0, vI 6, vX, vX, vX, vX, vX]
def Pgnv86 : List Value := [vG [kf 9, vI 1], kf 9, vP 12 0, vP 12 0, vB true, vB true, vI 5, vB true, vB true, vB true, vP 12 0, vB false]
def Pgnv87 : List Value := [vB true, vB true, vI 5, vI 6, vP 12 0, vP 6 0, vG [vI 1, kf 4, kf 26, kf 26], vX, vX, vX, vX, vX]
def Pgnl124 : List Value := Pgnv55 ++ (Pgnv85 ++ (Pgnv57 ++ (Pgnv37 ++ (Pgnv58 ++ (Pgnv59 ++ (Pgnv60 ++ (Pgnv86 ++ (Pgnv87 ++ (Pgnv1 ++ (Pgnv1 ++ (Pgnv1 ++ Pgnv2)))))))))))
def Pgno88 : Obj := oC 109 [.complex .f32 1 0, vI 1, kf 4, kf 26, kf 26, vI 7]
def Pgno89 : Obj := oC 75 [kf 9, vI 1, vF 51 [] [vP 20 0, vP 21 0], kf 9, vZ, vZ, vS 13 0 2 2, vI 0, vI 2]
def Pgno90 : Obj := oC 176 [kf 9, vI 1, vF 125 [] [vP 17 0, vP 18 0, vP 19 0]]
def Pgno91 : Obj := oC 1 [vF 54 [vP 16 0] []]
def Pgno92 : Obj := oC 98 [.iface 158 (vP 16 0)]
def Pgno93 : Obj := oC 1 [vF 104 [] [vP 15 0, vP 14 0]]
def Pgnh131 : List Obj := [Pgno5, Pgno83, Pgno88, oC 147 [vN, vI 0], Pgno63, oC 116 [vI 0, vI 0], Pgno13, Pgno34, Pgno64, Pgno65, oC 30 [kf 25, kf 26], oC 22 [kf 7, kf 8], Pgno89, Pgno67, oC 42 [vP 12 0], oC 48 [vI 0], Pgno90, oC 3 [vI 2], oC 22 [vU 0], Pgno91, Pgno92, Pgno93]
def Pgnv94 : List Value := [kf 9, vP 10 0, vI 2, kf 4, vB true, vP 12 0, vI 7, vX, vX, vX, vX, vX]
def Pgnv95 : List Value := [vG [kf 9, vI 1], kf 9, vP 12 0, vP 12 0, vB true, vB true, vI 6, vB true, vB true, vB true, vP 12 0, vB false]
def Pgnv96 : List Value := [vB true, vB true, vI 6, vI 7, vP 12 0, vP 6 0, vG [vI 2, vI 2, vU 1, vU 0], vX, vX, vX, vX, vX]
def Pgnl135 : List Value := Pgnv55 ++ (Pgnv94 ++ (Pgnv57 ++ (Pgnv37 ++ (Pgnv58 ++ (Pgnv59 ++ (Pgnv60 ++ (Pgnv95 ++ (Pgnv96 ++ (Pgnv1 ++ (Pgnv1 ++ (Pgnv1 ++ Pgnv2)))))))))))
def Pgno97 : Obj := oC 270260120134 [vU 1, vU 0, vU 0, vU 0, vU 0, vU 0, vU 0, vU 0, vU 0, vU 0, vU 0, vU 0, vU 0, vU 0, vU 0, vU 0, vU 0, vU 0, vU 0, vU 0, vU 0, vU 0, vU 0, vU 0, vU 0, vU 0, vU 0, vU 0, vU 0, vU 0, vU 0, vU 0, vU 0, vU 0, vU 0, vU 0, vU 0, vU 0, vU 0, vU 0, vU 0, vU 0, vU 0, vU 0, vU 0, vU 0, vU 0, vU 0, vU 0, vU 0, vU 0, vU 0, vU 0, vU 0, vU 0, vU 0, vU 0, vU 0, vU 0, vU 0, vU 0, vU 0, vU 0, vU 0, vU 0, vU 0, vU 0, vU 0, vU 0, vU 0, vU 0, vU 0, vU 0, vU 0, vU 0, vU 0, vU 0]
def Pgno98 : Obj := oC 109 [.complex .f32 1 0, vI 2, vI 2, vU 1, vU 0, vI 8]
def Pgno99 : Obj := oC 75 [kf 9, vI 1, .nilFunc, kf 9, vZ, vZ, vS 13 0 2 2, vI 0, vI 0]
def Pgnh139 : List Obj := [Pgno5, Pgno97, Pgno98, oC 147 [vN, vI 0], Pgno63, oC 116 [vI 0, vI 0], Pgno13, Pgno34, Pgno64, Pgno65, oC 30 [kf 25, kf 26], oC 22 [kf 7, kf 8], Pgno99, Pgno67]
def Pgnv100 : List Value := [vG [kf 9, vI 1], kf 9, vP 12 0, vP 12 0, vB true, vB true, vI 7, vB true, vB true, vB true, vP 12 0, vB true]
def Pgnv101 : List Value := [vB false, vB false, vI 6, vI 7, vP 12 0, vP 6 0, vG [vI 2, vI 2, vU 1, vU 0], vX, vX, vX, vX, vX]
def Pgnl142 : List Value := Pgnv55 ++ (Pgnv94 ++ (Pgnv57 ++ (Pgnv37 ++ (Pgnv58 ++ (Pgnv59 ++ (Pgnv60 ++ (Pgnv100 ++ (Pgnv101 ++ (Pgnv1 ++ (Pgnv1 ++ (Pgnv1 ++ Pgnv2)))))))))))
def Pgnh143 : List Obj := [Pgno5, Pgno97, Pgno98, oC 147 [vN, vI 0], Pgno63, oC 116 [vI 0, vI 0], Pgno13, Pgno34, Pgno64, Pgno65, oC 30 [kf 25, kf 26], oC 22 [kf 7, kf 8], Pgno99, Pgno67]
def Pgnv102 : List Value := [kf 9, vP 10 0, vI 2, kf 4, vB true, vP 12 0, vI 7, vI 0, vI 0, vX, vX, vX]
def Pgnv103 : List Value := [vB false, vB false, vI 6, vI 7, vP 12 0, vP 6 0, vG [vI 2, vI 2, vU 1, vU 0], vT [vI 0, vI 0], vP 12 0, vT [vI 0, vI 0], vI 0, vI 0]
def Pgnl146 : List Value := Pgnv55 ++ (Pgnv102 ++ (Pgnv57 ++ (Pgnv37 ++ (Pgnv58 ++ (Pgnv59 ++ (Pgnv60 ++ (Pgnv100 ++ (Pgnv103 ++ (Pgnv1 ++ (Pgnv1 ++ (Pgnv1 ++ Pgnv2)))))))))))
def Pgnh147 : List Obj := [Pgno5, Pgno97, Pgno98, oC 147 [vN, vI 0], Pgno63, oC 116 [vI 0, vI 0], Pgno13, Pgno34, Pgno64, Pgno65, oC 30 [kf 25, kf 26], oC 22 [kf 7, kf 8], Pgno99, Pgno67]
def Pgnv104 : List Value := [vI 0, vB false, vB false, vI 0, vB false, vB false, vX, vX, vX, vX, vX, vX]
def Pgnl149 : List Value := Pgnv55 ++ (Pgnv102 ++ (Pgnv57 ++ (Pgnv37 ++ (Pgnv58 ++ (Pgnv59 ++ (Pgnv60 ++ (Pgnv100 ++ (Pgnv103 ++ (Pgnv104 ++ (Pgnv1 ++ (Pgnv1 ++ Pgnv2)))))))))))
def Pgnh150 : List Obj := [Pgno5, Pgno97, Pgno98, oC 147 [vN, vI 0], Pgno63, oC 116 [vI 0, vI 0], Pgno13, Pgno34, Pgno64, Pgno65, oC 30 [kf 25, kf 26], oC 22 [kf 7, kf 8], Pgno99, Pgno67]
def Pgnl151 : List Value := Pgnv55 ++ (Pgnv102 ++ (Pgnv57 ++ (Pgnv37 ++ (Pgnv58 ++ (Pgnv59 ++ (Pgnv60 ++ (Pgnv100 ++ (Pgnv103 ++ (Pgnv104 ++ (Pgnv1 ++ (Pgnv1 ++ Pgnv2)))))))))))
def Pgnh152 : List Obj := [Pgno5, Pgno97, Pgno98, oC 147 [vN, vI 0], Pgno63, oC 116 [vI 0, vI 0], Pgno13, Pgno34, Pgno64, Pgno65, oC 30 [kf 25, kf 26], oC 22 [kf 7, kf 8], Pgno99, Pgno67]
theorem Pgnp0 : PgS PgnO (seqL (pgC 0)) Pg0 [] .normal Pgnl3 Pgnh4 := pgS_ev [] (by decide +kernel)
theorem Pgnp1 : PgS PgnO (seqL (pgC 1)) Pgnl3 Pgnh4 .normal Pgnl7 Pgnh9 := pgS_ev [0] (by decide +kernel)
theorem Pgnp2 : PgS PgnO (seqL (pgC 2)) Pgnl7 Pgnh9 .normal Pgnl12 Pgnh21 := pgS_ev [0, 13, 14, 15, 16, 20, 22, 23, 30, 31, 32] (by decide +kernel)
theorem Pgnp3 : PgS PgnO (seqL (seqL (pgC 3))) Pgnl12 Pgnh21 .normal Pgnl23 Pgnh24 := pgS_ev [0, 1, 2, 3, 4, 5, 6, 7, 8, 9, 10] (by decide +kernel)
theorem Pgnp4 : PgS PgnO (seqR (seqL (pgC 3))) Pgnl23 Pgnh24 .normal Pgnl25 Pgnh26 := pgS_ev [0, 1, 2, 3, 4, 5, 6, 7, 8, 9, 10] (by decide +kernel)
theorem Pgnp5 : PgS PgnO (seqL (pgC 4)) Pgnl25 Pgnh26 .normal Pgnl29 Pgnh30 := pgS_ev [0, 1, 2, 3, 4, 5, 6, 7, 8, 9, 10] (by decide +kernel)
theorem Pgnp6 : PgS PgnO (seqL (pgC 5)) Pgnl29 Pgnh30 .normal Pgnl32 Pgnh33 := pgS_ev [0, 1, 2, 3, 4, 5, 6, 7, 8, 9, 10, 11] (by decide +kernel)
theorem Pgnp7 : PgS PgnO (seqL (seqL (pgC 6))) Pgnl32 Pgnh33 .normal Pgnl35 Pgnh36 := pgS_ev [0, 1, 2, 3, 4, 5, 6, 7, 8, 9, 10, 11] (by decide +kernel)
theorem Pgnp8 : PgS PgnO (inL (inB (seqR (seqL (pgC 6))))) Pgnl35 Pgnh36 .normal Pgnl42 Pgnh46 := pgS_ev [0, 1, 2, 3, 4, 5, 6, 7, 8, 9, 10, 11, 12] (by decide +kernel)
theorem Pgnp9 : PgS PgnO (inL (inB (seqR (seqL (pgC 6))))) Pgnl42 Pgnh46 .normal Pgnl52 Pgnh56 := pgS_ev [0, 1, 2, 3, 4, 5, 6, 7, 8, 9, 10, 11, 13] (by decide +kernel)
theorem Pgnp10 : PgS PgnO (inL (inB (seqR (seqL (pgC 6))))) Pgnl52 Pgnh56 (.exit 0) Pgnl58 Pgnh59 := pgS_ev [0, 1, 2, 3, 4, 5, 6, 7, 8, 9, 10, 11, 12] (by decide +kernel)
theorem Pgnp11 : PgS PgnO (seqL (pgC 7)) Pgnl58 Pgnh59 .normal Pgnl63 Pgnh69 := pgS_ev [0, 1, 2, 3, 4, 5, 6, 7, 8, 9, 10, 11, 12, 14, 17, 18, 22, 23, 24, 25, 26, 27, 28, 29] (by decide +kernel)
theorem Pgnp12 : PgS PgnO (seqL (seqL (pgC 8))) Pgnl63 Pgnh69 .normal Pgnl71 Pgnh72 := pgS_ev [0, 1, 2, 3, 4, 5, 6, 7, 8, 9, 10, 11, 12, 13, 14, 15, 16, 17, 18, 19, 20, 21, 22, 23] (by decide +kernel)
theorem Pgnp13 : PgS PgnO (inL (inB (seqR (seqL (pgC 8))))) Pgnl71 Pgnh72 .normal Pgnl76 Pgnh82 := pgS_ev [0, 1, 2, 3, 4, 5, 6, 7, 8, 9, 10, 11, 12, 15, 34, 35, 36] (by decide +kernel)
theorem Pgnp14 : PgS PgnO (inL (inB (seqR (seqL (pgC 8))))) Pgnl76 Pgnh82 .normal Pgnl91 Pgnh98 := pgS_ev [0, 1, 2, 3, 4, 6, 7, 8, 9, 10, 11, 12, 13, 30, 31, 32, 33, 34, 51, 52, 53] (by decide +kernel)
theorem Pgnp15 : PgS PgnO (inL (inB (seqR (seqL (pgC 8))))) Pgnl91 Pgnh98 .normal Pgnl102 Pgnh107 := pgS_ev [0, 1, 2, 3, 4, 5, 6, 7, 8, 9, 10, 11, 12, 13, 14, 15, 16, 17, 25, 26] (by decide +kernel)
theorem Pgnp16 : PgS PgnO (inL (inB (seqR (seqL (pgC 8))))) Pgnl102 Pgnh107 .normal Pgnl111 Pgnh113 := pgS_ev [0, 1, 2, 3, 4, 5, 6, 7, 8, 9, 10, 11, 12, 13, 24, 25, 26, 27, 44, 45, 46] (by decide +kernel)
theorem Pgnp17 : PgS PgnO (inL (inB (seqR (seqL (pgC 8))))) Pgnl111 Pgnh113 .normal Pgnl117 Pgnh120 := pgS_ev [0, 1, 2, 3, 4, 5, 6, 7, 8, 9, 10, 11, 12, 13, 14, 15, 16, 17, 25, 26] (by decide +kernel)
theorem Pgnp18 : PgS PgnO (inL (inB (seqR (seqL (pgC 8))))) Pgnl117 Pgnh120 .normal Pgnl124 Pgnh131 := pgS_ev [0, 1, 2, 3, 4, 5, 6, 7, 8, 9, 10, 11, 12, 13, 26, 27, 30, 31, 32, 33, 34, 35] (by decide +kernel)
theorem Pgnp19 : PgS PgnO (inL (inB (seqR (seqL (pgC 8))))) Pgnl124 Pgnh131 .normal Pgnl135 Pgnh139 := pgS_ev [0, 1, 2, 3, 4, 5, 6, 7, 8, 9, 10, 11, 12, 13] (by decide +kernel)
theorem Pgnp20 : PgS PgnO (inL (inB (seqR (seqL (pgC 8))))) Pgnl135 Pgnh139 (.exit 2) Pgnl142 Pgnh143 := pgS_ev [0, 1, 2, 3, 4, 5, 6, 7, 8, 9, 10, 11, 12, 13] (by decide +kernel)
theorem Pgnp21 : PgS PgnO (seqL (pgC 9)) Pgnl142 Pgnh143 .normal Pgnl146 Pgnh147 := pgS_ev [0, 1, 2, 3, 4, 5, 6, 7, 8, 9, 10, 11, 12, 13] (by decide +kernel)
theorem Pgnp22 : PgS PgnO (seqL (seqL (pgC 10))) Pgnl146 Pgnh147 .normal Pgnl149 Pgnh150 := pgS_ev [0, 1, 2, 3, 4, 5, 6, 7, 8, 9, 10, 11, 12, 13] (by decide +kernel)
theorem Pgnp23 : PgS PgnO (seqR (seqL (pgC 10))) Pgnl149 Pgnh150 .normal Pgnl151 Pgnh152 := pgS_ev [0, 1, 2, 3, 4, 5, 6, 7, 8, 9, 10, 11, 12, 13] (by decide +kernel)
theorem Pgnw : shrOk (fun j => decide (j < 11)) [(kf 9, kf 10), (kf 25, kf 11), (kf 26, kf 12), (kf 12, kf 15), (kf 11, kf 16), (kf 25, kf 13), (kf 26, kf 14)] 0 [0, 1, 2, 6, 9, 10] Pgnl151 Pgnh152 Pg2A Pg2H = true := by decide +kernel
end Go.Proofs.YtfppinabdalblaaGreat
