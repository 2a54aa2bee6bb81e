/- PagerGone: runs, with numbers that are not looked into, in pieces (printed by gen_pg.py). -/
import Derived.Test.YtfppinabdalblaaGreatPgL1
import Derived.Test.YtfppinabdalblaaGreatPgP
namespace Go.Proofs.YtfppinabdalblaaGreat
open Go.RowKit Go.IntWalk
set_option linter.unusedVariables false
set_option linter.unusedSimpArgs false
set_option maxRecDepth 100000
def Pgae : List Ent := [⟨.conv 5 3, [kf 5], kf 16⟩,
  ⟨.bin .rem 3, [kf 16, vI 128], kf 17⟩,
  ⟨.bin .add 3, [vI 1, kf 17], kf 9⟩,
  ⟨.bin .geq 3, [kf 9, vI 1], .bool true⟩,
  ⟨.bin .leq 3, [kf 9, vI 4096], .bool true⟩,
  ⟨.bin .mul 3, [vI 5, kf 9], kf 18⟩,
  ⟨.bin .add 3, [vI 82, kf 18], kf 19⟩,
  ⟨.bin .add 3, [kf 19, kf 9], kf 1⟩,
  ⟨.bin .add 3, [kf 9, vI 64], kf 20⟩,
  ⟨.bin .sub 3, [kf 20, vI 1], kf 21⟩,
  ⟨.bin .quo 3, [kf 21, vI 64], vI 1⟩,
  ⟨.bin .add 3, [kf 1, vI 1], kf 2⟩,
  ⟨.bin .add 3, [kf 2, vI 1], kf 0⟩,
  ⟨.bin .lss 3, [kf 0, vI 1], .bool false⟩,
  ⟨.bin .gtr 3, [kf 0, vI 65536], .bool false⟩,
  ⟨.bin .geq 3, [vI 0, kf 0], .bool false⟩,
  ⟨.bin .lss 3, [kf 9, vI 1], .bool false⟩,
  ⟨.bin .gtr 3, [kf 9, vI 4096], .bool false⟩,
  ⟨.bin .mul 3, [vI 8192, kf 9], kf 22⟩,
  ⟨.bin .add 3, [kf 22, vI 0], kf 22⟩,
  ⟨.bin .add 3, [vI 0, kf 9], kf 9⟩,
  ⟨.bin .mul 3, [vI 6, kf 9], kf 23⟩,
  ⟨.bin .add 3, [vI 82, kf 23], kf 1⟩,
  ⟨.bin .add 3, [kf 9, vI 63], kf 21⟩,
  ⟨.bin .add 3, [kf 1, vI 2], kf 0⟩,
  ⟨.conv 5 3, [kf 6], kf 24⟩,
  ⟨.bin .rem 3, [kf 24, kf 9], kf 25⟩,
  ⟨.bin .add 3, [vI 1, kf 25], kf 10⟩,
  ⟨.bin .lss 3, [vI 0, kf 9], .bool true⟩,
  ⟨.bin .sub 3, [kf 9, vI 0], kf 9⟩,
  ⟨.bin .and 22, [kf 7, kf 11], kf 26⟩,
  ⟨.bin .add 3, [kf 1, vI 0], kf 1⟩,
  ⟨.bin .lss 3, [kf 2, vI 0], .bool false⟩,
  ⟨.bin .geq 3, [kf 2, kf 0], .bool false⟩,
  ⟨.bin .geq 3, [kf 2, vI 0], .bool true⟩,
  ⟨.bin .lss 3, [kf 2, kf 0], .bool true⟩,
  ⟨.bin .lss 3, [vI 64, kf 9], .bool false⟩,
  ⟨.bin .lss 3, [kf 10, vI 1], .bool false⟩,
  ⟨.bin .gtr 3, [kf 10, vI 4096], .bool false⟩,
  ⟨.bin .neq 38, [vG [kf 9, vI 1], vG [kf 9, vI 1]], .bool false⟩,
  ⟨.bin .geq 3, [vI 2, kf 0], .bool false⟩,
  ⟨.bin .gtr 3, [kf 10, kf 9], .bool false⟩,
  ⟨.bin .mul 3, [vI 8192, kf 10], kf 27⟩,
  ⟨.bin .lss 3, [kf 22, kf 27], .bool false⟩,
  ⟨.bin .neq 3, [kf 22, kf 22], .bool false⟩,
  ⟨.bin .neq 3, [kf 9, kf 9], .bool false⟩,
  ⟨.bin .lss 3, [kf 9, kf 9], .bool false⟩,
  ⟨.bin .gtr 3, [kf 9, kf 9], .bool false⟩,
  ⟨.bin .sub 3, [kf 9, kf 9], kf 28⟩,
  ⟨.bin .gtr 3, [kf 9, kf 10], .bool true⟩,
  ⟨.bin .add 3, [vI 0, kf 10], kf 10⟩,
  ⟨.bin .sub 3, [kf 9, kf 10], kf 29⟩,
  ⟨.bin .mul 3, [vI 8192, kf 29], kf 30⟩,
  ⟨.bin .add 3, [kf 30, kf 10], kf 31⟩,
  ⟨.bin .add 3, [kf 28, kf 29], kf 29⟩,
  ⟨.bin .gtr 3, [kf 10, vI 1048576], .bool false⟩,
  ⟨.bin .lss 3, [vI 0, kf 10], .bool true⟩,
  ⟨.mn #[3, 3], [kf 10, vI 64], kf 10⟩,
  ⟨.bin .sub 3, [kf 10, vI 0], kf 10⟩,
  ⟨.bin .shl 22, [kf 12, vI 0], kf 12⟩,
  ⟨.bin .lss 3, [kf 10, kf 10], .bool false⟩,
  ⟨.bin .add 3, [kf 2, vI 0], kf 2⟩,
  ⟨.conv 3 22, [kf 10], kf 32⟩,
  ⟨.conv 3 22, [kf 29], kf 33⟩,
  ⟨.bin .lss 3, [kf 1, vI 0], .bool false⟩,
  ⟨.bin .geq 3, [kf 1, kf 0], .bool false⟩,
  ⟨.bin .add 22, [.int .u64 0, kf 12], kf 12⟩,
  ⟨.bin .and 22, [kf 26, kf 12], kf 34⟩,
  ⟨.bin .eql 22, [kf 34, .int .u64 0], .bool false⟩,
  ⟨.un .neg, [kf 34], kf 35⟩,
  ⟨.bin .add 22, [kf 26, kf 35], kf 36⟩]
def Pgaf : List FnEnt := [⟨14, [], .bool true⟩,
  ⟨44, [kf 9, vZ], vA⟩,
  ⟨5, [kf 9], kf 11⟩,
  ⟨106, [kf 10], kf 12⟩]
def PgaO : Orc := orcS Pgae Pgaf 2 rdG noMkS
def Pgav0 : List Value := [kf 5, kf 6, kf 7, kf 8, vX, vX, vX, vX, vB false, vX, vX, vX]
def Pgav1 : List Value := [vX, vX, vX, vX, vX, vX, vX, vX, vX, vX, vX, vX]
def Pgav2 : List Value := [vX, vX, vX, vX, vX, vX]
def Pgal3 : List Value := Pgav0 ++ (Pgav1 ++ (Pgav1 ++ (Pgav1 ++ (Pgav1 ++ (Pgav1 ++ (Pgav1 ++ (Pgav1 ++ (Pgav1 ++ (Pgav1 ++ (Pgav1 ++ (Pgav1 ++ Pgav2)))))))))))
def Pgah4 : List Obj := []
def Pgav3 : List Value := [kf 5, kf 6, kf 7, kf 8, vX, vX, vX, vX, vB false, vP 0 0, vX, vX]
def Pgav4 : List Value := [kf 5, kf 16, kf 17, kf 9, vG [kf 9, vI 1, vZ], vX, vX, vX, vX, vX, vX, vX]
def Pgal7 : List Value := Pgav3 ++ (Pgav1 ++ (Pgav4 ++ (Pgav1 ++ (Pgav1 ++ (Pgav1 ++ (Pgav1 ++ (Pgav1 ++ (Pgav1 ++ (Pgav1 ++ (Pgav1 ++ (Pgav1 ++ Pgav2)))))))))))
def Pgao5 : Obj := oC 25 [kf 9, vI 1, vZ]
def Pgah9 : List Obj := [Pgao5]
def Pgav6 : List Value := [kf 5, kf 6, kf 7, kf 8, vX, vX, vX, vX, vB false, vP 0 0, vP 7 0, vP 10 0]
def Pgav7 : List Value := [kf 5, kf 16, kf 17, kf 9, vG [kf 9, vI 1, vZ], vT [vP 7 0, vP 10 0], vG [kf 9, vI 1, vZ], vT [vP 7 0, vP 10 0], vP 7 0, vP 10 0, vX, vX]
def Pgal12 : List Value := Pgav6 ++ (Pgav1 ++ (Pgav7 ++ (Pgav1 ++ (Pgav1 ++ (Pgav1 ++ (Pgav1 ++ (Pgav1 ++ (Pgav1 ++ (Pgav1 ++ (Pgav1 ++ (Pgav1 ++ Pgav2)))))))))))
def Pgao8 : Obj := oC 2 [vU 1, vU 0, vU 0, vU 0, vU 0, vU 0, vU 0, vU 0, vU 0, vU 0, vU 0, vU 0, vU 0, vU 0, vU 0, vU 0, vU 0, vU 0, vU 0, vU 0, vU 0, vU 0, vU 0, vU 0, vU 0, vU 0, vU 0, vU 0, vU 0, vU 0, vU 0, vU 0, vU 0, vU 0, vU 0, vU 0, vU 0, vU 0, vU 0, vU 0, vU 0, vU 0, vU 0, vU 0, vU 0, vU 0, vU 0, vU 0, vU 0, vU 0, vU 0, vU 0, vU 0, vU 0, vU 0, vU 0, vU 0, vU 0, vU 0, vU 0, vU 0, vU 0, vU 0, vU 0, vU 0, vU 0, vU 0, vU 0, vU 0, vU 0, vU 0, vU 0, vU 0, vU 0, vU 0, vU 0, vU 0]
def Pgao9 : Obj := oC 109 [.complex .f32 1 0, vI 0, vI 0, vU 0, vU 0, vI 0]
def Pgao10 : Obj := oC 147 [vP 5 0, vI 1]
def Pgao11 : Obj := oC 119 [kf 9, vZ, vI 1, vP 3 0, vS 6 0 1 1, kf 9]
def Pgao12 : Obj := oC 167 [kf 22, .int .u32 0, vI 0, kf 9, vN, vN]
def Pgao13 : Obj := oC 86 [kf 9, vI 1, vP 2 0, vP 4 0]
def Pgao14 : Obj := oC 64 [.complex .f32 8 0, vI 0, vI 0, vU 0, vU 0, vI 0]
def Pgao15 : Obj := oC 40 [vP 9 0, vA, kf 9, vI 1]
def Pgah21 : List Obj := [Pgao5, Pgao8, Pgao9, Pgao10, Pgao11, Pgao12, oC 116 [vI 0, kf 9], Pgao13, Pgao8, Pgao14, Pgao15]
def Pgav16 : List Value := [kf 5, kf 16, kf 17, kf 9, vG [kf 9, vI 1, vZ], vT [vP 7 0, vP 10 0], vG [kf 9, vI 1, vZ], vT [vP 7 0, vP 10 0], vP 7 0, vP 10 0, vP 7 0, vB false]
def Pgal23 : List Value := Pgav6 ++ (Pgav1 ++ (Pgav16 ++ (Pgav1 ++ (Pgav1 ++ (Pgav1 ++ (Pgav1 ++ (Pgav1 ++ (Pgav1 ++ (Pgav1 ++ (Pgav1 ++ (Pgav1 ++ Pgav2)))))))))))
def Pgah24 : List Obj := [Pgao5, Pgao8, Pgao9, Pgao10, Pgao11, Pgao12, oC 116 [vI 0, kf 9], Pgao13, Pgao8, Pgao14, Pgao15]
def Pgal25 : List Value := Pgav6 ++ (Pgav1 ++ (Pgav16 ++ (Pgav1 ++ (Pgav1 ++ (Pgav1 ++ (Pgav1 ++ (Pgav1 ++ (Pgav1 ++ (Pgav1 ++ (Pgav1 ++ (Pgav1 ++ Pgav2)))))))))))
def Pgah26 : List Obj := [Pgao5, Pgao8, Pgao9, Pgao10, Pgao11, Pgao12, oC 116 [vI 0, kf 9], Pgao13, Pgao8, Pgao14, Pgao15]
def Pgav17 : List Value := [kf 10, vX, vX, vX, vX, vX, vX, vX, vX, vX, vX, vX]
def Pgav18 : List Value := [kf 6, kf 24, vP 0 0, kf 9, kf 25, kf 10, vX, vX, vX, vX, vX, vX]
def Pgal29 : List Value := Pgav6 ++ (Pgav17 ++ (Pgav16 ++ (Pgav18 ++ (Pgav1 ++ (Pgav1 ++ (Pgav1 ++ (Pgav1 ++ (Pgav1 ++ (Pgav1 ++ (Pgav1 ++ (Pgav1 ++ Pgav2)))))))))))
def Pgah30 : List Obj := [Pgao5, Pgao8, Pgao9, Pgao10, Pgao11, Pgao12, oC 116 [vI 0, kf 9], Pgao13, Pgao8, Pgao14, Pgao15]
def Pgav19 : List Value := [kf 10, vP 11 0, vX, vX, vX, vX, vX, vX, vX, vX, vX, vX]
def Pgal32 : List Value := Pgav6 ++ (Pgav19 ++ (Pgav16 ++ (Pgav18 ++ (Pgav1 ++ (Pgav1 ++ (Pgav1 ++ (Pgav1 ++ (Pgav1 ++ (Pgav1 ++ (Pgav1 ++ (Pgav1 ++ Pgav2)))))))))))
def Pgah33 : List Obj := [Pgao5, Pgao8, Pgao9, Pgao10, Pgao11, Pgao12, oC 116 [vI 0, kf 9], Pgao13, Pgao8, Pgao14, Pgao15, oC 30 [vU 0, vU 0]]
def Pgav20 : List Value := [kf 10, vP 11 0, vI 0, vX, vX, vX, vX, vX, vX, vX, vX, vX]
def Pgal35 : List Value := Pgav6 ++ (Pgav20 ++ (Pgav16 ++ (Pgav18 ++ (Pgav1 ++ (Pgav1 ++ (Pgav1 ++ (Pgav1 ++ (Pgav1 ++ (Pgav1 ++ (Pgav1 ++ (Pgav1 ++ Pgav2)))))))))))
def Pgah36 : List Obj := [Pgao5, Pgao8, Pgao9, Pgao10, Pgao11, Pgao12, oC 116 [vI 0, kf 9], Pgao13, Pgao8, Pgao14, Pgao15, oC 30 [vU 0, vU 0]]
def Pgav21 : List Value := [kf 10, vP 11 0, vI 1, kf 2, vB true, vX, vX, vX, vX, vX, vX, vX]
def Pgav22 : List Value := [kf 6, kf 24, vP 0 0, kf 9, kf 25, kf 10, vI 0, vI 0, vP 0 0, kf 9, vB true, vI 0]
def Pgav23 : List Value := [vI 1, vI 0, kf 7, kf 8, vS 12 0 2 2, vI 0, vP 12 0, kf 7, vP 0 0, kf 9, vI 0, vI 0]
def Pgav24 : List Value := [kf 9, kf 11, kf 26, vP 11 0, vT [kf 2, vB true], vP 10 0, vP 10 0, vP 10 2, vG [kf 9, vI 1], vI 0, vT [kf 2, vB true], kf 2]
def Pgav25 : List Value := [vB true, vP 7 0, vP 10 0, kf 2, vI 0, vP 11 0, kf 26, vB true, vB false, vX, vX, vX]
def Pgal42 : List Value := Pgav6 ++ (Pgav21 ++ (Pgav16 ++ (Pgav22 ++ (Pgav23 ++ (Pgav24 ++ (Pgav25 ++ (Pgav1 ++ (Pgav1 ++ (Pgav1 ++ (Pgav1 ++ (Pgav1 ++ Pgav2)))))))))))
def Pgao26 : Obj := oC 270002 [vU 1, vU 0, vU 0, vU 0, vU 0, vU 0, vU 0, vU 0, vU 0, vU 0, vU 0, vU 0, vU 0, vU 0, vU 0, vU 0, vU 0, vU 0, vU 0, vU 0, vU 0, vU 0, vU 0, vU 0, vU 0, vU 0, vU 0, vU 0, vU 0, vU 0, vU 0, vU 0, vU 0, vU 0, vU 0, vU 0, vU 0, vU 0, vU 0, vU 0, vU 0, vU 0, vU 0, vU 0, vU 0, vU 0, vU 0, vU 0, vU 0, vU 0, vU 0, vU 0, vU 0, vU 0, vU 0, vU 0, vU 0, vU 0, vU 0, vU 0, vU 0, vU 0, vU 0, vU 0, vU 0, vU 0, vU 0, vU 0, vU 0, vU 0, vU 0, vU 0, vU 0, vU 0, vU 0, vU 0, vU 0]
def Pgao27 : Obj := oC 109 [.complex .f32 1 0, vI 2, kf 2, vU 0, kf 26, vI 1]
def Pgao28 : Obj := oC 64 [.complex .f32 8 0, vI 2, kf 2, vU 0, kf 26, vI 1]
def Pgah46 : List Obj := [Pgao5, Pgao26, Pgao27, Pgao10, Pgao11, Pgao12, oC 116 [vI 0, kf 9], Pgao13, Pgao26, Pgao28, Pgao15, oC 30 [kf 26, vU 0], oC 22 [kf 7, kf 8]]
def Pgav29 : List Value := [kf 6, kf 24, vP 0 0, kf 9, kf 25, kf 10, vI 1, vI 64, vP 0 0, kf 9, vB false, vI 0]
def Pgal48 : List Value := Pgav6 ++ (Pgav21 ++ (Pgav16 ++ (Pgav29 ++ (Pgav23 ++ (Pgav24 ++ (Pgav25 ++ (Pgav1 ++ (Pgav1 ++ (Pgav1 ++ (Pgav1 ++ (Pgav1 ++ Pgav2)))))))))))
def Pgah49 : List Obj := [Pgao5, Pgao26, Pgao27, Pgao10, Pgao11, Pgao12, oC 116 [vI 0, kf 9], Pgao13, Pgao26, Pgao28, Pgao15, oC 30 [kf 26, vU 0], oC 22 [kf 7, kf 8]]
def Pgav30 : List Value := [kf 10, vP 11 0, vI 1, kf 2, vB true, vP 15 0, vX, vX, vX, vX, vX, vX]
def Pgav31 : List Value := [vB true, vP 7 0, vP 10 0, kf 2, vI 0, vP 11 0, kf 26, vB true, vB false, vP 10 0, vP 10 0, vP 10 2]
def Pgav32 : List Value := [vG [kf 9, vI 1], kf 10, vP 15 0, vX, vX, vX, vX, vX, vX, vX, vX, vX]
def Pgal53 : List Value := Pgav6 ++ (Pgav30 ++ (Pgav16 ++ (Pgav29 ++ (Pgav23 ++ (Pgav24 ++ (Pgav31 ++ (Pgav32 ++ (Pgav1 ++ (Pgav1 ++ (Pgav1 ++ (Pgav1 ++ Pgav2)))))))))))
def Pgao33 : Obj := oC 75 [kf 9, vI 1, vF 51 [] [vP 22 0, vP 23 0], kf 10, vZ, vZ, vZ, vI 0, vI 2]
def Pgao34 : Obj := oC 100 [kf 9, vI 1, vF 75 [] [vP 18 0, vP 19 0, vP 20 0, vP 21 0]]
def Pgao35 : Obj := oC 102 [vF 53 [] [vP 17 0]]
def Pgao36 : Obj := oC 98 [.iface 77 (vP 16 0)]
def Pgao37 : Obj := oC 1 [vF 32 [] [vP 14 0, vP 13 0]]
def Pgah59 : List Obj := [Pgao5, Pgao26, Pgao27, Pgao10, Pgao11, Pgao12, oC 116 [vI 0, kf 9], Pgao13, Pgao26, Pgao28, Pgao15, oC 30 [kf 26, vU 0], oC 22 [kf 7, kf 8], oC 3 [kf 10], oC 42 [vP 15 0], Pgao33, Pgao34, oC 77 [vP 16 0], oC 3 [vI 2], oC 22 [vU 0], oC 22 [vU 1], Pgao35, Pgao36, Pgao37]
def Pgav38 : List Value := [kf 10, vP 11 0, vI 1, kf 2, vB true, vP 15 0, vI 0, vX, vX, vX, vX, vX]
def Pgal61 : List Value := Pgav6 ++ (Pgav38 ++ (Pgav16 ++ (Pgav29 ++ (Pgav23 ++ (Pgav24 ++ (Pgav31 ++ (Pgav32 ++ (Pgav1 ++ (Pgav1 ++ (Pgav1 ++ (Pgav1 ++ Pgav2)))))))))))
def Pgah62 : List Obj := [Pgao5, Pgao26, Pgao27, Pgao10, Pgao11, Pgao12, oC 116 [vI 0, kf 9], Pgao13, Pgao26, Pgao28, Pgao15, oC 30 [kf 26, vU 0], oC 22 [kf 7, kf 8], oC 3 [kf 10], oC 42 [vP 15 0], Pgao33, Pgao34, oC 77 [vP 16 0], oC 3 [vI 2], oC 22 [vU 0], oC 22 [vU 1], Pgao35, Pgao36, Pgao37]
def Pgav39 : List Value := [kf 10, vP 11 0, vI 1, kf 2, vB true, vP 13 0, vI 1, vX, vX, vX, vX, vX]
def Pgav40 : List Value := [vG [kf 9, vI 1], kf 10, vP 13 0, vP 13 0, vB true, vB true, vI 0, vB true, vB true, vB true, vP 13 0, vB false]
def Pgav41 : List Value := [vB true, vB true, vI 0, vI 1, vP 13 0, vP 7 0, vG [vI 3, vI 2, vU 0, vU 1], vX, vX, vX, vX, vX]
def Pgal66 : List Value := Pgav6 ++ (Pgav39 ++ (Pgav16 ++ (Pgav29 ++ (Pgav23 ++ (Pgav24 ++ (Pgav31 ++ (Pgav40 ++ (Pgav41 ++ (Pgav1 ++ (Pgav1 ++ (Pgav1 ++ Pgav2)))))))))))
def Pgao42 : Obj := oC 270002 [vU 1, vU 0, vU 1, vU 0, vU 0, vU 0, vU 0, vU 0, vU 0, vU 0, vU 0, vU 0, vU 0, vU 0, vU 0, vU 0, vU 0, vU 0, vU 0, vU 0, vU 0, vU 0, vU 0, vU 0, vU 0, vU 0, vU 0, vU 0, vU 0, vU 0, vU 0, vU 0, vU 0, vU 0, vU 0, vU 0, vU 0, vU 0, vU 0, vU 0, vU 0, vU 0, vU 0, vU 0, vU 0, vU 0, vU 0, vU 0, vU 0, vU 0, vU 0, vU 0, vU 0, vU 0, vU 0, vU 0, vU 0, vU 0, vU 0, vU 0, vU 0, vU 0, vU 0, vU 0, vU 0, vU 0, vU 0, vU 0, vU 0, vU 0, vU 0, vU 0, vU 0, vU 0, vU 0, vU 0, vU 0]
def Pgao43 : Obj := oC 109 [.complex .f32 1 0, vI 3, vI 2, vU 0, vU 1, vI 2]
def Pgao44 : Obj := oC 75 [kf 9, vI 1, vF 55 [] [vP 15 0, vP 16 0, vP 14 0], kf 10, vZ, vZ, vZ, vI 0, vI 2]
def Pgao45 : Obj := oC 80 [vF 34 [vP 13 0] []]
def Pgao46 : Obj := oC 81 [vF 35 [vP 13 0] []]
def Pgah72 : List Obj := [Pgao5, Pgao42, Pgao43, Pgao10, Pgao11, Pgao12, oC 116 [vI 0, kf 9], Pgao13, Pgao26, Pgao28, Pgao15, oC 30 [kf 26, vU 0], oC 22 [kf 7, kf 8], Pgao44, oC 3 [kf 10], Pgao45, Pgao46]
def Pgav47 : List Value := [kf 5, kf 6, kf 7, kf 8, vX, vX, vX, vX, vB false, vP 0 0, vP 6 0, vP 9 0]
def Pgav48 : List Value := [kf 10, vP 10 0, vI 1, kf 2, vB true, vP 12 0, vI 2, vX, vX, vX, vX, vX]
def Pgav49 : List Value := [kf 5, kf 16, kf 17, kf 9, vG [kf 9, vI 1, vZ], vT [vP 6 0, vP 9 0], vG [kf 9, vI 1, vZ], vT [vP 6 0, vP 9 0], vP 6 0, vP 9 0, vP 6 0, vB false]
def Pgav50 : List Value := [vI 1, vI 0, kf 7, kf 8, vS 11 0 2 2, vI 0, vP 11 0, kf 7, vP 0 0, kf 9, vI 0, vI 0]
def Pgav51 : List Value := [kf 9, kf 11, kf 26, vP 10 0, vT [kf 2, vB true], vP 9 0, vP 9 0, vP 9 2, vG [kf 9, vI 1], vI 0, vT [kf 2, vB true], kf 2]
def Pgav52 : List Value := [vB true, vP 6 0, vP 9 0, kf 2, vI 0, vP 10 0, kf 26, vB true, vB false, vP 9 0, vP 9 0, vP 9 2]
def Pgav53 : List Value := [vG [kf 9, vI 1], kf 10, vP 12 0, vP 12 0, vB true, vB true, vI 1, vB true, vB true, vB true, vP 12 0, vB false]
def Pgav54 : List Value := [vB true, vB true, vI 1, vI 2, vP 12 0, vP 6 0, vG [vI 6, vI 0, kf 32, kf 33], vX, vX, vX, vX, vX]
def Pgal81 : List Value := Pgav47 ++ (Pgav48 ++ (Pgav49 ++ (Pgav29 ++ (Pgav50 ++ (Pgav51 ++ (Pgav52 ++ (Pgav53 ++ (Pgav54 ++ (Pgav1 ++ (Pgav1 ++ (Pgav1 ++ Pgav2)))))))))))
def Pgao55 : Obj := oC 147 [vP 13 0, vI 1]
def Pgao56 : Obj := oC 119 [kf 9, vZ, vI 2, vP 3 0, vS 5 0 1 1, kf 29]
def Pgao57 : Obj := oC 116 [kf 10, kf 29]
def Pgao58 : Obj := oC 64 [.complex .f32 7 0, vI 2, kf 2, vU 0, kf 26, vI 1]
def Pgao59 : Obj := oC 40 [vP 8 0, vA, kf 9, vI 1]
def Pgao60 : Obj := oC 75 [kf 9, vI 1, vF 108 [] [vP 19 0, vP 20 0, vP 21 0], kf 10, vZ, vZ, vS 14 0 1 1, vI 0, vI 2]
def Pgao61 : Obj := oC 167 [kf 31, .int .u32 0, kf 10, kf 29, vN, vN]
def Pgao62 : Obj := oC 137 [vF 88 [] [vP 15 0, vP 18 0, vP 17 0, vP 16 0]]
def Pgah90 : List Obj := [Pgao5, Pgao42, Pgao43, Pgao55, Pgao56, Pgao57, Pgao13, Pgao26, Pgao58, Pgao59, oC 30 [kf 26, vU 0], oC 22 [kf 7, kf 8], Pgao60, Pgao61, oC 142 [vI 0, kf 12], oC 42 [vP 12 0], oC 3 [vI 0], oC 142 [vI 0, kf 12], oC 3 [kf 2], oC 3 [kf 1], oC 22 [kf 12], Pgao62]
def Pgav63 : List Value := [kf 10, vP 10 0, vI 1, kf 2, vB true, vP 12 0, vI 3, vX, vX, vX, vX, vX]
def Pgav64 : List Value := [vG [kf 9, vI 1], kf 10, vP 12 0, vP 12 0, vB true, vB true, vI 2, vB true, vB true, vB true, vP 12 0, vB false]
def Pgav65 : List Value := [vB true, vB true, vI 2, vI 3, vP 12 0, vP 6 0, vG [vI 5, kf 1, vU 0, kf 12], vX, vX, vX, vX, vX]
def Pgal94 : List Value := Pgav47 ++ (Pgav63 ++ (Pgav49 ++ (Pgav29 ++ (Pgav50 ++ (Pgav51 ++ (Pgav52 ++ (Pgav64 ++ (Pgav65 ++ (Pgav1 ++ (Pgav1 ++ (Pgav1 ++ Pgav2)))))))))))
def Pgao66 : Obj := oC 270132 [vU 1, vU 0, vU 1, vU 0, vU 0, vU 0, vU 0, vU 0, vU 0, vU 0, vU 0, vU 0, vU 0, vU 0, vU 0, vU 0, vU 0, vU 0, vU 0, vU 0, vU 0, vU 0, vU 0, vU 0, vU 0, vU 0, vU 0, vU 0, vU 0, vU 0, vU 0, vU 0, vU 0, vU 0, vU 0, vU 0, vU 0, vU 0, vU 0, vU 0, vU 0, vU 0, vU 0, vU 0, vU 0, vU 0, vU 0, vU 0, vU 0, vU 0, vU 0, vU 0, vU 0, vU 0, vU 0, vU 0, vU 0, vU 0, vU 0, vU 0, vU 0, vU 0, vU 0, vU 0, vU 0, vU 0, vU 0, vU 0, vU 0, vU 0, vU 0, vU 0, vU 0, vU 0, vU 0, vU 0, vU 0]
def Pgao67 : Obj := oC 109 [.complex .f32 1 0, vI 5, kf 1, vU 0, kf 12, vI 3]
def Pgao68 : Obj := oC 75 [kf 9, vI 1, vF 100 [] [vP 19 0, vP 20 0], kf 10, vZ, vZ, vS 14 0 1 1, vI 0, vI 2]
def Pgao69 : Obj := oC 137 [vF 89 [] [vP 17 0, vP 15 0, vP 16 0, vP 18 0]]
def Pgah99 : List Obj := [Pgao5, Pgao66, Pgao67, Pgao55, Pgao56, Pgao57, Pgao13, Pgao26, Pgao58, Pgao59, oC 30 [kf 26, vU 0], oC 22 [kf 7, kf 8], Pgao68, Pgao61, oC 142 [vI 0, kf 12], oC 42 [vP 12 0], oC 3 [vI 0], oC 142 [vI 0, kf 12], oC 3 [kf 2], oC 3 [kf 2], Pgao69]
def Pgav70 : List Value := [kf 10, vP 10 0, vI 1, kf 2, vB true, vP 12 0, vI 4, vX, vX, vX, vX, vX]
def Pgav71 : List Value := [vG [kf 9, vI 1], kf 10, vP 12 0, vP 12 0, vB true, vB true, vI 3, vB true, vB true, vB true, vP 12 0, vB false]
def Pgav72 : List Value := [vB true, vB true, vI 3, vI 4, vP 12 0, vP 6 0, vG [vI 1, kf 2, kf 26, kf 26], vX, vX, vX, vX, vX]
def Pgal103 : List Value := Pgav47 ++ (Pgav70 ++ (Pgav49 ++ (Pgav29 ++ (Pgav50 ++ (Pgav51 ++ (Pgav52 ++ (Pgav71 ++ (Pgav72 ++ (Pgav1 ++ (Pgav1 ++ (Pgav1 ++ Pgav2)))))))))))
def Pgao73 : Obj := oC 109 [.complex .f32 1 0, vI 1, kf 2, kf 26, kf 26, vI 4]
def Pgao74 : Obj := oC 75 [kf 9, vI 1, vF 108 [] [vP 17 0, vP 18 0, vP 19 0], kf 10, vZ, vZ, vS 14 0 1 1, vI 0, vI 2]
def Pgao75 : Obj := oC 137 [vF 90 [] [vP 15 0, vP 16 0]]
def Pgah107 : List Obj := [Pgao5, Pgao66, Pgao73, Pgao55, Pgao56, Pgao57, Pgao13, Pgao26, Pgao58, Pgao59, oC 30 [kf 26, vU 0], oC 22 [kf 7, kf 8], Pgao74, Pgao61, oC 142 [vI 0, kf 12], oC 42 [vP 12 0], oC 3 [vI 0], oC 3 [kf 2], oC 22 [kf 35], Pgao75]
def Pgav76 : List Value := [kf 10, vP 10 0, vI 1, kf 2, vB true, vP 12 0, vI 5, vX, vX, vX, vX, vX]
def Pgav77 : List Value := [vG [kf 9, vI 1], kf 10, vP 12 0, vP 12 0, vB true, vB true, vI 4, vB true, vB true, vB true, vP 12 0, vB false]
def Pgav78 : List Value := [vB true, vB true, vI 4, vI 5, vP 12 0, vP 6 0, vG [vI 5, kf 2, kf 26, kf 36], vX, vX, vX, vX, vX]
def Pgal111 : List Value := Pgav47 ++ (Pgav76 ++ (Pgav49 ++ (Pgav29 ++ (Pgav50 ++ (Pgav51 ++ (Pgav52 ++ (Pgav77 ++ (Pgav78 ++ (Pgav1 ++ (Pgav1 ++ (Pgav1 ++ Pgav2)))))))))))
def Pgao79 : Obj := oC 370132 [vU 1, vU 0, vU 1, vU 0, vU 0, vU 0, vU 0, vU 0, vU 0, vU 0, vU 0, vU 0, vU 0, vU 0, vU 0, vU 0, vU 0, vU 0, vU 0, vU 0, vU 0, vU 0, vU 0, vU 0, vU 0, vU 0, vU 0, vU 0, vU 0, vU 0, vU 0, vU 0, vU 0, vU 0, vU 0, vU 0, vU 0, vU 0, vU 0, vU 0, vU 0, vU 0, vU 0, vU 0, vU 0, vU 0, vU 0, vU 0, vU 0, vU 0, vU 0, vU 0, vU 0, vU 0, vU 0, vU 0, vU 0, vU 0, vU 0, vU 0, vU 0, vU 0, vU 0, vU 0, vU 0, vU 0, vU 0, vU 0, vU 0, vU 0, vU 0, vU 0, vU 0, vU 0, vU 0, vU 0, vU 0]
def Pgao80 : Obj := oC 109 [.complex .f32 1 0, vI 5, kf 2, kf 26, kf 36, vI 5]
def Pgao81 : Obj := oC 75 [kf 9, vI 1, vF 51 [] [vP 21 0, vP 22 0], kf 10, vZ, vZ, vS 14 0 1 1, vI 0, vI 2]
def Pgao82 : Obj := oC 176 [kf 9, vI 1, vF 125 [] [vP 18 0, vP 19 0, vP 20 0]]
def Pgao83 : Obj := oC 1 [vF 54 [vP 17 0] []]
def Pgao84 : Obj := oC 98 [.iface 158 (vP 17 0)]
def Pgao85 : Obj := oC 1 [vF 104 [] [vP 16 0, vP 15 0]]
def Pgah119 : List Obj := [Pgao5, Pgao79, Pgao80, Pgao55, Pgao56, Pgao57, Pgao13, Pgao26, Pgao58, Pgao59, oC 30 [kf 26, vU 0], oC 22 [kf 7, kf 8], Pgao81, Pgao61, oC 142 [vI 0, kf 12], oC 42 [vP 12 0], oC 48 [vI 0], Pgao82, oC 3 [vI 2], oC 22 [vU 0], Pgao83, Pgao84, Pgao85]
def Pgav86 : List Value := [kf 10, vP 10 0, vI 1, kf 2, vB true, vP 12 0, vI 6, vX, vX, vX, vX, vX]
def Pgav87 : List Value := [vG [kf 9, vI 1], kf 10, vP 12 0, vP 12 0, vB true, vB true, vI 5, vB true, vB true, vB true, vP 12 0, vB false]
def Pgav88 : List Value := [vB true, vB true, vI 5, vI 6, vP 12 0, vP 6 0, vG [vI 2, vI 2, vU 1, vU 0], vX, vX, vX, vX, vX]
def Pgal123 : List Value := Pgav47 ++ (Pgav86 ++ (Pgav49 ++ (Pgav29 ++ (Pgav50 ++ (Pgav51 ++ (Pgav52 ++ (Pgav87 ++ (Pgav88 ++ (Pgav1 ++ (Pgav1 ++ (Pgav1 ++ Pgav2)))))))))))
def Pgao89 : Obj := oC 370132 [vU 1, vU 0, vU 0, vU 0, vU 0, vU 0, vU 0, vU 0, vU 0, vU 0, vU 0, vU 0, vU 0, vU 0, vU 0, vU 0, vU 0, vU 0, vU 0, vU 0, vU 0, vU 0, vU 0, vU 0, vU 0, vU 0, vU 0, vU 0, vU 0, vU 0, vU 0, vU 0, vU 0, vU 0, vU 0, vU 0, vU 0, vU 0, vU 0, vU 0, vU 0, vU 0, vU 0, vU 0, vU 0, vU 0, vU 0, vU 0, vU 0, vU 0, vU 0, vU 0, vU 0, vU 0, vU 0, vU 0, vU 0, vU 0, vU 0, vU 0, vU 0, vU 0, vU 0, vU 0, vU 0, vU 0, vU 0, vU 0, vU 0, vU 0, vU 0, vU 0, vU 0, vU 0, vU 0, vU 0, vU 0]
def Pgao90 : Obj := oC 109 [.complex .f32 1 0, vI 2, vI 2, vU 1, vU 0, vI 6]
def Pgao91 : Obj := oC 75 [kf 9, vI 1, .nilFunc, kf 10, vZ, vZ, vS 14 0 1 1, vI 0, vI 0]
def Pgah127 : List Obj := [Pgao5, Pgao89, Pgao90, Pgao55, Pgao56, Pgao57, Pgao13, Pgao26, Pgao58, Pgao59, oC 30 [kf 26, vU 0], oC 22 [kf 7, kf 8], Pgao91, Pgao61, oC 142 [vI 0, kf 12]]
def Pgav92 : List Value := [vG [kf 9, vI 1], kf 10, vP 12 0, vP 12 0, vB true, vB true, vI 6, vB true, vB true, vB true, vP 12 0, vB true]
def Pgav93 : List Value := [vB false, vB false, vI 5, vI 6, vP 12 0, vP 6 0, vG [vI 2, vI 2, vU 1, vU 0], vX, vX, vX, vX, vX]
def Pgal130 : List Value := Pgav47 ++ (Pgav86 ++ (Pgav49 ++ (Pgav29 ++ (Pgav50 ++ (Pgav51 ++ (Pgav52 ++ (Pgav92 ++ (Pgav93 ++ (Pgav1 ++ (Pgav1 ++ (Pgav1 ++ Pgav2)))))))))))
def Pgah131 : List Obj := [Pgao5, Pgao89, Pgao90, Pgao55, Pgao56, Pgao57, Pgao13, Pgao26, Pgao58, Pgao59, oC 30 [kf 26, vU 0], oC 22 [kf 7, kf 8], Pgao91, Pgao61, oC 142 [vI 0, kf 12]]
def Pgav94 : List Value := [kf 10, vP 10 0, vI 1, kf 2, vB true, vP 12 0, vI 6, vI 0, vI 0, vX, vX, vX]
def Pgav95 : List Value := [vB false, vB false, vI 5, vI 6, vP 12 0, vP 6 0, vG [vI 2, vI 2, vU 1, vU 0], vT [vI 0, vI 0], vP 12 0, vT [vI 0, vI 0], vI 0, vI 0]
def Pgal134 : List Value := Pgav47 ++ (Pgav94 ++ (Pgav49 ++ (Pgav29 ++ (Pgav50 ++ (Pgav51 ++ (Pgav52 ++ (Pgav92 ++ (Pgav95 ++ (Pgav1 ++ (Pgav1 ++ (Pgav1 ++ Pgav2)))))))))))
def Pgah135 : List Obj := [Pgao5, Pgao89, Pgao90, Pgao55, Pgao56, Pgao57, Pgao13, Pgao26, Pgao58, Pgao59, oC 30 [kf 26, vU 0], oC 22 [kf 7, kf 8], Pgao91, Pgao61, oC 142 [vI 0, kf 12]]
def Pgav96 : List Value := [vI 0, vB false, vB false, vI 0, vB false, vB false, vX, vX, vX, vX, vX, vX]
def Pgal137 : List Value := Pgav47 ++ (Pgav94 ++ (Pgav49 ++ (Pgav29 ++ (Pgav50 ++ (Pgav51 ++ (Pgav52 ++ (Pgav92 ++ (Pgav95 ++ (Pgav96 ++ (Pgav1 ++ (Pgav1 ++ Pgav2)))))))))))
def Pgah138 : List Obj := [Pgao5, Pgao89, Pgao90, Pgao55, Pgao56, Pgao57, Pgao13, Pgao26, Pgao58, Pgao59, oC 30 [kf 26, vU 0], oC 22 [kf 7, kf 8], Pgao91, Pgao61, oC 142 [vI 0, kf 12]]
def Pgal139 : List Value := Pgav47 ++ (Pgav94 ++ (Pgav49 ++ (Pgav29 ++ (Pgav50 ++ (Pgav51 ++ (Pgav52 ++ (Pgav92 ++ (Pgav95 ++ (Pgav96 ++ (Pgav1 ++ (Pgav1 ++ Pgav2)))))))))))
def Pgah140 : List Obj := [Pgao5, Pgao89, Pgao90, Pgao55, Pgao56, Pgao57, Pgao13, Pgao26, Pgao58, Pgao59, oC 30 [kf 26, vU 0], oC 22 [kf 7, kf 8], Pgao91, Pgao61, oC 142 [vI 0, kf 12]]
theorem Pgap0 : PgS PgaO (seqL (pgC 0)) Pg0 [] .normal Pgal3 Pgah4 := pgS_ev [] (by decide +kernel)
theorem Pgap1 : PgS PgaO (seqL (pgC 1)) Pgal3 Pgah4 .normal Pgal7 Pgah9 := pgS_ev [0] (by decide +kernel)
theorem Pgap2 : PgS PgaO (seqL (pgC 2)) Pgal7 Pgah9 .normal Pgal12 Pgah21 := pgS_ev [0, 13, 14, 15, 16, 20, 22, 23, 30, 31, 32] (by decide +kernel)
theorem Pgap3 : PgS PgaO (seqL (seqL (pgC 3))) Pgal12 Pgah21 .normal Pgal23 Pgah24 := pgS_ev [0, 1, 2, 3, 4, 5, 6, 7, 8, 9, 10] (by decide +kernel)
theorem Pgap4 : PgS PgaO (seqR (seqL (pgC 3))) Pgal23 Pgah24 .normal Pgal25 Pgah26 := pgS_ev [0, 1, 2, 3, 4, 5, 6, 7, 8, 9, 10] (by decide +kernel)
theorem Pgap5 : PgS PgaO (seqL (pgC 4)) Pgal25 Pgah26 .normal Pgal29 Pgah30 := pgS_ev [0, 1, 2, 3, 4, 5, 6, 7, 8, 9, 10] (by decide +kernel)
theorem Pgap6 : PgS PgaO (seqL (pgC 5)) Pgal29 Pgah30 .normal Pgal32 Pgah33 := pgS_ev [0, 1, 2, 3, 4, 5, 6, 7, 8, 9, 10, 11] (by decide +kernel)
theorem Pgap7 : PgS PgaO (seqL (seqL (pgC 6))) Pgal32 Pgah33 .normal Pgal35 Pgah36 := pgS_ev [0, 1, 2, 3, 4, 5, 6, 7, 8, 9, 10, 11] (by decide +kernel)
theorem Pgap8 : PgS PgaO (inL (inB (seqR (seqL (pgC 6))))) Pgal35 Pgah36 .normal Pgal42 Pgah46 := pgS_ev [0, 1, 2, 3, 4, 5, 6, 7, 8, 9, 10, 11, 12] (by decide +kernel)
theorem Pgap9 : PgS PgaO (inL (inB (seqR (seqL (pgC 6))))) Pgal42 Pgah46 (.exit 0) Pgal48 Pgah49 := pgS_ev [0, 1, 2, 3, 4, 5, 6, 7, 8, 9, 10, 11, 12] (by decide +kernel)
theorem Pgap10 : PgS PgaO (seqL (pgC 7)) Pgal48 Pgah49 .normal Pgal53 Pgah59 := pgS_ev [0, 1, 2, 3, 4, 5, 6, 7, 8, 9, 10, 11, 12, 14, 17, 18, 22, 23, 24, 25, 26, 27, 28, 29] (by decide +kernel)
theorem Pgap11 : PgS PgaO (seqL (seqL (pgC 8))) Pgal53 Pgah59 .normal Pgal61 Pgah62 := pgS_ev [0, 1, 2, 3, 4, 5, 6, 7, 8, 9, 10, 11, 12, 13, 14, 15, 16, 17, 18, 19, 20, 21, 22, 23] (by decide +kernel)
theorem Pgap12 : PgS PgaO (inL (inB (seqR (seqL (pgC 8))))) Pgal61 Pgah62 .normal Pgal66 Pgah72 := pgS_ev [0, 1, 2, 3, 4, 5, 6, 7, 8, 9, 10, 11, 12, 15, 34, 35, 36] (by decide +kernel)
theorem Pgap13 : PgS PgaO (inL (inB (seqR (seqL (pgC 8))))) Pgal66 Pgah72 .normal Pgal81 Pgah90 := pgS_ev [0, 1, 2, 3, 4, 6, 7, 8, 9, 10, 11, 12, 13, 33, 40, 41, 42, 43, 44, 61, 62, 63] (by decide +kernel)
theorem Pgap14 : PgS PgaO (inL (inB (seqR (seqL (pgC 8))))) Pgal81 Pgah90 .normal Pgal94 Pgah99 := pgS_ev [0, 1, 2, 3, 4, 5, 6, 7, 8, 9, 10, 11, 12, 13, 14, 15, 16, 17, 18, 26, 27] (by decide +kernel)
theorem Pgap15 : PgS PgaO (inL (inB (seqR (seqL (pgC 8))))) Pgal94 Pgah99 .normal Pgal103 Pgah107 := pgS_ev [0, 1, 2, 3, 4, 5, 6, 7, 8, 9, 10, 11, 12, 13, 14, 15, 16, 25, 26, 27] (by decide +kernel)
theorem Pgap16 : PgS PgaO (inL (inB (seqR (seqL (pgC 8))))) Pgal103 Pgah107 .normal Pgal111 Pgah119 := pgS_ev [0, 1, 2, 3, 4, 5, 6, 7, 8, 9, 10, 11, 12, 13, 14, 26, 27, 30, 31, 32, 33, 34, 35] (by decide +kernel)
theorem Pgap17 : PgS PgaO (inL (inB (seqR (seqL (pgC 8))))) Pgal111 Pgah119 .normal Pgal123 Pgah127 := pgS_ev [0, 1, 2, 3, 4, 5, 6, 7, 8, 9, 10, 11, 12, 13, 14] (by decide +kernel)
theorem Pgap18 : PgS PgaO (inL (inB (seqR (seqL (pgC 8))))) Pgal123 Pgah127 (.exit 2) Pgal130 Pgah131 := pgS_ev [0, 1, 2, 3, 4, 5, 6, 7, 8, 9, 10, 11, 12, 13, 14] (by decide +kernel)
theorem Pgap19 : PgS PgaO (seqL (pgC 9)) Pgal130 Pgah131 .normal Pgal134 Pgah135 := pgS_ev [0, 1, 2, 3, 4, 5, 6, 7, 8, 9, 10, 11, 12, 13, 14] (by decide +kernel)
theorem Pgap20 : PgS PgaO (seqL (seqL (pgC 10))) Pgal134 Pgah135 .normal Pgal137 Pgah138 := pgS_ev [0, 1, 2, 3, 4, 5, 6, 7, 8, 9, 10, 11, 12, 13, 14] (by decide +kernel)
theorem Pgap21 : PgS PgaO (seqR (seqL (pgC 10))) Pgal137 Pgah138 .normal Pgal139 Pgah140 := pgS_ev [0, 1, 2, 3, 4, 5, 6, 7, 8, 9, 10, 11, 12, 13, 14] (by decide +kernel)
theorem Pgaw : shrOk (fun j => decide (j < 11)) [(kf 10, kf 10), (kf 26, kf 11), (kf 12, kf 15), (kf 36, kf 13)] 0 [0, 1, 2, 6, 9, 10] Pgal139 Pgah140 Pg1A Pg1H = true := by decide +kernel
def Pgbe : List Ent := [⟨.conv 5 3, [kf 5], kf 16⟩,
  ⟨.bin .rem 3, [kf 16, vI 128], kf 17⟩,
  ⟨.bin .add 3, [vI 1, kf 17], kf 9⟩,
  ⟨.bin .geq 3, [kf 9, vI 1], .bool true⟩,
  ⟨.bin .leq 3, [kf 9, vI 4096], .bool true⟩,
  ⟨.bin .mul 3, [vI 5, kf 9], kf 18⟩,
  ⟨.bin .add 3, [vI 82, kf 18], kf 19⟩,
  ⟨.bin .add 3, [kf 19, kf 9], kf 1⟩,
  ⟨.bin .add 3, [kf 9, vI 64], kf 20⟩,
  ⟨.bin .sub 3, [kf 20, vI 1], kf 21⟩,
  ⟨.bin .quo 3, [kf 21, vI 64], vI 1⟩,
  ⟨.bin .add 3, [kf 1, vI 1], kf 2⟩,
  ⟨.bin .add 3, [kf 2, vI 1], kf 0⟩,
  ⟨.bin .lss 3, [kf 0, vI 1], .bool false⟩,
  ⟨.bin .gtr 3, [kf 0, vI 65536], .bool false⟩,
  ⟨.bin .geq 3, [vI 0, kf 0], .bool false⟩,
  ⟨.bin .lss 3, [kf 9, vI 1], .bool false⟩,
  ⟨.bin .gtr 3, [kf 9, vI 4096], .bool false⟩,
  ⟨.bin .mul 3, [vI 8192, kf 9], kf 22⟩,
  ⟨.bin .add 3, [kf 22, vI 0], kf 22⟩,
  ⟨.bin .add 3, [vI 0, kf 9], kf 9⟩,
  ⟨.bin .mul 3, [vI 6, kf 9], kf 23⟩,
  ⟨.bin .add 3, [vI 82, kf 23], kf 1⟩,
  ⟨.bin .add 3, [kf 9, vI 63], kf 21⟩,
  ⟨.bin .add 3, [kf 1, vI 2], kf 0⟩,
  ⟨.conv 5 3, [kf 6], kf 24⟩,
  ⟨.bin .rem 3, [kf 24, kf 9], kf 25⟩,
  ⟨.bin .add 3, [vI 1, kf 25], kf 10⟩,
  ⟨.bin .lss 3, [vI 0, kf 9], .bool true⟩,
  ⟨.bin .sub 3, [kf 9, vI 0], kf 9⟩,
  ⟨.bin .and 22, [kf 7, kf 11], kf 26⟩,
  ⟨.bin .add 3, [kf 1, vI 0], kf 1⟩,
  ⟨.bin .lss 3, [kf 2, vI 0], .bool false⟩,
  ⟨.bin .geq 3, [kf 2, kf 0], .bool false⟩,
  ⟨.bin .geq 3, [kf 2, vI 0], .bool true⟩,
  ⟨.bin .lss 3, [kf 2, kf 0], .bool true⟩,
  ⟨.bin .lss 3, [vI 64, kf 9], .bool false⟩,
  ⟨.bin .lss 3, [kf 10, vI 1], .bool false⟩,
  ⟨.bin .gtr 3, [kf 10, vI 4096], .bool false⟩,
  ⟨.bin .neq 38, [vG [kf 9, vI 1], vG [kf 9, vI 1]], .bool false⟩,
  ⟨.bin .geq 3, [vI 2, kf 0], .bool false⟩,
  ⟨.bin .gtr 3, [kf 10, kf 9], .bool false⟩,
  ⟨.bin .mul 3, [vI 8192, kf 10], kf 27⟩,
  ⟨.bin .lss 3, [kf 22, kf 27], .bool false⟩,
  ⟨.bin .neq 3, [kf 22, kf 22], .bool false⟩,
  ⟨.bin .neq 3, [kf 9, kf 9], .bool false⟩,
  ⟨.bin .lss 3, [kf 9, kf 9], .bool false⟩,
  ⟨.bin .gtr 3, [kf 9, kf 9], .bool false⟩,
  ⟨.bin .sub 3, [kf 9, kf 9], kf 28⟩,
  ⟨.bin .gtr 3, [kf 9, kf 10], .bool true⟩,
  ⟨.bin .add 3, [vI 0, kf 10], kf 10⟩,
  ⟨.bin .sub 3, [kf 9, kf 10], kf 29⟩,
  ⟨.bin .mul 3, [vI 8192, kf 29], kf 30⟩,
  ⟨.bin .add 3, [kf 30, kf 10], kf 31⟩,
  ⟨.bin .add 3, [kf 28, kf 29], kf 29⟩,
  ⟨.bin .gtr 3, [kf 10, vI 1048576], .bool false⟩,
  ⟨.bin .lss 3, [vI 0, kf 10], .bool true⟩,
  ⟨.mn #[3, 3], [kf 10, vI 64], kf 10⟩,
  ⟨.bin .sub 3, [kf 10, vI 0], kf 10⟩,
  ⟨.bin .shl 22, [kf 12, vI 0], kf 12⟩,
  ⟨.bin .lss 3, [kf 10, kf 10], .bool false⟩,
  ⟨.bin .add 3, [kf 2, vI 0], kf 2⟩,
  ⟨.conv 3 22, [kf 10], kf 32⟩,
  ⟨.conv 3 22, [kf 29], kf 33⟩,
  ⟨.bin .lss 3, [kf 1, vI 0], .bool false⟩,
  ⟨.bin .geq 3, [kf 1, kf 0], .bool false⟩,
  ⟨.bin .add 22, [.int .u64 0, kf 12], kf 12⟩,
  ⟨.bin .and 22, [kf 26, kf 12], kf 34⟩,
  ⟨.bin .eql 22, [kf 34, .int .u64 0], .bool true⟩]
def Pgbf : List FnEnt := [⟨14, [], .bool true⟩,
  ⟨44, [kf 9, vZ], vA⟩,
  ⟨5, [kf 9], kf 11⟩,
  ⟨106, [kf 10], kf 12⟩]
def PgbO : Orc := orcS Pgbe Pgbf 2 rdG noMkS
def Pgbv0 : List Value := [kf 5, kf 6, kf 7, kf 8, vX, vX, vX, vX, vB false, vX, vX, vX]
def Pgbv1 : List Value := [vX, vX, vX, vX, vX, vX, vX, vX, vX, vX, vX, vX]
def Pgbv2 : List Value := [vX, vX, vX, vX, vX, vX]
def Pgbl3 : List Value := Pgbv0 ++ (Pgbv1 ++ (Pgbv1 ++ (Pgbv1 ++ (Pgbv1 ++ (Pgbv1 ++ (Pgbv1 ++ (Pgbv1 ++ (Pgbv1 ++ (Pgbv1 ++ (Pgbv1 ++ (Pgbv1 ++ Pgbv2)))))))))))
def Pgbh4 : List Obj := []
def Pgbv3 : List Value := [kf 5, kf 6, kf 7, kf 8, vX, vX, vX, vX, vB false, vP 0 0, vX, vX]
def Pgbv4 : List Value := [kf 5, kf 16, kf 17, kf 9, vG [kf 9, vI 1, vZ], vX, vX, vX, vX, vX, vX, vX]
def Pgbl7 : List Value := Pgbv3 ++ (Pgbv1 ++ (Pgbv4 ++ (Pgbv1 ++ (Pgbv1 ++ (Pgbv1 ++ (Pgbv1 ++ (Pgbv1 ++ (Pgbv1 ++ (Pgbv1 ++ (Pgbv1 ++ (Pgbv1 ++ Pgbv2)))))))))))
def Pgbo5 : Obj := oC 25 [kf 9, vI 1, vZ]
def Pgbh9 : List Obj := [Pgbo5]
def Pgbv6 : List Value := [kf 5, kf 6, kf 7, kf 8, vX, vX, vX, vX, vB false, vP 0 0, vP 7 0, vP 10 0]
def Pgbv7 : List Value := [kf 5, kf 16, kf 17, kf 9, vG [kf 9, vI 1, vZ], vT [vP 7 0, vP 10 0], vG [kf 9, vI 1, vZ], vT [vP 7 0, vP 10 0], vP 7 0, vP 10 0, vX, vX]
def Pgbl12 : List Value := Pgbv6 ++ (Pgbv1 ++ (Pgbv7 ++ (Pgbv1 ++ (Pgbv1 ++ (Pgbv1 ++ (Pgbv1 ++ (Pgbv1 ++ (Pgbv1 ++ (Pgbv1 ++ (Pgbv1 ++ (Pgbv1 ++ Pgbv2)))))))))))
def Pgbo8 : Obj := oC 2 [vU 1, vU 0, vU 0, vU 0, vU 0, vU 0, vU 0, vU 0, vU 0, vU 0, vU 0, vU 0, vU 0, vU 0, vU 0, vU 0, vU 0, vU 0, vU 0, vU 0, vU 0, vU 0, vU 0, vU 0, vU 0, vU 0, vU 0, vU 0, vU 0, vU 0, vU 0, vU 0, vU 0, vU 0, vU 0, vU 0, vU 0, vU 0, vU 0, vU 0, vU 0, vU 0, vU 0, vU 0, vU 0, vU 0, vU 0, vU 0, vU 0, vU 0, vU 0, vU 0, vU 0, vU 0, vU 0, vU 0, vU 0, vU 0, vU 0, vU 0, vU 0, vU 0, vU 0, vU 0, vU 0, vU 0, vU 0, vU 0, vU 0, vU 0, vU 0, vU 0, vU 0, vU 0, vU 0, vU 0, vU 0]
def Pgbo9 : Obj := oC 109 [.complex .f32 1 0, vI 0, vI 0, vU 0, vU 0, vI 0]
def Pgbo10 : Obj := oC 147 [vP 5 0, vI 1]
def Pgbo11 : Obj := oC 119 [kf 9, vZ, vI 1, vP 3 0, vS 6 0 1 1, kf 9]
def Pgbo12 : Obj := oC 167 [kf 22, .int .u32 0, vI 0, kf 9, vN, vN]
def Pgbo13 : Obj := oC 86 [kf 9, vI 1, vP 2 0, vP 4 0]
def Pgbo14 : Obj := oC 64 [.complex .f32 8 0, vI 0, vI 0, vU 0, vU 0, vI 0]
def Pgbo15 : Obj := oC 40 [vP 9 0, vA, kf 9, vI 1]
def Pgbh21 : List Obj := [Pgbo5, Pgbo8, Pgbo9, Pgbo10, Pgbo11, Pgbo12, oC 116 [vI 0, kf 9], Pgbo13, Pgbo8, Pgbo14, Pgbo15]
def Pgbv16 : List Value := [kf 5, kf 16, kf 17, kf 9, vG [kf 9, vI 1, vZ], vT [vP 7 0, vP 10 0], vG [kf 9, vI 1, vZ], vT [vP 7 0, vP 10 0], vP 7 0, vP 10 0, vP 7 0, vB false]
def Pgbl23 : List Value := Pgbv6 ++ (Pgbv1 ++ (Pgbv16 ++ (Pgbv1 ++ (Pgbv1 ++ (Pgbv1 ++ (Pgbv1 ++ (Pgbv1 ++ (Pgbv1 ++ (Pgbv1 ++ (Pgbv1 ++ (Pgbv1 ++ Pgbv2)))))))))))
def Pgbh24 : List Obj := [Pgbo5, Pgbo8, Pgbo9, Pgbo10, Pgbo11, Pgbo12, oC 116 [vI 0, kf 9], Pgbo13, Pgbo8, Pgbo14, Pgbo15]
def Pgbl25 : List Value := Pgbv6 ++ (Pgbv1 ++ (Pgbv16 ++ (Pgbv1 ++ (Pgbv1 ++ (Pgbv1 ++ (Pgbv1 ++ (Pgbv1 ++ (Pgbv1 ++ (Pgbv1 ++ (Pgbv1 ++ (Pgbv1 ++ Pgbv2)))))))))))
def Pgbh26 : List Obj := [Pgbo5, Pgbo8, Pgbo9, Pgbo10, Pgbo11, Pgbo12, oC 116 [vI 0, kf 9], Pgbo13, Pgbo8, Pgbo14, Pgbo15]
def Pgbv17 : List Value := [kf 10, vX, vX, vX, vX, vX, vX, vX, vX, vX, vX, vX]
def Pgbv18 : List Value := [kf 6, kf 24, vP 0 0, kf 9, kf 25, kf 10, vX, vX, vX, vX, vX, vX]
def Pgbl29 : List Value := Pgbv6 ++ (Pgbv17 ++ (Pgbv16 ++ (Pgbv18 ++ (Pgbv1 ++ (Pgbv1 ++ (Pgbv1 ++ (Pgbv1 ++ (Pgbv1 ++ (Pgbv1 ++ (Pgbv1 ++ (Pgbv1 ++ Pgbv2)))))))))))
def Pgbh30 : List Obj := [Pgbo5, Pgbo8, Pgbo9, Pgbo10, Pgbo11, Pgbo12, oC 116 [vI 0, kf 9], Pgbo13, Pgbo8, Pgbo14, Pgbo15]
def Pgbv19 : List Value := [kf 10, vP 11 0, vX, vX, vX, vX, vX, vX, vX, vX, vX, vX]
def Pgbl32 : List Value := Pgbv6 ++ (Pgbv19 ++ (Pgbv16 ++ (Pgbv18 ++ (Pgbv1 ++ (Pgbv1 ++ (Pgbv1 ++ (Pgbv1 ++ (Pgbv1 ++ (Pgbv1 ++ (Pgbv1 ++ (Pgbv1 ++ Pgbv2)))))))))))
def Pgbh33 : List Obj := [Pgbo5, Pgbo8, Pgbo9, Pgbo10, Pgbo11, Pgbo12, oC 116 [vI 0, kf 9], Pgbo13, Pgbo8, Pgbo14, Pgbo15, oC 30 [vU 0, vU 0]]
def Pgbv20 : List Value := [kf 10, vP 11 0, vI 0, vX, vX, vX, vX, vX, vX, vX, vX, vX]
def Pgbl35 : List Value := Pgbv6 ++ (Pgbv20 ++ (Pgbv16 ++ (Pgbv18 ++ (Pgbv1 ++ (Pgbv1 ++ (Pgbv1 ++ (Pgbv1 ++ (Pgbv1 ++ (Pgbv1 ++ (Pgbv1 ++ (Pgbv1 ++ Pgbv2)))))))))))
def Pgbh36 : List Obj := [Pgbo5, Pgbo8, Pgbo9, Pgbo10, Pgbo11, Pgbo12, oC 116 [vI 0, kf 9], Pgbo13, Pgbo8, Pgbo14, Pgbo15, oC 30 [vU 0, vU 0]]
def Pgbv21 : List Value := [kf 10, vP 11 0, vI 1, kf 2, vB true, vX, vX, vX, vX, vX, vX, vX]
def Pgbv22 : List Value := [kf 6, kf 24, vP 0 0, kf 9, kf 25, kf 10, vI 0, vI 0, vP 0 0, kf 9, vB true, vI 0]
def Pgbv23 : List Value := [vI 1, vI 0, kf 7, kf 8, vS 12 0 2 2, vI 0, vP 12 0, kf 7, vP 0 0, kf 9, vI 0, vI 0]
def Pgbv24 : List Value := [kf 9, kf 11, kf 26, vP 11 0, vT [kf 2, vB true], vP 10 0, vP 10 0, vP 10 2, vG [kf 9, vI 1], vI 0, vT [kf 2, vB true], kf 2]
def Pgbv25 : List Value := [vB true, vP 7 0, vP 10 0, kf 2, vI 0, vP 11 0, kf 26, vB true, vB false, vX, vX, vX]
def Pgbl42 : List Value := Pgbv6 ++ (Pgbv21 ++ (Pgbv16 ++ (Pgbv22 ++ (Pgbv23 ++ (Pgbv24 ++ (Pgbv25 ++ (Pgbv1 ++ (Pgbv1 ++ (Pgbv1 ++ (Pgbv1 ++ (Pgbv1 ++ Pgbv2)))))))))))
def Pgbo26 : Obj := oC 270002 [vU 1, vU 0, vU 0, vU 0, vU 0, vU 0, vU 0, vU 0, vU 0, vU 0, vU 0, vU 0, vU 0, vU 0, vU 0, vU 0, vU 0, vU 0, vU 0, vU 0, vU 0, vU 0, vU 0, vU 0, vU 0, vU 0, vU 0, vU 0, vU 0, vU 0, vU 0, vU 0, vU 0, vU 0, vU 0, vU 0, vU 0, vU 0, vU 0, vU 0, vU 0, vU 0, vU 0, vU 0, vU 0, vU 0, vU 0, vU 0, vU 0, vU 0, vU 0, vU 0, vU 0, vU 0, vU 0, vU 0, vU 0, vU 0, vU 0, vU 0, vU 0, vU 0, vU 0, vU 0, vU 0, vU 0, vU 0, vU 0, vU 0, vU 0, vU 0, vU 0, vU 0, vU 0, vU 0, vU 0, vU 0]
def Pgbo27 : Obj := oC 109 [.complex .f32 1 0, vI 2, kf 2, vU 0, kf 26, vI 1]
def Pgbo28 : Obj := oC 64 [.complex .f32 8 0, vI 2, kf 2, vU 0, kf 26, vI 1]
def Pgbh46 : List Obj := [Pgbo5, Pgbo26, Pgbo27, Pgbo10, Pgbo11, Pgbo12, oC 116 [vI 0, kf 9], Pgbo13, Pgbo26, Pgbo28, Pgbo15, oC 30 [kf 26, vU 0], oC 22 [kf 7, kf 8]]
def Pgbv29 : List Value := [kf 6, kf 24, vP 0 0, kf 9, kf 25, kf 10, vI 1, vI 64, vP 0 0, kf 9, vB false, vI 0]
def Pgbl48 : List Value := Pgbv6 ++ (Pgbv21 ++ (Pgbv16 ++ (Pgbv29 ++ (Pgbv23 ++ (Pgbv24 ++ (Pgbv25 ++ (Pgbv1 ++ (Pgbv1 ++ (Pgbv1 ++ (Pgbv1 ++ (Pgbv1 ++ Pgbv2)))))))))))
def Pgbh49 : List Obj := [Pgbo5, Pgbo26, Pgbo27, Pgbo10, Pgbo11, Pgbo12, oC 116 [vI 0, kf 9], Pgbo13, Pgbo26, Pgbo28, Pgbo15, oC 30 [kf 26, vU 0], oC 22 [kf 7, kf 8]]
def Pgbv30 : List Value := [kf 10, vP 11 0, vI 1, kf 2, vB true, vP 15 0, vX, vX, vX, vX, vX, vX]
def Pgbv31 : List Value := [vB true, vP 7 0, vP 10 0, kf 2, vI 0, vP 11 0, kf 26, vB true, vB false, vP 10 0, vP 10 0, vP 10 2]
def Pgbv32 : List Value := [vG [kf 9, vI 1], kf 10, vP 15 0, vX, vX, vX, vX, vX, vX, vX, vX, vX]
def Pgbl53 : List Value := Pgbv6 ++ (Pgbv30 ++ (Pgbv16 ++ (Pgbv29 ++ (Pgbv23 ++ (Pgbv24 ++ (Pgbv31 ++ (Pgbv32 ++ (Pgbv1 ++ (Pgbv1 ++ (Pgbv1 ++ (Pgbv1 ++ Pgbv2)))))))))))
def Pgbo33 : Obj := oC 75 [kf 9, vI 1, vF 51 [] [vP 22 0, vP 23 0], kf 10, vZ, vZ, vZ, vI 0, vI 2]
def Pgbo34 : Obj := oC 100 [kf 9, vI 1, vF 75 [] [vP 18 0, vP 19 0, vP 20 0, vP 21 0]]
def Pgbo35 : Obj := oC 102 [vF 53 [] [vP 17 0]]
def Pgbo36 : Obj := oC 98 [.iface 77 (vP 16 0)]
def Pgbo37 : Obj := oC 1 [vF 32 [] [vP 14 0, vP 13 0]]
def Pgbh59 : List Obj := [Pgbo5, Pgbo26, Pgbo27, Pgbo10, Pgbo11, Pgbo12, oC 116 [vI 0, kf 9], Pgbo13, Pgbo26, Pgbo28, Pgbo15, oC 30 [kf 26, vU 0], oC 22 [kf 7, kf 8], oC 3 [kf 10], oC 42 [vP 15 0], Pgbo33, Pgbo34, oC 77 [vP 16 0], oC 3 [vI 2], oC 22 [vU 0], oC 22 [vU 1], Pgbo35, Pgbo36, Pgbo37]
def Pgbv38 : List Value := [kf 10, vP 11 0, vI 1, kf 2, vB true, vP 15 0, vI 0, vX, vX, vX, vX, vX]
def Pgbl61 : List Value := Pgbv6 ++ (Pgbv38 ++ (Pgbv16 ++ (Pgbv29 ++ (Pgbv23 ++ (Pgbv24 ++ (Pgbv31 ++ (Pgbv32 ++ (Pgbv1 ++ (Pgbv1 ++ (Pgbv1 ++ (Pgbv1 ++ Pgbv2)))))))))))
def Pgbh62 : List Obj := [Pgbo5, Pgbo26, Pgbo27, Pgbo10, Pgbo11, Pgbo12, oC 116 [vI 0, kf 9], Pgbo13, Pgbo26, Pgbo28, Pgbo15, oC 30 [kf 26, vU 0], oC 22 [kf 7, kf 8], oC 3 [kf 10], oC 42 [vP 15 0], Pgbo33, Pgbo34, oC 77 [vP 16 0], oC 3 [vI 2], oC 22 [vU 0], oC 22 [vU 1], Pgbo35, Pgbo36, Pgbo37]
def Pgbv39 : List Value := [kf 10, vP 11 0, vI 1, kf 2, vB true, vP 13 0, vI 1, vX, vX, vX, vX, vX]
def Pgbv40 : List Value := [vG [kf 9, vI 1], kf 10, vP 13 0, vP 13 0, vB true, vB true, vI 0, vB true, vB true, vB true, vP 13 0, vB false]
def Pgbv41 : List Value := [vB true, vB true, vI 0, vI 1, vP 13 0, vP 7 0, vG [vI 3, vI 2, vU 0, vU 1], vX, vX, vX, vX, vX]
def Pgbl66 : List Value := Pgbv6 ++ (Pgbv39 ++ (Pgbv16 ++ (Pgbv29 ++ (Pgbv23 ++ (Pgbv24 ++ (Pgbv31 ++ (Pgbv40 ++ (Pgbv41 ++ (Pgbv1 ++ (Pgbv1 ++ (Pgbv1 ++ Pgbv2)))))))))))
def Pgbo42 : Obj := oC 270002 [vU 1, vU 0, vU 1, vU 0, vU 0, vU 0, vU 0, vU 0, vU 0, vU 0, vU 0, vU 0, vU 0, vU 0, vU 0, vU 0, vU 0, vU 0, vU 0, vU 0, vU 0, vU 0, vU 0, vU 0, vU 0, vU 0, vU 0, vU 0, vU 0, vU 0, vU 0, vU 0, vU 0, vU 0, vU 0, vU 0, vU 0, vU 0, vU 0, vU 0, vU 0, vU 0, vU 0, vU 0, vU 0, vU 0, vU 0, vU 0, vU 0, vU 0, vU 0, vU 0, vU 0, vU 0, vU 0, vU 0, vU 0, vU 0, vU 0, vU 0, vU 0, vU 0, vU 0, vU 0, vU 0, vU 0, vU 0, vU 0, vU 0, vU 0, vU 0, vU 0, vU 0, vU 0, vU 0, vU 0, vU 0]
def Pgbo43 : Obj := oC 109 [.complex .f32 1 0, vI 3, vI 2, vU 0, vU 1, vI 2]
def Pgbo44 : Obj := oC 75 [kf 9, vI 1, vF 55 [] [vP 15 0, vP 16 0, vP 14 0], kf 10, vZ, vZ, vZ, vI 0, vI 2]
def Pgbo45 : Obj := oC 80 [vF 34 [vP 13 0] []]
def Pgbo46 : Obj := oC 81 [vF 35 [vP 13 0] []]
def Pgbh72 : List Obj := [Pgbo5, Pgbo42, Pgbo43, Pgbo10, Pgbo11, Pgbo12, oC 116 [vI 0, kf 9], Pgbo13, Pgbo26, Pgbo28, Pgbo15, oC 30 [kf 26, vU 0], oC 22 [kf 7, kf 8], Pgbo44, oC 3 [kf 10], Pgbo45, Pgbo46]
def Pgbv47 : List Value := [kf 5, kf 6, kf 7, kf 8, vX, vX, vX, vX, vB false, vP 0 0, vP 6 0, vP 9 0]
def Pgbv48 : List Value := [kf 10, vP 10 0, vI 1, kf 2, vB true, vP 12 0, vI 2, vX, vX, vX, vX, vX]
def Pgbv49 : List Value := [kf 5, kf 16, kf 17, kf 9, vG [kf 9, vI 1, vZ], vT [vP 6 0, vP 9 0], vG [kf 9, vI 1, vZ], vT [vP 6 0, vP 9 0], vP 6 0, vP 9 0, vP 6 0, vB false]
def Pgbv50 : List Value := [vI 1, vI 0, kf 7, kf 8, vS 11 0 2 2, vI 0, vP 11 0, kf 7, vP 0 0, kf 9, vI 0, vI 0]
def Pgbv51 : List Value := [kf 9, kf 11, kf 26, vP 10 0, vT [kf 2, vB true], vP 9 0, vP 9 0, vP 9 2, vG [kf 9, vI 1], vI 0, vT [kf 2, vB true], kf 2]
def Pgbv52 : List Value := [vB true, vP 6 0, vP 9 0, kf 2, vI 0, vP 10 0, kf 26, vB true, vB false, vP 9 0, vP 9 0, vP 9 2]
def Pgbv53 : List Value := [vG [kf 9, vI 1], kf 10, vP 12 0, vP 12 0, vB true, vB true, vI 1, vB true, vB true, vB true, vP 12 0, vB false]
def Pgbv54 : List Value := [vB true, vB true, vI 1, vI 2, vP 12 0, vP 6 0, vG [vI 6, vI 0, kf 32, kf 33], vX, vX, vX, vX, vX]
def Pgbl81 : List Value := Pgbv47 ++ (Pgbv48 ++ (Pgbv49 ++ (Pgbv29 ++ (Pgbv50 ++ (Pgbv51 ++ (Pgbv52 ++ (Pgbv53 ++ (Pgbv54 ++ (Pgbv1 ++ (Pgbv1 ++ (Pgbv1 ++ Pgbv2)))))))))))
def Pgbo55 : Obj := oC 147 [vP 13 0, vI 1]
def Pgbo56 : Obj := oC 119 [kf 9, vZ, vI 2, vP 3 0, vS 5 0 1 1, kf 29]
def Pgbo57 : Obj := oC 116 [kf 10, kf 29]
def Pgbo58 : Obj := oC 64 [.complex .f32 7 0, vI 2, kf 2, vU 0, kf 26, vI 1]
def Pgbo59 : Obj := oC 40 [vP 8 0, vA, kf 9, vI 1]
def Pgbo60 : Obj := oC 75 [kf 9, vI 1, vF 108 [] [vP 19 0, vP 20 0, vP 21 0], kf 10, vZ, vZ, vS 14 0 1 1, vI 0, vI 2]
def Pgbo61 : Obj := oC 167 [kf 31, .int .u32 0, kf 10, kf 29, vN, vN]
def Pgbo62 : Obj := oC 137 [vF 88 [] [vP 15 0, vP 18 0, vP 17 0, vP 16 0]]
def Pgbh90 : List Obj := [Pgbo5, Pgbo42, Pgbo43, Pgbo55, Pgbo56, Pgbo57, Pgbo13, Pgbo26, Pgbo58, Pgbo59, oC 30 [kf 26, vU 0], oC 22 [kf 7, kf 8], Pgbo60, Pgbo61, oC 142 [vI 0, kf 12], oC 42 [vP 12 0], oC 3 [vI 0], oC 142 [vI 0, kf 12], oC 3 [kf 2], oC 3 [kf 1], oC 22 [kf 12], Pgbo62]
def Pgbv63 : List Value := [kf 10, vP 10 0, vI 1, kf 2, vB true, vP 12 0, vI 3, vX, vX, vX, vX, vX]
def Pgbv64 : List Value := [vG [kf 9, vI 1], kf 10, vP 12 0, vP 12 0, vB true, vB true, vI 2, vB true, vB true, vB true, vP 12 0, vB false]
def Pgbv65 : List Value := [vB true, vB true, vI 2, vI 3, vP 12 0, vP 6 0, vG [vI 5, kf 1, vU 0, kf 12], vX, vX, vX, vX, vX]
def Pgbl94 : List Value := Pgbv47 ++ (Pgbv63 ++ (Pgbv49 ++ (Pgbv29 ++ (Pgbv50 ++ (Pgbv51 ++ (Pgbv52 ++ (Pgbv64 ++ (Pgbv65 ++ (Pgbv1 ++ (Pgbv1 ++ (Pgbv1 ++ Pgbv2)))))))))))
def Pgbo66 : Obj := oC 270132 [vU 1, vU 0, vU 1, vU 0, vU 0, vU 0, vU 0, vU 0, vU 0, vU 0, vU 0, vU 0, vU 0, vU 0, vU 0, vU 0, vU 0, vU 0, vU 0, vU 0, vU 0, vU 0, vU 0, vU 0, vU 0, vU 0, vU 0, vU 0, vU 0, vU 0, vU 0, vU 0, vU 0, vU 0, vU 0, vU 0, vU 0, vU 0, vU 0, vU 0, vU 0, vU 0, vU 0, vU 0, vU 0, vU 0, vU 0, vU 0, vU 0, vU 0, vU 0, vU 0, vU 0, vU 0, vU 0, vU 0, vU 0, vU 0, vU 0, vU 0, vU 0, vU 0, vU 0, vU 0, vU 0, vU 0, vU 0, vU 0, vU 0, vU 0, vU 0, vU 0, vU 0, vU 0, vU 0, vU 0, vU 0]
def Pgbo67 : Obj := oC 109 [.complex .f32 1 0, vI 5, kf 1, vU 0, kf 12, vI 3]
def Pgbo68 : Obj := oC 75 [kf 9, vI 1, vF 100 [] [vP 19 0, vP 20 0], kf 10, vZ, vZ, vS 14 0 1 1, vI 0, vI 2]
def Pgbo69 : Obj := oC 137 [vF 89 [] [vP 17 0, vP 15 0, vP 16 0, vP 18 0]]
def Pgbh99 : List Obj := [Pgbo5, Pgbo66, Pgbo67, Pgbo55, Pgbo56, Pgbo57, Pgbo13, Pgbo26, Pgbo58, Pgbo59, oC 30 [kf 26, vU 0], oC 22 [kf 7, kf 8], Pgbo68, Pgbo61, oC 142 [vI 0, kf 12], oC 42 [vP 12 0], oC 3 [vI 0], oC 142 [vI 0, kf 12], oC 3 [kf 2], oC 3 [kf 2], Pgbo69]
def Pgbv70 : List Value := [kf 10, vP 10 0, vI 1, kf 2, vB true, vP 12 0, vI 4, vX, vX, vX, vX, vX]
def Pgbv71 : List Value := [vG [kf 9, vI 1], kf 10, vP 12 0, vP 12 0, vB true, vB true, vI 3, vB true, vB true, vB true, vP 12 0, vB false]
def Pgbv72 : List Value := [vB true, vB true, vI 3, vI 4, vP 12 0, vP 6 0, vG [vI 1, kf 2, kf 26, kf 26], vX, vX, vX, vX, vX]
def Pgbl103 : List Value := Pgbv47 ++ (Pgbv70 ++ (Pgbv49 ++ (Pgbv29 ++ (Pgbv50 ++ (Pgbv51 ++ (Pgbv52 ++ (Pgbv71 ++ (Pgbv72 ++ (Pgbv1 ++ (Pgbv1 ++ (Pgbv1 ++ Pgbv2)))))))))))
def Pgbo73 : Obj := oC 109 [.complex .f32 1 0, vI 1, kf 2, kf 26, kf 26, vI 4]
def Pgbo74 : Obj := oC 75 [kf 9, vI 1, vF 51 [] [vP 21 0, vP 22 0], kf 10, vZ, vZ, vS 14 0 1 1, vI 0, vI 2]
def Pgbo75 : Obj := oC 176 [kf 9, vI 1, vF 125 [] [vP 18 0, vP 19 0, vP 20 0]]
def Pgbo76 : Obj := oC 1 [vF 54 [vP 17 0] []]
def Pgbo77 : Obj := oC 98 [.iface 158 (vP 17 0)]
def Pgbo78 : Obj := oC 1 [vF 104 [] [vP 16 0, vP 15 0]]
def Pgbh110 : List Obj := [Pgbo5, Pgbo66, Pgbo73, Pgbo55, Pgbo56, Pgbo57, Pgbo13, Pgbo26, Pgbo58, Pgbo59, oC 30 [kf 26, vU 0], oC 22 [kf 7, kf 8], Pgbo74, Pgbo61, oC 142 [vI 0, kf 12], oC 42 [vP 12 0], oC 48 [vI 0], Pgbo75, oC 3 [vI 2], oC 22 [vU 0], Pgbo76, Pgbo77, Pgbo78]
def Pgbv79 : List Value := [kf 10, vP 10 0, vI 1, kf 2, vB true, vP 12 0, vI 5, vX, vX, vX, vX, vX]
def Pgbv80 : List Value := [vG [kf 9, vI 1], kf 10, vP 12 0, vP 12 0, vB true, vB true, vI 4, vB true, vB true, vB true, vP 12 0, vB false]
def Pgbv81 : List Value := [vB true, vB true, vI 4, vI 5, vP 12 0, vP 6 0, vG [vI 2, vI 2, vU 1, vU 0], vX, vX, vX, vX, vX]
def Pgbl114 : List Value := Pgbv47 ++ (Pgbv79 ++ (Pgbv49 ++ (Pgbv29 ++ (Pgbv50 ++ (Pgbv51 ++ (Pgbv52 ++ (Pgbv80 ++ (Pgbv81 ++ (Pgbv1 ++ (Pgbv1 ++ (Pgbv1 ++ Pgbv2)))))))))))
def Pgbo82 : Obj := oC 270132 [vU 1, vU 0, vU 0, vU 0, vU 0, vU 0, vU 0, vU 0, vU 0, vU 0, vU 0, vU 0, vU 0, vU 0, vU 0, vU 0, vU 0, vU 0, vU 0, vU 0, vU 0, vU 0, vU 0, vU 0, vU 0, vU 0, vU 0, vU 0, vU 0, vU 0, vU 0, vU 0, vU 0, vU 0, vU 0, vU 0, vU 0, vU 0, vU 0, vU 0, vU 0, vU 0, vU 0, vU 0, vU 0, vU 0, vU 0, vU 0, vU 0, vU 0, vU 0, vU 0, vU 0, vU 0, vU 0, vU 0, vU 0, vU 0, vU 0, vU 0, vU 0, vU 0, vU 0, vU 0, vU 0, vU 0, vU 0, vU 0, vU 0, vU 0, vU 0, vU 0, vU 0, vU 0, vU 0, vU 0, vU 0]
def Pgbo83 : Obj := oC 109 [.complex .f32 1 0, vI 2, vI 2, vU 1, vU 0, vI 5]
def Pgbo84 : Obj := oC 75 [kf 9, vI 1, .nilFunc, kf 10, vZ, vZ, vS 14 0 1 1, vI 0, vI 0]
def Pgbh118 : List Obj := [Pgbo5, Pgbo82, Pgbo83, Pgbo55, Pgbo56, Pgbo57, Pgbo13, Pgbo26, Pgbo58, Pgbo59, oC 30 [kf 26, vU 0], oC 22 [kf 7, kf 8], Pgbo84, Pgbo61, oC 142 [vI 0, kf 12]]
def Pgbv85 : List Value := [vG [kf 9, vI 1], kf 10, vP 12 0, vP 12 0, vB true, vB true, vI 5, vB true, vB true, vB true, vP 12 0, vB true]
def Pgbv86 : List Value := [vB false, vB false, vI 4, vI 5, vP 12 0, vP 6 0, vG [vI 2, vI 2, vU 1, vU 0], vX, vX, vX, vX, vX]
def Pgbl121 : List Value := Pgbv47 ++ (Pgbv79 ++ (Pgbv49 ++ (Pgbv29 ++ (Pgbv50 ++ (Pgbv51 ++ (Pgbv52 ++ (Pgbv85 ++ (Pgbv86 ++ (Pgbv1 ++ (Pgbv1 ++ (Pgbv1 ++ Pgbv2)))))))))))
def Pgbh122 : List Obj := [Pgbo5, Pgbo82, Pgbo83, Pgbo55, Pgbo56, Pgbo57, Pgbo13, Pgbo26, Pgbo58, Pgbo59, oC 30 [kf 26, vU 0], oC 22 [kf 7, kf 8], Pgbo84, Pgbo61, oC 142 [vI 0, kf 12]]
def Pgbv87 : List Value := [kf 10, vP 10 0, vI 1, kf 2, vB true, vP 12 0, vI 5, vI 0, vI 0, vX, vX, vX]
def Pgbv88 : List Value := [vB false, vB false, vI 4, vI 5, vP 12 0, vP 6 0, vG [vI 2, vI 2, vU 1, vU 0], vT [vI 0, vI 0], vP 12 0, vT [vI 0, vI 0], vI 0, vI 0]
def Pgbl125 : List Value := Pgbv47 ++ (Pgbv87 ++ (Pgbv49 ++ (Pgbv29 ++ (Pgbv50 ++ (Pgbv51 ++ (Pgbv52 ++ (Pgbv85 ++ (Pgbv88 ++ (Pgbv1 ++ (Pgbv1 ++ (Pgbv1 ++ Pgbv2)))))))))))
def Pgbh126 : List Obj := [Pgbo5, Pgbo82, Pgbo83, Pgbo55, Pgbo56, Pgbo57, Pgbo13, Pgbo26, Pgbo58, Pgbo59, oC 30 [kf 26, vU 0], oC 22 [kf 7, kf 8], Pgbo84, Pgbo61, oC 142 [vI 0, kf 12]]
def Pgbv89 : List Value := [vI 0, vB false, vB false, vI 0, vB false, vB false, vX, vX, vX, vX, vX, vX]
def Pgbl128 : List Value := Pgbv47 ++ (Pgbv87 ++ (Pgbv49 ++ (Pgbv29 ++ (Pgbv50 ++ (Pgbv51 ++ (Pgbv52 ++ (Pgbv85 ++ (Pgbv88 ++ (Pgbv89 ++ (Pgbv1 ++ (Pgbv1 ++ Pgbv2)))))))))))
def Pgbh129 : List Obj := [Pgbo5, Pgbo82, Pgbo83, Pgbo55, Pgbo56, Pgbo57, Pgbo13, Pgbo26, Pgbo58, Pgbo59, oC 30 [kf 26, vU 0], oC 22 [kf 7, kf 8], Pgbo84, Pgbo61, oC 142 [vI 0, kf 12]]
def Pgbl130 : List Value := Pgbv47 ++ (Pgbv87 ++ (Pgbv49 ++ (Pgbv29 ++ (Pgbv50 ++ (Pgbv51 ++ (Pgbv52 ++ (Pgbv85 ++ (Pgbv88 ++ (Pgbv89 ++ (Pgbv1 ++ (Pgbv1 ++ Pgbv2)))))))))))
def Pgbh131 : List Obj := [Pgbo5, Pgbo82, Pgbo83, Pgbo55, Pgbo56, Pgbo57, Pgbo13, Pgbo26, Pgbo58, Pgbo59, oC 30 [kf 26, vU 0], oC 22 [kf 7, kf 8], Pgbo84, Pgbo61, oC 142 [vI 0, kf 12]]
theorem Pgbp0 : PgS PgbO (seqL (pgC 0)) Pg0 [] .normal Pgbl3 Pgbh4 := pgS_ev [] (by decide +kernel)
theorem Pgbp1 : PgS PgbO (seqL (pgC 1)) Pgbl3 Pgbh4 .normal Pgbl7 Pgbh9 := pgS_ev [0] (by decide +kernel)
theorem Pgbp2 : PgS PgbO (seqL (pgC 2)) Pgbl7 Pgbh9 .normal Pgbl12 Pgbh21 := pgS_ev [0, 13, 14, 15, 16, 20, 22, 23, 30, 31, 32] (by decide +kernel)
theorem Pgbp3 : PgS PgbO (seqL (seqL (pgC 3))) Pgbl12 Pgbh21 .normal Pgbl23 Pgbh24 := pgS_ev [0, 1, 2, 3, 4, 5, 6, 7, 8, 9, 10] (by decide +kernel)
theorem Pgbp4 : PgS PgbO (seqR (seqL (pgC 3))) Pgbl23 Pgbh24 .normal Pgbl25 Pgbh26 := pgS_ev [0, 1, 2, 3, 4, 5, 6, 7, 8, 9, 10] (by decide +kernel)
theorem Pgbp5 : PgS PgbO (seqL (pgC 4)) Pgbl25 Pgbh26 .normal Pgbl29 Pgbh30 := pgS_ev [0, 1, 2, 3, 4, 5, 6, 7, 8, 9, 10] (by decide +kernel)
theorem Pgbp6 : PgS PgbO (seqL (pgC 5)) Pgbl29 Pgbh30 .normal Pgbl32 Pgbh33 := pgS_ev [0, 1, 2, 3, 4, 5, 6, 7, 8, 9, 10, 11] (by decide +kernel)
theorem Pgbp7 : PgS PgbO (seqL (seqL (pgC 6))) Pgbl32 Pgbh33 .normal Pgbl35 Pgbh36 := pgS_ev [0, 1, 2, 3, 4, 5, 6, 7, 8, 9, 10, 11] (by decide +kernel)
theorem Pgbp8 : PgS PgbO (inL (inB (seqR (seqL (pgC 6))))) Pgbl35 Pgbh36 .normal Pgbl42 Pgbh46 := pgS_ev [0, 1, 2, 3, 4, 5, 6, 7, 8, 9, 10, 11, 12] (by decide +kernel)
theorem Pgbp9 : PgS PgbO (inL (inB (seqR (seqL (pgC 6))))) Pgbl42 Pgbh46 (.exit 0) Pgbl48 Pgbh49 := pgS_ev [0, 1, 2, 3, 4, 5, 6, 7, 8, 9, 10, 11, 12] (by decide +kernel)
theorem Pgbp10 : PgS PgbO (seqL (pgC 7)) Pgbl48 Pgbh49 .normal Pgbl53 Pgbh59 := pgS_ev [0, 1, 2, 3, 4, 5, 6, 7, 8, 9, 10, 11, 12, 14, 17, 18, 22, 23, 24, 25, 26, 27, 28, 29] (by decide +kernel)
theorem Pgbp11 : PgS PgbO (seqL (seqL (pgC 8))) Pgbl53 Pgbh59 .normal Pgbl61 Pgbh62 := pgS_ev [0, 1, 2, 3, 4, 5, 6, 7, 8, 9, 10, 11, 12, 13, 14, 15, 16, 17, 18, 19, 20, 21, 22, 23] (by decide +kernel)
theorem Pgbp12 : PgS PgbO (inL (inB (seqR (seqL (pgC 8))))) Pgbl61 Pgbh62 .normal Pgbl66 Pgbh72 := pgS_ev [0, 1, 2, 3, 4, 5, 6, 7, 8, 9, 10, 11, 12, 15, 34, 35, 36] (by decide +kernel)
theorem Pgbp13 : PgS PgbO (inL (inB (seqR (seqL (pgC 8))))) Pgbl66 Pgbh72 .normal Pgbl81 Pgbh90 := pgS_ev [0, 1, 2, 3, 4, 6, 7, 8, 9, 10, 11, 12, 13, 33, 40, 41, 42, 43, 44, 61, 62, 63] (by decide +kernel)
theorem Pgbp14 : PgS PgbO (inL (inB (seqR (seqL (pgC 8))))) Pgbl81 Pgbh90 .normal Pgbl94 Pgbh99 := pgS_ev [0, 1, 2, 3, 4, 5, 6, 7, 8, 9, 10, 11, 12, 13, 14, 15, 16, 17, 18, 26, 27] (by decide +kernel)
theorem Pgbp15 : PgS PgbO (inL (inB (seqR (seqL (pgC 8))))) Pgbl94 Pgbh99 .normal Pgbl103 Pgbh110 := pgS_ev [0, 1, 2, 3, 4, 5, 6, 7, 8, 9, 10, 11, 12, 13, 14, 27, 28, 31, 32, 33, 34, 35, 36] (by decide +kernel)
theorem Pgbp16 : PgS PgbO (inL (inB (seqR (seqL (pgC 8))))) Pgbl103 Pgbh110 .normal Pgbl114 Pgbh118 := pgS_ev [0, 1, 2, 3, 4, 5, 6, 7, 8, 9, 10, 11, 12, 13, 14] (by decide +kernel)
theorem Pgbp17 : PgS PgbO (inL (inB (seqR (seqL (pgC 8))))) Pgbl114 Pgbh118 (.exit 2) Pgbl121 Pgbh122 := pgS_ev [0, 1, 2, 3, 4, 5, 6, 7, 8, 9, 10, 11, 12, 13, 14] (by decide +kernel)
theorem Pgbp18 : PgS PgbO (seqL (pgC 9)) Pgbl121 Pgbh122 .normal Pgbl125 Pgbh126 := pgS_ev [0, 1, 2, 3, 4, 5, 6, 7, 8, 9, 10, 11, 12, 13, 14] (by decide +kernel)
theorem Pgbp19 : PgS PgbO (seqL (seqL (pgC 10))) Pgbl125 Pgbh126 .normal Pgbl128 Pgbh129 := pgS_ev [0, 1, 2, 3, 4, 5, 6, 7, 8, 9, 10, 11, 12, 13, 14] (by decide +kernel)
theorem Pgbp20 : PgS PgbO (seqR (seqL (pgC 10))) Pgbl128 Pgbh129 .normal Pgbl130 Pgbh131 := pgS_ev [0, 1, 2, 3, 4, 5, 6, 7, 8, 9, 10, 11, 12, 13, 14] (by decide +kernel)
theorem Pgbw : shrOk (fun j => decide (j < 11)) [(kf 10, kf 10), (kf 26, kf 11), (kf 12, kf 15), (kf 26, kf 13)] 0 [0, 1, 2, 6, 9, 10] Pgbl130 Pgbh131 Pg1A Pg1H = true := by decide +kernel
def Pgce : List Ent := [⟨.conv 5 3, [kf 5], kf 16⟩,
  ⟨.bin .rem 3, [kf 16, vI 128], kf 17⟩,
  ⟨.bin .add 3, [vI 1, kf 17], kf 9⟩,
  ⟨.bin .geq 3, [kf 9, vI 1], .bool true⟩,
  ⟨.bin .leq 3, [kf 9, vI 4096], .bool true⟩,
  ⟨.bin .mul 3, [vI 5, kf 9], kf 18⟩,
  ⟨.bin .add 3, [vI 82, kf 18], kf 19⟩,
  ⟨.bin .add 3, [kf 19, kf 9], kf 1⟩,
  ⟨.bin .add 3, [kf 9, vI 64], kf 20⟩,
  ⟨.bin .sub 3, [kf 20, vI 1], kf 21⟩,
  ⟨.bin .quo 3, [kf 21, vI 64], vI 1⟩,
  ⟨.bin .add 3, [kf 1, vI 1], kf 2⟩,
  ⟨.bin .add 3, [kf 2, vI 1], kf 0⟩,
  ⟨.bin .lss 3, [kf 0, vI 1], .bool false⟩,
  ⟨.bin .gtr 3, [kf 0, vI 65536], .bool false⟩,
  ⟨.bin .geq 3, [vI 0, kf 0], .bool false⟩,
  ⟨.bin .lss 3, [kf 9, vI 1], .bool false⟩,
  ⟨.bin .gtr 3, [kf 9, vI 4096], .bool false⟩,
  ⟨.bin .mul 3, [vI 8192, kf 9], kf 22⟩,
  ⟨.bin .add 3, [kf 22, vI 0], kf 22⟩,
  ⟨.bin .add 3, [vI 0, kf 9], kf 9⟩,
  ⟨.bin .mul 3, [vI 6, kf 9], kf 23⟩,
  ⟨.bin .add 3, [vI 82, kf 23], kf 1⟩,
  ⟨.bin .add 3, [kf 9, vI 63], kf 21⟩,
  ⟨.bin .add 3, [kf 1, vI 2], kf 0⟩,
  ⟨.conv 5 3, [kf 6], kf 24⟩,
  ⟨.bin .rem 3, [kf 24, kf 9], kf 17⟩,
  ⟨.bin .lss 3, [vI 0, kf 9], .bool true⟩,
  ⟨.bin .sub 3, [kf 9, vI 0], kf 9⟩,
  ⟨.bin .and 22, [kf 7, kf 11], kf 25⟩,
  ⟨.bin .add 3, [kf 1, vI 0], kf 1⟩,
  ⟨.bin .lss 3, [kf 2, vI 0], .bool false⟩,
  ⟨.bin .geq 3, [kf 2, kf 0], .bool false⟩,
  ⟨.bin .geq 3, [kf 2, vI 0], .bool true⟩,
  ⟨.bin .lss 3, [kf 2, kf 0], .bool true⟩,
  ⟨.bin .lss 3, [vI 64, kf 9], .bool false⟩,
  ⟨.bin .neq 38, [vG [kf 9, vI 1], vG [kf 9, vI 1]], .bool false⟩,
  ⟨.bin .geq 3, [vI 2, kf 0], .bool false⟩,
  ⟨.bin .gtr 3, [kf 9, kf 9], .bool false⟩,
  ⟨.bin .lss 3, [kf 22, kf 22], .bool false⟩,
  ⟨.bin .neq 3, [kf 22, kf 22], .bool false⟩,
  ⟨.bin .neq 3, [kf 9, kf 9], .bool false⟩,
  ⟨.bin .lss 3, [kf 9, kf 9], .bool false⟩,
  ⟨.bin .sub 3, [kf 9, kf 9], kf 26⟩,
  ⟨.bin .gtr 3, [kf 9, vI 1048576], .bool false⟩,
  ⟨.mn #[3, 3], [kf 9, vI 64], kf 9⟩,
  ⟨.bin .shl 22, [kf 11, vI 0], kf 11⟩,
  ⟨.bin .add 3, [kf 2, vI 0], kf 2⟩,
  ⟨.conv 3 22, [kf 9], kf 27⟩,
  ⟨.conv 3 22, [kf 26], kf 28⟩,
  ⟨.bin .lss 3, [kf 1, vI 0], .bool false⟩,
  ⟨.bin .geq 3, [kf 1, kf 0], .bool false⟩,
  ⟨.bin .add 22, [.int .u64 0, kf 11], kf 11⟩,
  ⟨.bin .and 22, [kf 25, kf 11], kf 25⟩,
  ⟨.bin .eql 22, [kf 25, .int .u64 0], .bool false⟩,
  ⟨.un .neg, [kf 25], kf 29⟩,
  ⟨.bin .add 22, [kf 25, kf 29], kf 30⟩]
def Pgcf : List FnEnt := [⟨14, [], .bool true⟩,
  ⟨44, [kf 9, vZ], vA⟩,
  ⟨5, [kf 9], kf 11⟩,
  ⟨106, [kf 9], kf 11⟩]
def PgcO : Orc := orcS Pgce Pgcf 2 rdG noMkS
def Pgcv0 : List Value := [kf 5, kf 6, kf 7, kf 8, vX, vX, vX, vX, vB false, vX, vX, vX]
def Pgcv1 : List Value := [vX, vX, vX, vX, vX, vX, vX, vX, vX, vX, vX, vX]
def Pgcv2 : List Value := [vX, vX, vX, vX, vX, vX]
def Pgcl3 : List Value := Pgcv0 ++ (Pgcv1 ++ (Pgcv1 ++ (Pgcv1 ++ (Pgcv1 ++ (Pgcv1 ++ (Pgcv1 ++ (Pgcv1 ++ (Pgcv1 ++ (Pgcv1 ++ (Pgcv1 ++ (Pgcv1 ++ Pgcv2)))))))))))
def Pgch4 : List Obj := []
def Pgcv3 : List Value := [kf 5, kf 6, kf 7, kf 8, vX, vX, vX, vX, vB false, vP 0 0, vX, vX]
def Pgcv4 : List Value := [kf 5, kf 16, kf 17, kf 9, vG [kf 9, vI 1, vZ], vX, vX, vX, vX, vX, vX, vX]
def Pgcl7 : List Value := Pgcv3 ++ (Pgcv1 ++ (Pgcv4 ++ (Pgcv1 ++ (Pgcv1 ++ (Pgcv1 ++ (Pgcv1 ++ (Pgcv1 ++ (Pgcv1 ++ (Pgcv1 ++ (Pgcv1 ++ (Pgcv1 ++ Pgcv2)))))))))))
def Pgco5 : Obj := oC 25 [kf 9, vI 1, vZ]
def Pgch9 : List Obj := [Pgco5]
def Pgcv6 : List Value := [kf 5, kf 6, kf 7, kf 8, vX, vX, vX, vX, vB false, vP 0 0, vP 7 0, vP 10 0]
def Pgcv7 : List Value := [kf 5, kf 16, kf 17, kf 9, vG [kf 9, vI 1, vZ], vT [vP 7 0, vP 10 0], vG [kf 9, vI 1, vZ], vT [vP 7 0, vP 10 0], vP 7 0, vP 10 0, vX, vX]
def Pgcl12 : List Value := Pgcv6 ++ (Pgcv1 ++ (Pgcv7 ++ (Pgcv1 ++ (Pgcv1 ++ (Pgcv1 ++ (Pgcv1 ++ (Pgcv1 ++ (Pgcv1 ++ (Pgcv1 ++ (Pgcv1 ++ (Pgcv1 ++ Pgcv2)))))))))))
def Pgco8 : Obj := oC 2 [vU 1, vU 0, vU 0, vU 0, vU 0, vU 0, vU 0, vU 0, vU 0, vU 0, vU 0, vU 0, vU 0, vU 0, vU 0, vU 0, vU 0, vU 0, vU 0, vU 0, vU 0, vU 0, vU 0, vU 0, vU 0, vU 0, vU 0, vU 0, vU 0, vU 0, vU 0, vU 0, vU 0, vU 0, vU 0, vU 0, vU 0, vU 0, vU 0, vU 0, vU 0, vU 0, vU 0, vU 0, vU 0, vU 0, vU 0, vU 0, vU 0, vU 0, vU 0, vU 0, vU 0, vU 0, vU 0, vU 0, vU 0, vU 0, vU 0, vU 0, vU 0, vU 0, vU 0, vU 0, vU 0, vU 0, vU 0, vU 0, vU 0, vU 0, vU 0, vU 0, vU 0, vU 0, vU 0, vU 0, vU 0]
def Pgco9 : Obj := oC 109 [.complex .f32 1 0, vI 0, vI 0, vU 0, vU 0, vI 0]
def Pgco10 : Obj := oC 147 [vP 5 0, vI 1]
def Pgco11 : Obj := oC 119 [kf 9, vZ, vI 1, vP 3 0, vS 6 0 1 1, kf 9]
def Pgco12 : Obj := oC 167 [kf 22, .int .u32 0, vI 0, kf 9, vN, vN]
def Pgco13 : Obj := oC 86 [kf 9, vI 1, vP 2 0, vP 4 0]
def Pgco14 : Obj := oC 64 [.complex .f32 8 0, vI 0, vI 0, vU 0, vU 0, vI 0]
def Pgco15 : Obj := oC 40 [vP 9 0, vA, kf 9, vI 1]
def Pgch21 : List Obj := [Pgco5, Pgco8, Pgco9, Pgco10, Pgco11, Pgco12, oC 116 [vI 0, kf 9], Pgco13, Pgco8, Pgco14, Pgco15]
def Pgcv16 : List Value := [kf 5, kf 16, kf 17, kf 9, vG [kf 9, vI 1, vZ], vT [vP 7 0, vP 10 0], vG [kf 9, vI 1, vZ], vT [vP 7 0, vP 10 0], vP 7 0, vP 10 0, vP 7 0, vB false]
def Pgcl23 : List Value := Pgcv6 ++ (Pgcv1 ++ (Pgcv16 ++ (Pgcv1 ++ (Pgcv1 ++ (Pgcv1 ++ (Pgcv1 ++ (Pgcv1 ++ (Pgcv1 ++ (Pgcv1 ++ (Pgcv1 ++ (Pgcv1 ++ Pgcv2)))))))))))
def Pgch24 : List Obj := [Pgco5, Pgco8, Pgco9, Pgco10, Pgco11, Pgco12, oC 116 [vI 0, kf 9], Pgco13, Pgco8, Pgco14, Pgco15]
def Pgcl25 : List Value := Pgcv6 ++ (Pgcv1 ++ (Pgcv16 ++ (Pgcv1 ++ (Pgcv1 ++ (Pgcv1 ++ (Pgcv1 ++ (Pgcv1 ++ (Pgcv1 ++ (Pgcv1 ++ (Pgcv1 ++ (Pgcv1 ++ Pgcv2)))))))))))
def Pgch26 : List Obj := [Pgco5, Pgco8, Pgco9, Pgco10, Pgco11, Pgco12, oC 116 [vI 0, kf 9], Pgco13, Pgco8, Pgco14, Pgco15]
def Pgcv17 : List Value := [kf 9, vX, vX, vX, vX, vX, vX, vX, vX, vX, vX, vX]
def Pgcv18 : List Value := [kf 6, kf 24, vP 0 0, kf 9, kf 17, kf 9, vX, vX, vX, vX, vX, vX]
def Pgcl29 : List Value := Pgcv6 ++ (Pgcv17 ++ (Pgcv16 ++ (Pgcv18 ++ (Pgcv1 ++ (Pgcv1 ++ (Pgcv1 ++ (Pgcv1 ++ (Pgcv1 ++ (Pgcv1 ++ (Pgcv1 ++ (Pgcv1 ++ Pgcv2)))))))))))
def Pgch30 : List Obj := [Pgco5, Pgco8, Pgco9, Pgco10, Pgco11, Pgco12, oC 116 [vI 0, kf 9], Pgco13, Pgco8, Pgco14, Pgco15]
def Pgcv19 : List Value := [kf 9, vP 11 0, vX, vX, vX, vX, vX, vX, vX, vX, vX, vX]
def Pgcl32 : List Value := Pgcv6 ++ (Pgcv19 ++ (Pgcv16 ++ (Pgcv18 ++ (Pgcv1 ++ (Pgcv1 ++ (Pgcv1 ++ (Pgcv1 ++ (Pgcv1 ++ (Pgcv1 ++ (Pgcv1 ++ (Pgcv1 ++ Pgcv2)))))))))))
def Pgch33 : List Obj := [Pgco5, Pgco8, Pgco9, Pgco10, Pgco11, Pgco12, oC 116 [vI 0, kf 9], Pgco13, Pgco8, Pgco14, Pgco15, oC 30 [vU 0, vU 0]]
def Pgcv20 : List Value := [kf 9, vP 11 0, vI 0, vX, vX, vX, vX, vX, vX, vX, vX, vX]
def Pgcl35 : List Value := Pgcv6 ++ (Pgcv20 ++ (Pgcv16 ++ (Pgcv18 ++ (Pgcv1 ++ (Pgcv1 ++ (Pgcv1 ++ (Pgcv1 ++ (Pgcv1 ++ (Pgcv1 ++ (Pgcv1 ++ (Pgcv1 ++ Pgcv2)))))))))))
def Pgch36 : List Obj := [Pgco5, Pgco8, Pgco9, Pgco10, Pgco11, Pgco12, oC 116 [vI 0, kf 9], Pgco13, Pgco8, Pgco14, Pgco15, oC 30 [vU 0, vU 0]]
def Pgcv21 : List Value := [kf 9, vP 11 0, vI 1, kf 2, vB true, vX, vX, vX, vX, vX, vX, vX]
def Pgcv22 : List Value := [kf 6, kf 24, vP 0 0, kf 9, kf 17, kf 9, vI 0, vI 0, vP 0 0, kf 9, vB true, vI 0]
def Pgcv23 : List Value := [vI 1, vI 0, kf 7, kf 8, vS 12 0 2 2, vI 0, vP 12 0, kf 7, vP 0 0, kf 9, vI 0, vI 0]
def Pgcv24 : List Value := [kf 9, kf 11, kf 25, vP 11 0, vT [kf 2, vB true], vP 10 0, vP 10 0, vP 10 2, vG [kf 9, vI 1], vI 0, vT [kf 2, vB true], kf 2]
def Pgcv25 : List Value := [vB true, vP 7 0, vP 10 0, kf 2, vI 0, vP 11 0, kf 25, vB true, vB false, vX, vX, vX]
def Pgcl42 : List Value := Pgcv6 ++ (Pgcv21 ++ (Pgcv16 ++ (Pgcv22 ++ (Pgcv23 ++ (Pgcv24 ++ (Pgcv25 ++ (Pgcv1 ++ (Pgcv1 ++ (Pgcv1 ++ (Pgcv1 ++ (Pgcv1 ++ Pgcv2)))))))))))
def Pgco26 : Obj := oC 260002 [vU 1, vU 0, vU 0, vU 0, vU 0, vU 0, vU 0, vU 0, vU 0, vU 0, vU 0, vU 0, vU 0, vU 0, vU 0, vU 0, vU 0, vU 0, vU 0, vU 0, vU 0, vU 0, vU 0, vU 0, vU 0, vU 0, vU 0, vU 0, vU 0, vU 0, vU 0, vU 0, vU 0, vU 0, vU 0, vU 0, vU 0, vU 0, vU 0, vU 0, vU 0, vU 0, vU 0, vU 0, vU 0, vU 0, vU 0, vU 0, vU 0, vU 0, vU 0, vU 0, vU 0, vU 0, vU 0, vU 0, vU 0, vU 0, vU 0, vU 0, vU 0, vU 0, vU 0, vU 0, vU 0, vU 0, vU 0, vU 0, vU 0, vU 0, vU 0, vU 0, vU 0, vU 0, vU 0, vU 0, vU 0]
def Pgco27 : Obj := oC 109 [.complex .f32 1 0, vI 2, kf 2, vU 0, kf 25, vI 1]
def Pgco28 : Obj := oC 64 [.complex .f32 8 0, vI 2, kf 2, vU 0, kf 25, vI 1]
def Pgch46 : List Obj := [Pgco5, Pgco26, Pgco27, Pgco10, Pgco11, Pgco12, oC 116 [vI 0, kf 9], Pgco13, Pgco26, Pgco28, Pgco15, oC 30 [kf 25, vU 0], oC 22 [kf 7, kf 8]]
def Pgcv29 : List Value := [kf 6, kf 24, vP 0 0, kf 9, kf 17, kf 9, vI 1, vI 64, vP 0 0, kf 9, vB false, vI 0]
def Pgcl48 : List Value := Pgcv6 ++ (Pgcv21 ++ (Pgcv16 ++ (Pgcv29 ++ (Pgcv23 ++ (Pgcv24 ++ (Pgcv25 ++ (Pgcv1 ++ (Pgcv1 ++ (Pgcv1 ++ (Pgcv1 ++ (Pgcv1 ++ Pgcv2)))))))))))
def Pgch49 : List Obj := [Pgco5, Pgco26, Pgco27, Pgco10, Pgco11, Pgco12, oC 116 [vI 0, kf 9], Pgco13, Pgco26, Pgco28, Pgco15, oC 30 [kf 25, vU 0], oC 22 [kf 7, kf 8]]
def Pgcv30 : List Value := [kf 9, vP 11 0, vI 1, kf 2, vB true, vP 15 0, vX, vX, vX, vX, vX, vX]
def Pgcv31 : List Value := [vB true, vP 7 0, vP 10 0, kf 2, vI 0, vP 11 0, kf 25, vB true, vB false, vP 10 0, vP 10 0, vP 10 2]
def Pgcv32 : List Value := [vG [kf 9, vI 1], kf 9, vP 15 0, vX, vX, vX, vX, vX, vX, vX, vX, vX]
def Pgcl53 : List Value := Pgcv6 ++ (Pgcv30 ++ (Pgcv16 ++ (Pgcv29 ++ (Pgcv23 ++ (Pgcv24 ++ (Pgcv31 ++ (Pgcv32 ++ (Pgcv1 ++ (Pgcv1 ++ (Pgcv1 ++ (Pgcv1 ++ Pgcv2)))))))))))
def Pgco33 : Obj := oC 75 [kf 9, vI 1, vF 51 [] [vP 22 0, vP 23 0], kf 9, vZ, vZ, vZ, vI 0, vI 2]
def Pgco34 : Obj := oC 100 [kf 9, vI 1, vF 75 [] [vP 18 0, vP 19 0, vP 20 0, vP 21 0]]
def Pgco35 : Obj := oC 102 [vF 53 [] [vP 17 0]]
def Pgco36 : Obj := oC 98 [.iface 77 (vP 16 0)]
def Pgco37 : Obj := oC 1 [vF 32 [] [vP 14 0, vP 13 0]]
def Pgch59 : List Obj := [Pgco5, Pgco26, Pgco27, Pgco10, Pgco11, Pgco12, oC 116 [vI 0, kf 9], Pgco13, Pgco26, Pgco28, Pgco15, oC 30 [kf 25, vU 0], oC 22 [kf 7, kf 8], oC 3 [kf 9], oC 42 [vP 15 0], Pgco33, Pgco34, oC 77 [vP 16 0], oC 3 [vI 2], oC 22 [vU 0], oC 22 [vU 1], Pgco35, Pgco36, Pgco37]
def Pgcv38 : List Value := [kf 9, vP 11 0, vI 1, kf 2, vB true, vP 15 0, vI 0, vX, vX, vX, vX, vX]
def Pgcl61 : List Value := Pgcv6 ++ (Pgcv38 ++ (Pgcv16 ++ (Pgcv29 ++ (Pgcv23 ++ (Pgcv24 ++ (Pgcv31 ++ (Pgcv32 ++ (Pgcv1 ++ (Pgcv1 ++ (Pgcv1 ++ (Pgcv1 ++ Pgcv2)))))))))))
def Pgch62 : List Obj := [Pgco5, Pgco26, Pgco27, Pgco10, Pgco11, Pgco12, oC 116 [vI 0, kf 9], Pgco13, Pgco26, Pgco28, Pgco15, oC 30 [kf 25, vU 0], oC 22 [kf 7, kf 8], oC 3 [kf 9], oC 42 [vP 15 0], Pgco33, Pgco34, oC 77 [vP 16 0], oC 3 [vI 2], oC 22 [vU 0], oC 22 [vU 1], Pgco35, Pgco36, Pgco37]
def Pgcv39 : List Value := [kf 9, vP 11 0, vI 1, kf 2, vB true, vP 13 0, vI 1, vX, vX, vX, vX, vX]
def Pgcv40 : List Value := [vG [kf 9, vI 1], kf 9, vP 13 0, vP 13 0, vB true, vB true, vI 0, vB true, vB true, vB true, vP 13 0, vB false]
def Pgcv41 : List Value := [vB true, vB true, vI 0, vI 1, vP 13 0, vP 7 0, vG [vI 3, vI 2, vU 0, vU 1], vX, vX, vX, vX, vX]
def Pgcl66 : List Value := Pgcv6 ++ (Pgcv39 ++ (Pgcv16 ++ (Pgcv29 ++ (Pgcv23 ++ (Pgcv24 ++ (Pgcv31 ++ (Pgcv40 ++ (Pgcv41 ++ (Pgcv1 ++ (Pgcv1 ++ (Pgcv1 ++ Pgcv2)))))))))))
def Pgco42 : Obj := oC 260002 [vU 1, vU 0, vU 1, vU 0, vU 0, vU 0, vU 0, vU 0, vU 0, vU 0, vU 0, vU 0, vU 0, vU 0, vU 0, vU 0, vU 0, vU 0, vU 0, vU 0, vU 0, vU 0, vU 0, vU 0, vU 0, vU 0, vU 0, vU 0, vU 0, vU 0, vU 0, vU 0, vU 0, vU 0, vU 0, vU 0, vU 0, vU 0, vU 0, vU 0, vU 0, vU 0, vU 0, vU 0, vU 0, vU 0, vU 0, vU 0, vU 0, vU 0, vU 0, vU 0, vU 0, vU 0, vU 0, vU 0, vU 0, vU 0, vU 0, vU 0, vU 0, vU 0, vU 0, vU 0, vU 0, vU 0, vU 0, vU 0, vU 0, vU 0, vU 0, vU 0, vU 0, vU 0, vU 0, vU 0, vU 0]
def Pgco43 : Obj := oC 109 [.complex .f32 1 0, vI 3, vI 2, vU 0, vU 1, vI 2]
def Pgco44 : Obj := oC 75 [kf 9, vI 1, vF 55 [] [vP 15 0, vP 16 0, vP 14 0], kf 9, vZ, vZ, vZ, vI 0, vI 2]
def Pgco45 : Obj := oC 80 [vF 34 [vP 13 0] []]
def Pgco46 : Obj := oC 81 [vF 35 [vP 13 0] []]
def Pgch72 : List Obj := [Pgco5, Pgco42, Pgco43, Pgco10, Pgco11, Pgco12, oC 116 [vI 0, kf 9], Pgco13, Pgco26, Pgco28, Pgco15, oC 30 [kf 25, vU 0], oC 22 [kf 7, kf 8], Pgco44, oC 3 [kf 9], Pgco45, Pgco46]
def Pgcv47 : List Value := [kf 5, kf 6, kf 7, kf 8, vX, vX, vX, vX, vB false, vP 0 0, vP 6 0, vP 9 0]
def Pgcv48 : List Value := [kf 9, vP 10 0, vI 1, kf 2, vB true, vP 12 0, vI 2, vX, vX, vX, vX, vX]
def Pgcv49 : List Value := [kf 5, kf 16, kf 17, kf 9, vG [kf 9, vI 1, vZ], vT [vP 6 0, vP 9 0], vG [kf 9, vI 1, vZ], vT [vP 6 0, vP 9 0], vP 6 0, vP 9 0, vP 6 0, vB false]
def Pgcv50 : List Value := [vI 1, vI 0, kf 7, kf 8, vS 11 0 2 2, vI 0, vP 11 0, kf 7, vP 0 0, kf 9, vI 0, vI 0]
def Pgcv51 : List Value := [kf 9, kf 11, kf 25, vP 10 0, vT [kf 2, vB true], vP 9 0, vP 9 0, vP 9 2, vG [kf 9, vI 1], vI 0, vT [kf 2, vB true], kf 2]
def Pgcv52 : List Value := [vB true, vP 6 0, vP 9 0, kf 2, vI 0, vP 10 0, kf 25, vB true, vB false, vP 9 0, vP 9 0, vP 9 2]
def Pgcv53 : List Value := [vG [kf 9, vI 1], kf 9, vP 12 0, vP 12 0, vB true, vB true, vI 1, vB true, vB true, vB true, vP 12 0, vB false]
def Pgcv54 : List Value := [vB true, vB true, vI 1, vI 2, vP 12 0, vP 6 0, vG [vI 6, vI 0, kf 27, kf 28], vX, vX, vX, vX, vX]
def Pgcl81 : List Value := Pgcv47 ++ (Pgcv48 ++ (Pgcv49 ++ (Pgcv29 ++ (Pgcv50 ++ (Pgcv51 ++ (Pgcv52 ++ (Pgcv53 ++ (Pgcv54 ++ (Pgcv1 ++ (Pgcv1 ++ (Pgcv1 ++ Pgcv2)))))))))))
def Pgco55 : Obj := oC 119 [kf 9, vZ, vI 1, vP 3 0, vS 5 0 0 1, kf 26]
def Pgco56 : Obj := oC 64 [.complex .f32 7 0, vI 2, kf 2, vU 0, kf 25, vI 1]
def Pgco57 : Obj := oC 40 [vP 8 0, vA, kf 9, vI 1]
def Pgco58 : Obj := oC 75 [kf 9, vI 1, vF 108 [] [vP 18 0, vP 19 0, vP 20 0], kf 9, vZ, vZ, vS 13 0 1 1, vI 0, vI 2]
def Pgco59 : Obj := oC 137 [vF 88 [] [vP 14 0, vP 17 0, vP 16 0, vP 15 0]]
def Pgch87 : List Obj := [Pgco5, Pgco42, Pgco43, oC 147 [vN, vI 0], Pgco55, oC 116 [vI 0, vI 0], Pgco13, Pgco26, Pgco56, Pgco57, oC 30 [kf 25, vU 0], oC 22 [kf 7, kf 8], Pgco58, oC 142 [vI 0, kf 11], oC 42 [vP 12 0], oC 3 [vI 0], oC 142 [vI 0, kf 11], oC 3 [kf 2], oC 3 [kf 1], oC 22 [kf 11], Pgco59]
def Pgcv60 : List Value := [kf 9, vP 10 0, vI 1, kf 2, vB true, vP 12 0, vI 3, vX, vX, vX, vX, vX]
def Pgcv61 : List Value := [vG [kf 9, vI 1], kf 9, vP 12 0, vP 12 0, vB true, vB true, vI 2, vB true, vB true, vB true, vP 12 0, vB false]
def Pgcv62 : List Value := [vB true, vB true, vI 2, vI 3, vP 12 0, vP 6 0, vG [vI 5, kf 1, vU 0, kf 11], vX, vX, vX, vX, vX]
def Pgcl91 : List Value := Pgcv47 ++ (Pgcv60 ++ (Pgcv49 ++ (Pgcv29 ++ (Pgcv50 ++ (Pgcv51 ++ (Pgcv52 ++ (Pgcv61 ++ (Pgcv62 ++ (Pgcv1 ++ (Pgcv1 ++ (Pgcv1 ++ Pgcv2)))))))))))
def Pgco63 : Obj := oC 260122 [vU 1, vU 0, vU 1, vU 0, vU 0, vU 0, vU 0, vU 0, vU 0, vU 0, vU 0, vU 0, vU 0, vU 0, vU 0, vU 0, vU 0, vU 0, vU 0, vU 0, vU 0, vU 0, vU 0, vU 0, vU 0, vU 0, vU 0, vU 0, vU 0, vU 0, vU 0, vU 0, vU 0, vU 0, vU 0, vU 0, vU 0, vU 0, vU 0, vU 0, vU 0, vU 0, vU 0, vU 0, vU 0, vU 0, vU 0, vU 0, vU 0, vU 0, vU 0, vU 0, vU 0, vU 0, vU 0, vU 0, vU 0, vU 0, vU 0, vU 0, vU 0, vU 0, vU 0, vU 0, vU 0, vU 0, vU 0, vU 0, vU 0, vU 0, vU 0, vU 0, vU 0, vU 0, vU 0, vU 0, vU 0]
def Pgco64 : Obj := oC 109 [.complex .f32 1 0, vI 5, kf 1, vU 0, kf 11, vI 3]
def Pgco65 : Obj := oC 75 [kf 9, vI 1, vF 100 [] [vP 18 0, vP 19 0], kf 9, vZ, vZ, vS 13 0 1 1, vI 0, vI 2]
def Pgco66 : Obj := oC 137 [vF 89 [] [vP 16 0, vP 14 0, vP 15 0, vP 17 0]]
def Pgch96 : List Obj := [Pgco5, Pgco63, Pgco64, oC 147 [vN, vI 0], Pgco55, oC 116 [vI 0, vI 0], Pgco13, Pgco26, Pgco56, Pgco57, oC 30 [kf 25, vU 0], oC 22 [kf 7, kf 8], Pgco65, oC 142 [vI 0, kf 11], oC 42 [vP 12 0], oC 3 [vI 0], oC 142 [vI 0, kf 11], oC 3 [kf 2], oC 3 [kf 2], Pgco66]
def Pgcv67 : List Value := [kf 9, vP 10 0, vI 1, kf 2, vB true, vP 12 0, vI 4, vX, vX, vX, vX, vX]
def Pgcv68 : List Value := [vG [kf 9, vI 1], kf 9, vP 12 0, vP 12 0, vB true, vB true, vI 3, vB true, vB true, vB true, vP 12 0, vB false]
def Pgcv69 : List Value := [vB true, vB true, vI 3, vI 4, vP 12 0, vP 6 0, vG [vI 1, kf 2, kf 25, kf 25], vX, vX, vX, vX, vX]
def Pgcl100 : List Value := Pgcv47 ++ (Pgcv67 ++ (Pgcv49 ++ (Pgcv29 ++ (Pgcv50 ++ (Pgcv51 ++ (Pgcv52 ++ (Pgcv68 ++ (Pgcv69 ++ (Pgcv1 ++ (Pgcv1 ++ (Pgcv1 ++ Pgcv2)))))))))))
def Pgco70 : Obj := oC 109 [.complex .f32 1 0, vI 1, kf 2, kf 25, kf 25, vI 4]
def Pgco71 : Obj := oC 75 [kf 9, vI 1, vF 108 [] [vP 16 0, vP 17 0, vP 18 0], kf 9, vZ, vZ, vS 13 0 1 1, vI 0, vI 2]
def Pgco72 : Obj := oC 137 [vF 90 [] [vP 14 0, vP 15 0]]
def Pgch104 : List Obj := [Pgco5, Pgco63, Pgco70, oC 147 [vN, vI 0], Pgco55, oC 116 [vI 0, vI 0], Pgco13, Pgco26, Pgco56, Pgco57, oC 30 [kf 25, vU 0], oC 22 [kf 7, kf 8], Pgco71, oC 142 [vI 0, kf 11], oC 42 [vP 12 0], oC 3 [vI 0], oC 3 [kf 2], oC 22 [kf 29], Pgco72]
def Pgcv73 : List Value := [kf 9, vP 10 0, vI 1, kf 2, vB true, vP 12 0, vI 5, vX, vX, vX, vX, vX]
def Pgcv74 : List Value := [vG [kf 9, vI 1], kf 9, vP 12 0, vP 12 0, vB true, vB true, vI 4, vB true, vB true, vB true, vP 12 0, vB false]
def Pgcv75 : List Value := [vB true, vB true, vI 4, vI 5, vP 12 0, vP 6 0, vG [vI 5, kf 2, kf 25, kf 30], vX, vX, vX, vX, vX]
def Pgcl108 : List Value := Pgcv47 ++ (Pgcv73 ++ (Pgcv49 ++ (Pgcv29 ++ (Pgcv50 ++ (Pgcv51 ++ (Pgcv52 ++ (Pgcv74 ++ (Pgcv75 ++ (Pgcv1 ++ (Pgcv1 ++ (Pgcv1 ++ Pgcv2)))))))))))
def Pgco76 : Obj := oC 310122 [vU 1, vU 0, vU 1, vU 0, vU 0, vU 0, vU 0, vU 0, vU 0, vU 0, vU 0, vU 0, vU 0, vU 0, vU 0, vU 0, vU 0, vU 0, vU 0, vU 0, vU 0, vU 0, vU 0, vU 0, vU 0, vU 0, vU 0, vU 0, vU 0, vU 0, vU 0, vU 0, vU 0, vU 0, vU 0, vU 0, vU 0, vU 0, vU 0, vU 0, vU 0, vU 0, vU 0, vU 0, vU 0, vU 0, vU 0, vU 0, vU 0, vU 0, vU 0, vU 0, vU 0, vU 0, vU 0, vU 0, vU 0, vU 0, vU 0, vU 0, vU 0, vU 0, vU 0, vU 0, vU 0, vU 0, vU 0, vU 0, vU 0, vU 0, vU 0, vU 0, vU 0, vU 0, vU 0, vU 0, vU 0]
def Pgco77 : Obj := oC 109 [.complex .f32 1 0, vI 5, kf 2, kf 25, kf 30, vI 5]
def Pgco78 : Obj := oC 75 [kf 9, vI 1, vF 51 [] [vP 20 0, vP 21 0], kf 9, vZ, vZ, vS 13 0 1 1, vI 0, vI 2]
def Pgco79 : Obj := oC 176 [kf 9, vI 1, vF 125 [] [vP 17 0, vP 18 0, vP 19 0]]
def Pgco80 : Obj := oC 1 [vF 54 [vP 16 0] []]
def Pgco81 : Obj := oC 98 [.iface 158 (vP 16 0)]
def Pgco82 : Obj := oC 1 [vF 104 [] [vP 15 0, vP 14 0]]
def Pgch116 : List Obj := [Pgco5, Pgco76, Pgco77, oC 147 [vN, vI 0], Pgco55, oC 116 [vI 0, vI 0], Pgco13, Pgco26, Pgco56, Pgco57, oC 30 [kf 25, vU 0], oC 22 [kf 7, kf 8], Pgco78, oC 142 [vI 0, kf 11], oC 42 [vP 12 0], oC 48 [vI 0], Pgco79, oC 3 [vI 2], oC 22 [vU 0], Pgco80, Pgco81, Pgco82]
def Pgcv83 : List Value := [kf 9, vP 10 0, vI 1, kf 2, vB true, vP 12 0, vI 6, vX, vX, vX, vX, vX]
def Pgcv84 : List Value := [vG [kf 9, vI 1], kf 9, vP 12 0, vP 12 0, vB true, vB true, vI 5, vB true, vB true, vB true, vP 12 0, vB false]
def Pgcv85 : List Value := [vB true, vB true, vI 5, vI 6, vP 12 0, vP 6 0, vG [vI 2, vI 2, vU 1, vU 0], vX, vX, vX, vX, vX]
def Pgcl120 : List Value := Pgcv47 ++ (Pgcv83 ++ (Pgcv49 ++ (Pgcv29 ++ (Pgcv50 ++ (Pgcv51 ++ (Pgcv52 ++ (Pgcv84 ++ (Pgcv85 ++ (Pgcv1 ++ (Pgcv1 ++ (Pgcv1 ++ Pgcv2)))))))))))
def Pgco86 : Obj := oC 310122 [vU 1, vU 0, vU 0, vU 0, vU 0, vU 0, vU 0, vU 0, vU 0, vU 0, vU 0, vU 0, vU 0, vU 0, vU 0, vU 0, vU 0, vU 0, vU 0, vU 0, vU 0, vU 0, vU 0, vU 0, vU 0, vU 0, vU 0, vU 0, vU 0, vU 0, vU 0, vU 0, vU 0, vU 0, vU 0, vU 0, vU 0, vU 0, vU 0, vU 0, vU 0, vU 0, vU 0, vU 0, vU 0, vU 0, vU 0, vU 0, vU 0, vU 0, vU 0, vU 0, vU 0, vU 0, vU 0, vU 0, vU 0, vU 0, vU 0, vU 0, vU 0, vU 0, vU 0, vU 0, vU 0, vU 0, vU 0, vU 0, vU 0, vU 0, vU 0, vU 0, vU 0, vU 0, vU 0, vU 0, vU 0]
def Pgco87 : Obj := oC 109 [.complex .f32 1 0, vI 2, vI 2, vU 1, vU 0, vI 6]
def Pgco88 : Obj := oC 75 [kf 9, vI 1, .nilFunc, kf 9, vZ, vZ, vS 13 0 1 1, vI 0, vI 0]
def Pgch124 : List Obj := [Pgco5, Pgco86, Pgco87, oC 147 [vN, vI 0], Pgco55, oC 116 [vI 0, vI 0], Pgco13, Pgco26, Pgco56, Pgco57, oC 30 [kf 25, vU 0], oC 22 [kf 7, kf 8], Pgco88, oC 142 [vI 0, kf 11]]
def Pgcv89 : List Value := [vG [kf 9, vI 1], kf 9, vP 12 0, vP 12 0, vB true, vB true, vI 6, vB true, vB true, vB true, vP 12 0, vB true]
def Pgcv90 : List Value := [vB false, vB false, vI 5, vI 6, vP 12 0, vP 6 0, vG [vI 2, vI 2, vU 1, vU 0], vX, vX, vX, vX, vX]
def Pgcl127 : List Value := Pgcv47 ++ (Pgcv83 ++ (Pgcv49 ++ (Pgcv29 ++ (Pgcv50 ++ (Pgcv51 ++ (Pgcv52 ++ (Pgcv89 ++ (Pgcv90 ++ (Pgcv1 ++ (Pgcv1 ++ (Pgcv1 ++ Pgcv2)))))))))))
def Pgch128 : List Obj := [Pgco5, Pgco86, Pgco87, oC 147 [vN, vI 0], Pgco55, oC 116 [vI 0, vI 0], Pgco13, Pgco26, Pgco56, Pgco57, oC 30 [kf 25, vU 0], oC 22 [kf 7, kf 8], Pgco88, oC 142 [vI 0, kf 11]]
def Pgcv91 : List Value := [kf 9, vP 10 0, vI 1, kf 2, vB true, vP 12 0, vI 6, vI 0, vI 0, vX, vX, vX]
def Pgcv92 : List Value := [vB false, vB false, vI 5, vI 6, vP 12 0, vP 6 0, vG [vI 2, vI 2, vU 1, vU 0], vT [vI 0, vI 0], vP 12 0, vT [vI 0, vI 0], vI 0, vI 0]
def Pgcl131 : List Value := Pgcv47 ++ (Pgcv91 ++ (Pgcv49 ++ (Pgcv29 ++ (Pgcv50 ++ (Pgcv51 ++ (Pgcv52 ++ (Pgcv89 ++ (Pgcv92 ++ (Pgcv1 ++ (Pgcv1 ++ (Pgcv1 ++ Pgcv2)))))))))))
def Pgch132 : List Obj := [Pgco5, Pgco86, Pgco87, oC 147 [vN, vI 0], Pgco55, oC 116 [vI 0, vI 0], Pgco13, Pgco26, Pgco56, Pgco57, oC 30 [kf 25, vU 0], oC 22 [kf 7, kf 8], Pgco88, oC 142 [vI 0, kf 11]]
def Pgcv93 : List Value := [vI 0, vB false, vB false, vI 0, vB false, vB false, vX, vX, vX, vX, vX, vX]
def Pgcl134 : List Value := Pgcv47 ++ (Pgcv91 ++ (Pgcv49 ++ (Pgcv29 ++ (Pgcv50 ++ (Pgcv51 ++ (Pgcv52 ++ (Pgcv89 ++ (Pgcv92 ++ (Pgcv93 ++ (Pgcv1 ++ (Pgcv1 ++ Pgcv2)))))))))))
def Pgch135 : List Obj := [Pgco5, Pgco86, Pgco87, oC 147 [vN, vI 0], Pgco55, oC 116 [vI 0, vI 0], Pgco13, Pgco26, Pgco56, Pgco57, oC 30 [kf 25, vU 0], oC 22 [kf 7, kf 8], Pgco88, oC 142 [vI 0, kf 11]]
def Pgcl136 : List Value := Pgcv47 ++ (Pgcv91 ++ (Pgcv49 ++ (Pgcv29 ++ (Pgcv50 ++ (Pgcv51 ++ (Pgcv52 ++ (Pgcv89 ++ (Pgcv92 ++ (Pgcv93 ++ (Pgcv1 ++ (Pgcv1 ++ Pgcv2)))))))))))
def Pgch137 : List Obj := [Pgco5, Pgco86, Pgco87, oC 147 [vN, vI 0], Pgco55, oC 116 [vI 0, vI 0], Pgco13, Pgco26, Pgco56, Pgco57, oC 30 [kf 25, vU 0], oC 22 [kf 7, kf 8], Pgco88, oC 142 [vI 0, kf 11]]
theorem Pgcp0 : PgS PgcO (seqL (pgC 0)) Pg0 [] .normal Pgcl3 Pgch4 := pgS_ev [] (by decide +kernel)
theorem Pgcp1 : PgS PgcO (seqL (pgC 1)) Pgcl3 Pgch4 .normal Pgcl7 Pgch9 := pgS_ev [0] (by decide +kernel)
theorem Pgcp2 : PgS PgcO (seqL (pgC 2)) Pgcl7 Pgch9 .normal Pgcl12 Pgch21 := pgS_ev [0, 13, 14, 15, 16, 20, 22, 23, 30, 31, 32] (by decide +kernel)
theorem Pgcp3 : PgS PgcO (seqL (seqL (pgC 3))) Pgcl12 Pgch21 .normal Pgcl23 Pgch24 := pgS_ev [0, 1, 2, 3, 4, 5, 6, 7, 8, 9, 10] (by decide +kernel)
theorem Pgcp4 : PgS PgcO (seqR (seqL (pgC 3))) Pgcl23 Pgch24 .normal Pgcl25 Pgch26 := pgS_ev [0, 1, 2, 3, 4, 5, 6, 7, 8, 9, 10] (by decide +kernel)
theorem Pgcp5 : PgS PgcO (seqL (pgC 4)) Pgcl25 Pgch26 .normal Pgcl29 Pgch30 := pgS_ev [0, 1, 2, 3, 4, 5, 6, 7, 8, 9, 10] (by decide +kernel)
theorem Pgcp6 : PgS PgcO (seqL (pgC 5)) Pgcl29 Pgch30 .normal Pgcl32 Pgch33 := pgS_ev [0, 1, 2, 3, 4, 5, 6, 7, 8, 9, 10, 11] (by decide +kernel)
theorem Pgcp7 : PgS PgcO (seqL (seqL (pgC 6))) Pgcl32 Pgch33 .normal Pgcl35 Pgch36 := pgS_ev [0, 1, 2, 3, 4, 5, 6, 7, 8, 9, 10, 11] (by decide +kernel)
theorem Pgcp8 : PgS PgcO (inL (inB (seqR (seqL (pgC 6))))) Pgcl35 Pgch36 .normal Pgcl42 Pgch46 := pgS_ev [0, 1, 2, 3, 4, 5, 6, 7, 8, 9, 10, 11, 12] (by decide +kernel)
theorem Pgcp9 : PgS PgcO (inL (inB (seqR (seqL (pgC 6))))) Pgcl42 Pgch46 (.exit 0) Pgcl48 Pgch49 := pgS_ev [0, 1, 2, 3, 4, 5, 6, 7, 8, 9, 10, 11, 12] (by decide +kernel)
theorem Pgcp10 : PgS PgcO (seqL (pgC 7)) Pgcl48 Pgch49 .normal Pgcl53 Pgch59 := pgS_ev [0, 1, 2, 3, 4, 5, 6, 7, 8, 9, 10, 11, 12, 14, 17, 18, 22, 23, 24, 25, 26, 27, 28, 29] (by decide +kernel)
theorem Pgcp11 : PgS PgcO (seqL (seqL (pgC 8))) Pgcl53 Pgch59 .normal Pgcl61 Pgch62 := pgS_ev [0, 1, 2, 3, 4, 5, 6, 7, 8, 9, 10, 11, 12, 13, 14, 15, 16, 17, 18, 19, 20, 21, 22, 23] (by decide +kernel)
theorem Pgcp12 : PgS PgcO (inL (inB (seqR (seqL (pgC 8))))) Pgcl61 Pgch62 .normal Pgcl66 Pgch72 := pgS_ev [0, 1, 2, 3, 4, 5, 6, 7, 8, 9, 10, 11, 12, 15, 34, 35, 36] (by decide +kernel)
theorem Pgcp13 : PgS PgcO (inL (inB (seqR (seqL (pgC 8))))) Pgcl66 Pgch72 .normal Pgcl81 Pgch87 := pgS_ev [0, 1, 2, 3, 4, 6, 7, 8, 9, 10, 11, 12, 13, 35, 36, 37, 38, 39, 56, 57, 58] (by decide +kernel)
theorem Pgcp14 : PgS PgcO (inL (inB (seqR (seqL (pgC 8))))) Pgcl81 Pgch87 .normal Pgcl91 Pgch96 := pgS_ev [0, 1, 2, 3, 4, 5, 6, 7, 8, 9, 10, 11, 12, 13, 14, 15, 16, 17, 25, 26] (by decide +kernel)
theorem Pgcp15 : PgS PgcO (inL (inB (seqR (seqL (pgC 8))))) Pgcl91 Pgch96 .normal Pgcl100 Pgch104 := pgS_ev [0, 1, 2, 3, 4, 5, 6, 7, 8, 9, 10, 11, 12, 13, 14, 15, 24, 25, 26] (by decide +kernel)
theorem Pgcp16 : PgS PgcO (inL (inB (seqR (seqL (pgC 8))))) Pgcl100 Pgch104 .normal Pgcl108 Pgch116 := pgS_ev [0, 1, 2, 3, 4, 5, 6, 7, 8, 9, 10, 11, 12, 13, 25, 26, 29, 30, 31, 32, 33, 34] (by decide +kernel)
theorem Pgcp17 : PgS PgcO (inL (inB (seqR (seqL (pgC 8))))) Pgcl108 Pgch116 .normal Pgcl120 Pgch124 := pgS_ev [0, 1, 2, 3, 4, 5, 6, 7, 8, 9, 10, 11, 12, 13] (by decide +kernel)
theorem Pgcp18 : PgS PgcO (inL (inB (seqR (seqL (pgC 8))))) Pgcl120 Pgch124 (.exit 2) Pgcl127 Pgch128 := pgS_ev [0, 1, 2, 3, 4, 5, 6, 7, 8, 9, 10, 11, 12, 13] (by decide +kernel)
theorem Pgcp19 : PgS PgcO (seqL (pgC 9)) Pgcl127 Pgch128 .normal Pgcl131 Pgch132 := pgS_ev [0, 1, 2, 3, 4, 5, 6, 7, 8, 9, 10, 11, 12, 13] (by decide +kernel)
theorem Pgcp20 : PgS PgcO (seqL (seqL (pgC 10))) Pgcl131 Pgch132 .normal Pgcl134 Pgch135 := pgS_ev [0, 1, 2, 3, 4, 5, 6, 7, 8, 9, 10, 11, 12, 13] (by decide +kernel)
theorem Pgcp21 : PgS PgcO (seqR (seqL (pgC 10))) Pgcl134 Pgch135 .normal Pgcl136 Pgch137 := pgS_ev [0, 1, 2, 3, 4, 5, 6, 7, 8, 9, 10, 11, 12, 13] (by decide +kernel)
theorem Pgcw : shrOk (fun j => decide (j < 11)) [(kf 9, kf 10), (kf 25, kf 11), (kf 11, kf 15), (kf 30, kf 13)] 0 [0, 1, 2, 6, 9, 10] Pgcl136 Pgch137 Pg1A Pg1H = true := by decide +kernel
end Go.Proofs.YtfppinabdalblaaGreat
