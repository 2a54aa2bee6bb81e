/- PagerHeads: more of the runs, in pieces (printed by gen_ph.py, split_ph2.py). -/
import Derived.Test.YthggcmhmjkmjnaaGreatMqB
import Derived.Test.YthggcmhmjkmjnaaGreatRefl23
namespace Go.Proofs.YthggcmhmjkmjnaaGreat
open Go.RowKit Go.IntWalk
set_option linter.unusedVariables false
set_option linter.unusedSimpArgs false
set_option maxRecDepth 100000
def Mq0e : List Ent := [⟨.conv 5 3, [kf 4], kf 6⟩,
  ⟨.bin .rem 3, [kf 6, vI 4], vI 0⟩,
  ⟨.conv 5 3, [kf 1], kf 7⟩,
  ⟨.bin .rem 3, [kf 7, vI 30], kf 8⟩,
  ⟨.bin .add 3, [vI 1, kf 8], kf 9⟩,
  ⟨.bin .geq 3, [kf 9, vI 1], .bool true⟩,
  ⟨.bin .leq 3, [kf 9, vI 4096], .bool true⟩,
  ⟨.bin .mul 3, [vI 5, kf 9], kf 10⟩,
  ⟨.bin .add 3, [vI 96, kf 10], kf 11⟩,
  ⟨.bin .add 3, [kf 11, kf 9], kf 12⟩,
  ⟨.bin .add 3, [kf 9, vI 64], kf 13⟩,
  ⟨.bin .sub 3, [kf 13, vI 1], kf 14⟩,
  ⟨.bin .quo 3, [kf 14, vI 64], vI 1⟩,
  ⟨.bin .add 3, [kf 12, vI 1], kf 15⟩,
  ⟨.bin .add 3, [kf 15, vI 1], kf 0⟩,
  ⟨.bin .lss 3, [kf 0, vI 1], .bool false⟩,
  ⟨.bin .gtr 3, [kf 0, vI 65536], .bool false⟩,
  ⟨.bin .geq 3, [vI 0, kf 0], .bool false⟩,
  ⟨.bin .lss 3, [kf 9, vI 1], .bool false⟩,
  ⟨.bin .gtr 3, [kf 9, vI 4096], .bool false⟩,
  ⟨.bin .mul 3, [vI 8192, kf 9], kf 16⟩,
  ⟨.bin .add 3, [kf 16, vI 0], kf 16⟩,
  ⟨.bin .add 3, [vI 0, kf 9], kf 9⟩,
  ⟨.bin .mul 3, [vI 6, kf 9], kf 17⟩,
  ⟨.bin .add 3, [vI 96, kf 17], kf 12⟩,
  ⟨.bin .add 3, [kf 9, vI 63], kf 14⟩,
  ⟨.bin .add 3, [kf 12, vI 2], kf 0⟩,
  ⟨.bin .add 3, [kf 9, vI 1], kf 18⟩,
  ⟨.conv 22 3, [kf 2], kf 19⟩,
  ⟨.bin .sub 3, [vI 4096, kf 9], kf 20⟩,
  ⟨.bin .rem 3, [kf 19, kf 20], kf 21⟩,
  ⟨.bin .add 3, [kf 18, kf 21], kf 22⟩,
  ⟨.bin .lss 3, [kf 22, vI 1], .bool false⟩,
  ⟨.bin .gtr 3, [kf 22, vI 4096], .bool false⟩,
  ⟨.bin .neq 37, [vG [kf 9, vI 2], vG [kf 9, vI 2]], .bool false⟩,
  ⟨.bin .geq 3, [vI 2, kf 0], .bool false⟩,
  ⟨.bin .gtr 3, [kf 22, kf 9], .bool true⟩,
  ⟨.conv 3 40, [kf 22], kf 23⟩,
  ⟨.conv 3 40, [kf 9], kf 24⟩,
  ⟨.bin .neq 40, [kf 24, kf 24], .bool false⟩,
  ⟨.bin .eql 3, [kf 9, kf 9], .bool true⟩]
def Mq0v0 : List Value := [kf 1, kf 2, kf 3, kf 5, kf 4, vX, vX, vX, vX, vX, vB false, vX]
def Mq0v1 : List Value := [vX, vX, vX, vX, vX, vX, vX, vX, vX, vX, vX, vX]
def Mq0l2 : List Value := Mq0v0 ++ (Mq0v1 ++ (Mq0v1 ++ (Mq0v1 ++ (Mq0v1 ++ (Mq0v1 ++ (Mq0v1 ++ (Mq0v1 ++ (Mq0v1 ++ (Mq0v1 ++ (Mq0v1 ++ (Mq0v1 ++ (Mq0v1 ++ (Mq0v1 ++ (Mq0v1 ++ (Mq0v1 ++ Mq0v1)))))))))))))))
def Mq0h3 : List Obj := []
def Mq0v2 : List Value := [kf 1, kf 2, kf 3, kf 5, kf 4, vX, vX, vX, vX, vX, vB false, vP 0 0]
def Mq0v3 : List Value := [vX, vX, vX, kf 1, kf 7, kf 8, kf 9, vG [kf 9, vI 2, vZ], vX, vX, vX, vX]
def Mq0l6 : List Value := Mq0v2 ++ (Mq0v1 ++ (Mq0v3 ++ (Mq0v1 ++ (Mq0v1 ++ (Mq0v1 ++ (Mq0v1 ++ (Mq0v1 ++ (Mq0v1 ++ (Mq0v1 ++ (Mq0v1 ++ (Mq0v1 ++ (Mq0v1 ++ (Mq0v1 ++ (Mq0v1 ++ (Mq0v1 ++ Mq0v1)))))))))))))))
def Mq0o4 : Obj := oC 25 [kf 9, vI 2, vZ]
def Mq0h8 : List Obj := [Mq0o4]
def Mq0v5 : List Value := [vP 7 0, vP 10 0, vX, vX, vX, vX, vX, vX, vX, vX, vX, vX]
def Mq0v6 : List Value := [vX, vX, vX, kf 1, kf 7, kf 8, kf 9, vG [kf 9, vI 2, vZ], vT [vP 7 0, vP 10 0], vG [kf 9, vI 2, vZ], vT [vP 7 0, vP 10 0], vP 7 0]
def Mq0v7 : List Value := [vP 10 0, vX, vX, vX, vX, vX, vX, vX, vX, vX, vX, vX]
def Mq0l12 : List Value := Mq0v2 ++ (Mq0v5 ++ (Mq0v6 ++ (Mq0v7 ++ (Mq0v1 ++ (Mq0v1 ++ (Mq0v1 ++ (Mq0v1 ++ (Mq0v1 ++ (Mq0v1 ++ (Mq0v1 ++ (Mq0v1 ++ (Mq0v1 ++ (Mq0v1 ++ (Mq0v1 ++ (Mq0v1 ++ Mq0v1)))))))))))))))
def Mq0o8 : Obj := oC 40 [vU 1, vU 0, vU 0, vU 0, vU 0, vU 0, vU 0, vU 0, vU 0, vU 0, vU 0, vU 0, vU 0, vU 0, vU 0, vU 0, vU 0, vU 0, vU 0, vU 0, vU 0, vU 0, vU 0, vU 0, vU 0, vU 0, vU 0, vU 0, vU 0, vU 0, vU 0, vU 0, vU 0, vU 0, vU 0, vU 0, vU 0, vU 0, vU 0, vU 0, vU 0, vU 0, vU 0, vU 0, vU 0, vU 0, vU 0, vU 0, vU 0, vU 0, vU 0, vU 0, vU 0, vU 0, vU 0, vU 0, vU 0, vU 0, vU 0, vU 0, vU 0, vU 0, vU 0, vU 0, vU 0, vU 0, vU 0, vU 0, vU 0, vU 0, vU 0, vU 0, vU 0, vU 0, vU 0, vU 0, vU 0]
def Mq0o9 : Obj := oC 111 [.complex .f32 1 0, vI 0, vI 0, vU 0, vU 0, vI 0]
def Mq0o10 : Obj := oC 172 [vP 5 0, vI 1]
def Mq0o11 : Obj := oC 101 [kf 9, vZ, vI 1, vP 3 0, vS 6 0 1 1, kf 9]
def Mq0o12 : Obj := oC 191 [kf 16, .int .u32 0, vI 0, kf 9, vN, vN]
def Mq0o13 : Obj := oC 97 [kf 9, vI 2, vP 2 0, vP 4 0]
def Mq0o14 : Obj := oC 94 [.complex .f32 8 0, vI 0, vI 0, vU 0, vU 0, vI 0]
def Mq0o15 : Obj := oC 39 [vP 9 0, .complex .f64 0 0, kf 9, vI 2]
def Mq0h21 : List Obj := [Mq0o4, Mq0o8, Mq0o9, Mq0o10, Mq0o11, Mq0o12, oC 146 [vI 0, kf 9], Mq0o13, Mq0o8, Mq0o14, Mq0o15]
def Mq0v16 : List Value := [vP 10 0, vP 7 0, vB false, vX, vX, vX, vX, vX, vX, vX, vX, vX]
def Mq0l23 : List Value := Mq0v2 ++ (Mq0v5 ++ (Mq0v6 ++ (Mq0v16 ++ (Mq0v1 ++ (Mq0v1 ++ (Mq0v1 ++ (Mq0v1 ++ (Mq0v1 ++ (Mq0v1 ++ (Mq0v1 ++ (Mq0v1 ++ (Mq0v1 ++ (Mq0v1 ++ (Mq0v1 ++ (Mq0v1 ++ Mq0v1)))))))))))))))
def Mq0h24 : List Obj := [Mq0o4, Mq0o8, Mq0o9, Mq0o10, Mq0o11, Mq0o12, oC 146 [vI 0, kf 9], Mq0o13, Mq0o8, Mq0o14, Mq0o15]
def Mq0l25 : List Value := Mq0v2 ++ (Mq0v5 ++ (Mq0v6 ++ (Mq0v16 ++ (Mq0v1 ++ (Mq0v1 ++ (Mq0v1 ++ (Mq0v1 ++ (Mq0v1 ++ (Mq0v1 ++ (Mq0v1 ++ (Mq0v1 ++ (Mq0v1 ++ (Mq0v1 ++ (Mq0v1 ++ (Mq0v1 ++ Mq0v1)))))))))))))))
def Mq0h26 : List Obj := [Mq0o4, Mq0o8, Mq0o9, Mq0o10, Mq0o11, Mq0o12, oC 146 [vI 0, kf 9], Mq0o13, Mq0o8, Mq0o14, Mq0o15]
def Mq0v17 : List Value := [vP 7 0, vP 10 0, vS 11 0 0 3, vX, vX, vX, vX, vX, vX, vX, vX, vX]
def Mq0v18 : List Value := [vP 10 0, vP 7 0, vB false, vI 9, vI 10, vI 14, vS 11 0 3 3, kf 4, kf 6, vI 0, vS 11 0 0 3, vX]
def Mq0l29 : List Value := Mq0v2 ++ (Mq0v17 ++ (Mq0v6 ++ (Mq0v18 ++ (Mq0v1 ++ (Mq0v1 ++ (Mq0v1 ++ (Mq0v1 ++ (Mq0v1 ++ (Mq0v1 ++ (Mq0v1 ++ (Mq0v1 ++ (Mq0v1 ++ (Mq0v1 ++ (Mq0v1 ++ (Mq0v1 ++ Mq0v1)))))))))))))))
def Mq0o19 : Obj := oC 3 [vI 9, vI 10, vI 14]
def Mq0h31 : List Obj := [Mq0o4, Mq0o8, Mq0o9, Mq0o10, Mq0o11, Mq0o12, oC 146 [vI 0, kf 9], Mq0o13, Mq0o8, Mq0o14, Mq0o15, Mq0o19]
def Mq0v20 : List Value := [vP 7 0, vP 10 0, vS 11 0 0 3, vP 15 0, vX, vX, vX, vX, vX, vX, vX, vX]
def Mq0v21 : List Value := [vP 10 0, vP 7 0, vB false, vI 9, vI 10, vI 14, vS 11 0 3 3, kf 4, kf 6, vI 0, vS 11 0 0 3, vP 10 0]
def Mq0v22 : List Value := [vP 10 0, vP 10 2, vG [kf 9, vI 2], vP 0 0, kf 9, kf 18, kf 2, kf 19, vP 0 0, kf 9, kf 20, kf 21]
def Mq0v23 : List Value := [kf 22, vS 11 0 0 3, vP 15 0, vX, vX, vX, vX, vX, vX, vX, vX, vX]
def Mq0l36 : List Value := Mq0v2 ++ (Mq0v20 ++ (Mq0v6 ++ (Mq0v21 ++ (Mq0v22 ++ (Mq0v23 ++ (Mq0v1 ++ (Mq0v1 ++ (Mq0v1 ++ (Mq0v1 ++ (Mq0v1 ++ (Mq0v1 ++ (Mq0v1 ++ (Mq0v1 ++ (Mq0v1 ++ (Mq0v1 ++ Mq0v1)))))))))))))))
def Mq0o24 : Obj := oC 85 [kf 9, vI 2, vF 65 [] [vP 22 0, vP 23 0], kf 22, vS 14 0 0 0, vZ, vZ, vI 0, vI 2]
def Mq0o25 : Obj := oC 123 [kf 9, vI 2, vF 99 [] [vP 18 0, vP 19 0, vP 20 0, vP 21 0]]
def Mq0o26 : Obj := oC 125 [vF 67 [] [vP 17 0]]
def Mq0o27 : Obj := oC 121 [.iface 87 (vP 16 0)]
def Mq0o28 : Obj := oC 1 [vF 39 [] [vP 13 0, vP 12 0]]
def Mq0h42 : List Obj := [Mq0o4, Mq0o8, Mq0o9, Mq0o10, Mq0o11, Mq0o12, oC 146 [vI 0, kf 9], Mq0o13, Mq0o8, Mq0o14, Mq0o15, Mq0o19, oC 3 [kf 22], oC 32 [vP 15 0], oC 3 [], Mq0o24, Mq0o25, oC 87 [vP 16 0], oC 3 [vI 2], oC 40 [vU 0], oC 40 [vU 2], Mq0o26, Mq0o27, Mq0o28]
def Mq0v29 : List Value := [vP 7 0, vP 10 0, vS 11 0 0 3, vP 13 0, vX, vX, vX, vX, vX, vX, vX, vX]
def Mq0v30 : List Value := [kf 22, vS 11 0 0 3, vP 13 0, vP 13 0, vB false, vB false, vP 13 0, vP 7 0, vG [vI 3, vI 2, vU 0, vU 2], vI 3, vB false, vB false]
def Mq0l45 : List Value := Mq0v2 ++ (Mq0v29 ++ (Mq0v6 ++ (Mq0v21 ++ (Mq0v22 ++ (Mq0v30 ++ (Mq0v1 ++ (Mq0v1 ++ (Mq0v1 ++ (Mq0v1 ++ (Mq0v1 ++ (Mq0v1 ++ (Mq0v1 ++ (Mq0v1 ++ (Mq0v1 ++ (Mq0v1 ++ Mq0v1)))))))))))))))
def Mq0o31 : Obj := oC 40 [vU 1, vU 0, vU 2, vU 0, vU 0, vU 0, vU 0, vU 0, vU 0, vU 0, vU 0, vU 0, vU 0, vU 0, vU 0, vU 0, vU 0, vU 0, vU 0, vU 0, vU 0, vU 0, vU 0, vU 0, vU 0, vU 0, vU 0, vU 0, vU 0, vU 0, vU 0, vU 0, vU 0, vU 0, vU 0, vU 0, vU 0, vU 0, vU 0, vU 0, vU 0, vU 0, vU 0, vU 0, vU 0, vU 0, vU 0, vU 0, vU 0, vU 0, vU 0, vU 0, vU 0, vU 0, vU 0, vU 0, vU 0, vU 0, vU 0, vU 0, vU 0, vU 0, vU 0, vU 0, vU 0, vU 0, vU 0, vU 0, vU 0, vU 0, vU 0, vU 0, vU 0, vU 0, vU 0, vU 0, vU 0]
def Mq0o32 : Obj := oC 111 [.complex .f32 1 0, vI 3, vI 2, vU 0, vU 2, vI 1]
def Mq0o33 : Obj := oC 85 [kf 9, vI 2, vF 69 [] [vP 15 0, vP 16 0, vP 14 0], kf 22, vS 12 0 0 0, vZ, vZ, vI 0, vI 2]
def Mq0o34 : Obj := oC 90 [vF 41 [vP 13 0] []]
def Mq0o35 : Obj := oC 91 [vF 42 [vP 13 0] []]
def Mq0h51 : List Obj := [Mq0o4, Mq0o31, Mq0o32, Mq0o10, Mq0o11, Mq0o12, oC 146 [vI 0, kf 9], Mq0o13, Mq0o8, Mq0o14, Mq0o15, Mq0o19, oC 3 [], Mq0o33, oC 3 [kf 22], Mq0o34, Mq0o35]
def Mq0l52 : List Value := Mq0v2 ++ (Mq0v29 ++ (Mq0v6 ++ (Mq0v21 ++ (Mq0v22 ++ (Mq0v30 ++ (Mq0v1 ++ (Mq0v1 ++ (Mq0v1 ++ (Mq0v1 ++ (Mq0v1 ++ (Mq0v1 ++ (Mq0v1 ++ (Mq0v1 ++ (Mq0v1 ++ (Mq0v1 ++ Mq0v1)))))))))))))))
def Mq0h53 : List Obj := [Mq0o4, Mq0o31, Mq0o32, Mq0o10, Mq0o11, Mq0o12, oC 146 [vI 0, kf 9], Mq0o13, Mq0o8, Mq0o14, Mq0o15, Mq0o19, oC 3 [], Mq0o33, oC 3 [kf 22], Mq0o34, Mq0o35]
def Mq0v36 : List Value := [vP 7 0, vP 10 0, vS 11 0 0 3, vP 13 0, vP 22 0, vX, vX, vX, vX, vX, vX, vX]
def Mq0v37 : List Value := [vP 13 0, vP 7 0, vG [vI 6, vI (-1), kf 23, kf 24], vX, vX, vX, vX, vX, vX, vX, vX, vX]
def Mq0l56 : List Value := Mq0v2 ++ (Mq0v36 ++ (Mq0v6 ++ (Mq0v21 ++ (Mq0v22 ++ (Mq0v30 ++ (Mq0v37 ++ (Mq0v1 ++ (Mq0v1 ++ (Mq0v1 ++ (Mq0v1 ++ (Mq0v1 ++ (Mq0v1 ++ (Mq0v1 ++ (Mq0v1 ++ (Mq0v1 ++ Mq0v1)))))))))))))))
def Mq0o38 : Obj := oC 85 [kf 9, vI 2, vF 65 [] [vP 20 0, vP 21 0], kf 22, vS 12 0 0 0, vZ, vZ, vI 0, vI 2]
def Mq0o39 : Obj := oC 166 [kf 9, vI 2, vF 134 [] [vP 17 0, vP 18 0, vP 19 0]]
def Mq0o40 : Obj := oC 1 [vF 68 [vP 16 0] []]
def Mq0o41 : Obj := oC 121 [.iface 135 (vP 16 0)]
def Mq0o42 : Obj := oC 1 [vF 131 [] [vP 15 0, vP 14 0]]
def Mq0o43 : Obj := oC 42 [vI 6, vI (-1), kf 23, kf 24]
def Mq0h63 : List Obj := [Mq0o4, Mq0o31, Mq0o32, Mq0o10, Mq0o11, Mq0o12, oC 146 [vI 0, kf 9], Mq0o13, Mq0o8, Mq0o14, Mq0o15, Mq0o19, oC 3 [], Mq0o38, oC 32 [vP 13 0], oC 44 [vI 3], Mq0o39, oC 3 [vI 2], oC 40 [vU 0], Mq0o40, Mq0o41, Mq0o42, Mq0o43]
def Mq0v44 : List Value := [vP 13 0, vP 7 0, vG [vI 6, vI (-1), kf 23, kf 24], vP 22 0, vI 6, vB false, vB false, vP 22 1, vI (-1), vB false, vB false, vB false]
def Mq0v45 : List Value := [vP 22 3, kf 24, vP 0 0, kf 9, kf 24, vB false, vB false, vX, vX, vX, vX, vX]
def Mq0l66 : List Value := Mq0v2 ++ (Mq0v36 ++ (Mq0v6 ++ (Mq0v21 ++ (Mq0v22 ++ (Mq0v30 ++ (Mq0v44 ++ (Mq0v45 ++ (Mq0v1 ++ (Mq0v1 ++ (Mq0v1 ++ (Mq0v1 ++ (Mq0v1 ++ (Mq0v1 ++ (Mq0v1 ++ (Mq0v1 ++ Mq0v1)))))))))))))))
def Mq0h67 : List Obj := [Mq0o4, Mq0o31, Mq0o32, Mq0o10, Mq0o11, Mq0o12, oC 146 [vI 0, kf 9], Mq0o13, Mq0o8, Mq0o14, Mq0o15, Mq0o19, oC 3 [], Mq0o38, oC 32 [vP 13 0], oC 44 [vI 3], Mq0o39, oC 3 [vI 2], oC 40 [vU 0], Mq0o40, Mq0o41, Mq0o42, Mq0o43]
def Mq0l68 : List Value := Mq0v2 ++ (Mq0v36 ++ (Mq0v6 ++ (Mq0v21 ++ (Mq0v22 ++ (Mq0v30 ++ (Mq0v44 ++ (Mq0v45 ++ (Mq0v1 ++ (Mq0v1 ++ (Mq0v1 ++ (Mq0v1 ++ (Mq0v1 ++ (Mq0v1 ++ (Mq0v1 ++ (Mq0v1 ++ Mq0v1)))))))))))))))
def Mq0h69 : List Obj := [Mq0o4, Mq0o31, Mq0o32, Mq0o10, Mq0o11, Mq0o12, oC 146 [vI 0, kf 9], Mq0o13, Mq0o8, Mq0o14, Mq0o15, Mq0o19, oC 3 [], Mq0o38, oC 32 [vP 13 0], oC 44 [vI 3], Mq0o39, oC 3 [vI 2], oC 40 [vU 0], Mq0o40, Mq0o41, Mq0o42, Mq0o43]
def Mq0v46 : List Value := [vP 7 0, vP 10 0, vS 11 0 0 3, vP 13 0, vP 22 0, vI 0, vX, vX, vX, vX, vX, vX]
def Mq0l71 : List Value := Mq0v2 ++ (Mq0v46 ++ (Mq0v6 ++ (Mq0v21 ++ (Mq0v22 ++ (Mq0v30 ++ (Mq0v44 ++ (Mq0v45 ++ (Mq0v1 ++ (Mq0v1 ++ (Mq0v1 ++ (Mq0v1 ++ (Mq0v1 ++ (Mq0v1 ++ (Mq0v1 ++ (Mq0v1 ++ Mq0v1)))))))))))))))
def Mq0h72 : List Obj := [Mq0o4, Mq0o31, Mq0o32, Mq0o10, Mq0o11, Mq0o12, oC 146 [vI 0, kf 9], Mq0o13, Mq0o8, Mq0o14, Mq0o15, Mq0o19, oC 3 [], Mq0o38, oC 32 [vP 13 0], oC 44 [vI 3], Mq0o39, oC 3 [vI 2], oC 40 [vU 0], Mq0o40, Mq0o41, Mq0o42, Mq0o43]
def Mq0v47 : List Value := [vP 22 3, kf 24, vP 0 0, kf 9, kf 24, vB false, vB false, vS 11 0 0 3, vI 0, vB false, vX, vX]
def Mq0l74 : List Value := Mq0v2 ++ (Mq0v46 ++ (Mq0v6 ++ (Mq0v21 ++ (Mq0v22 ++ (Mq0v30 ++ (Mq0v44 ++ (Mq0v47 ++ (Mq0v1 ++ (Mq0v1 ++ (Mq0v1 ++ (Mq0v1 ++ (Mq0v1 ++ (Mq0v1 ++ (Mq0v1 ++ (Mq0v1 ++ Mq0v1)))))))))))))))
def Mq0h75 : List Obj := [Mq0o4, Mq0o31, Mq0o32, Mq0o10, Mq0o11, Mq0o12, oC 146 [vI 0, kf 9], Mq0o13, Mq0o8, Mq0o14, Mq0o15, Mq0o19, oC 3 [], Mq0o38, oC 32 [vP 13 0], oC 44 [vI 3], Mq0o39, oC 3 [vI 2], oC 40 [vU 0], Mq0o40, Mq0o41, Mq0o42, Mq0o43]
def Mq0l76 : List Value := Mq0v2 ++ (Mq0v46 ++ (Mq0v6 ++ (Mq0v21 ++ (Mq0v22 ++ (Mq0v30 ++ (Mq0v44 ++ (Mq0v47 ++ (Mq0v1 ++ (Mq0v1 ++ (Mq0v1 ++ (Mq0v1 ++ (Mq0v1 ++ (Mq0v1 ++ (Mq0v1 ++ (Mq0v1 ++ Mq0v1)))))))))))))))
def Mq0h77 : List Obj := [Mq0o4, Mq0o31, Mq0o32, Mq0o10, Mq0o11, Mq0o12, oC 146 [vI 0, kf 9], Mq0o13, Mq0o8, Mq0o14, Mq0o15, Mq0o19, oC 3 [], Mq0o38, oC 32 [vP 13 0], oC 44 [vI 3], Mq0o39, oC 3 [vI 2], oC 40 [vU 0], Mq0o40, Mq0o41, Mq0o42, Mq0o43]
def Mq0v48 : List Value := [vP 7 0, vP 10 0, vS 11 0 0 3, vP 13 0, vP 22 0, vI 0, vI 3, vI 0, vX, vX, vX, vX]
def Mq0v49 : List Value := [vX, vX, vX, vS 11 0 0 3, vI 0, vI 0, vX, vX, vX, vX, vX, vX]
def Mq0l80 : List Value := Mq0v2 ++ (Mq0v48 ++ (Mq0v6 ++ (Mq0v21 ++ (Mq0v22 ++ (Mq0v30 ++ (Mq0v44 ++ (Mq0v47 ++ (Mq0v49 ++ (Mq0v1 ++ (Mq0v1 ++ (Mq0v1 ++ (Mq0v1 ++ (Mq0v1 ++ (Mq0v1 ++ (Mq0v1 ++ Mq0v1)))))))))))))))
def Mq0h81 : List Obj := [Mq0o4, Mq0o31, Mq0o32, Mq0o10, Mq0o11, Mq0o12, oC 146 [vI 0, kf 9], Mq0o13, Mq0o8, Mq0o14, Mq0o15, Mq0o19, oC 3 [], Mq0o38, oC 32 [vP 13 0], oC 44 [vI 3], Mq0o39, oC 3 [vI 2], oC 40 [vU 0], Mq0o40, Mq0o41, Mq0o42, Mq0o43]
def Mq0v50 : List Value := [vX, vX, vX, vS 11 0 0 3, vI 0, vI 0, vS 11 0 0 3, vI 0, vB false, vB false, vX, vX]
def Mq0v51 : List Value := [vX, vB false, vX, vX, vX, vX, vX, vX, vX, vX, vX, vX]
def Mq0l84 : List Value := Mq0v2 ++ (Mq0v48 ++ (Mq0v6 ++ (Mq0v21 ++ (Mq0v22 ++ (Mq0v30 ++ (Mq0v44 ++ (Mq0v47 ++ (Mq0v50 ++ (Mq0v51 ++ (Mq0v1 ++ (Mq0v1 ++ (Mq0v1 ++ (Mq0v1 ++ (Mq0v1 ++ (Mq0v1 ++ Mq0v1)))))))))))))))
def Mq0h85 : List Obj := [Mq0o4, Mq0o31, Mq0o32, Mq0o10, Mq0o11, Mq0o12, oC 146 [vI 0, kf 9], Mq0o13, Mq0o8, Mq0o14, Mq0o15, Mq0o19, oC 3 [], Mq0o38, oC 32 [vP 13 0], oC 44 [vI 3], Mq0o39, oC 3 [vI 2], oC 40 [vU 0], Mq0o40, Mq0o41, Mq0o42, Mq0o43]
def Mq0l86 : List Value := Mq0v2 ++ (Mq0v48 ++ (Mq0v6 ++ (Mq0v21 ++ (Mq0v22 ++ (Mq0v30 ++ (Mq0v44 ++ (Mq0v47 ++ (Mq0v50 ++ (Mq0v51 ++ (Mq0v1 ++ (Mq0v1 ++ (Mq0v1 ++ (Mq0v1 ++ (Mq0v1 ++ (Mq0v1 ++ Mq0v1)))))))))))))))
def Mq0h87 : List Obj := [Mq0o4, Mq0o31, Mq0o32, Mq0o10, Mq0o11, Mq0o12, oC 146 [vI 0, kf 9], Mq0o13, Mq0o8, Mq0o14, Mq0o15, Mq0o19, oC 3 [], Mq0o38, oC 32 [vP 13 0], oC 44 [vI 3], Mq0o39, oC 3 [vI 2], oC 40 [vU 0], Mq0o40, Mq0o41, Mq0o42, Mq0o43]
def Mq0v52 : List Value := [vP 7 0, vP 10 0, vS 11 0 0 3, vP 13 0, vP 22 0, vI 0, vI 3, vI 0, vX, vX, vI 0, vX]
def Mq0l89 : List Value := Mq0v2 ++ (Mq0v52 ++ (Mq0v6 ++ (Mq0v21 ++ (Mq0v22 ++ (Mq0v30 ++ (Mq0v44 ++ (Mq0v47 ++ (Mq0v50 ++ (Mq0v51 ++ (Mq0v1 ++ (Mq0v1 ++ (Mq0v1 ++ (Mq0v1 ++ (Mq0v1 ++ (Mq0v1 ++ Mq0v1)))))))))))))))
def Mq0h90 : List Obj := [Mq0o4, Mq0o31, Mq0o32, Mq0o10, Mq0o11, Mq0o12, oC 146 [vI 0, kf 9], Mq0o13, Mq0o8, Mq0o14, Mq0o15, Mq0o19, oC 3 [], Mq0o38, oC 32 [vP 13 0], oC 44 [vI 3], Mq0o39, oC 3 [vI 2], oC 40 [vU 0], Mq0o40, Mq0o41, Mq0o42, Mq0o43]
def Mq0v53 : List Value := [vX, vX, vX, vX, vX, vI 0, vI 0, vB false, vX, vX, vX, vX]
def Mq0l92 : List Value := Mq0v2 ++ (Mq0v52 ++ (Mq0v6 ++ (Mq0v21 ++ (Mq0v22 ++ (Mq0v30 ++ (Mq0v44 ++ (Mq0v47 ++ (Mq0v50 ++ (Mq0v51 ++ (Mq0v53 ++ (Mq0v1 ++ (Mq0v1 ++ (Mq0v1 ++ (Mq0v1 ++ (Mq0v1 ++ Mq0v1)))))))))))))))
def Mq0h93 : List Obj := [Mq0o4, Mq0o31, Mq0o32, Mq0o10, Mq0o11, Mq0o12, oC 146 [vI 0, kf 9], Mq0o13, Mq0o8, Mq0o14, Mq0o15, Mq0o19, oC 3 [], Mq0o38, oC 32 [vP 13 0], oC 44 [vI 3], Mq0o39, oC 3 [vI 2], oC 40 [vU 0], Mq0o40, Mq0o41, Mq0o42, Mq0o43]
def Mq0v54 : List Value := [vP 7 0, vP 10 0, vS 11 0 0 3, vP 13 0, vP 14 0, vI 0, vI 3, vI 0, vX, vX, vI 0, vX]
def Mq0v55 : List Value := [vP 13 0, vP 7 0, vG [vI 6, vI (-1), kf 23, kf 24], vP 14 0, vI 6, vB false, vB false, vP 14 1, vI (-1), vB false, vB false, vB false]
def Mq0v56 : List Value := [vP 14 3, kf 24, vP 0 0, kf 9, kf 24, vB false, vB false, vS 11 0 0 3, vI 0, vB false, vX, vX]
def Mq0v57 : List Value := [vX, vX, vX, vP 13 0, vP 7 0, vG [vI 2, vI 2, vU 2, vU 0], vG [vI 2, vI 2, vU 2, vU 0], vB false, vB false, vP 13 0, vB true, vB false]
def Mq0v58 : List Value := [vB false, vX, vX, vX, vX, vX, vX, vX, vX, vX, vX, vX]
def Mq0l99 : List Value := Mq0v2 ++ (Mq0v54 ++ (Mq0v6 ++ (Mq0v21 ++ (Mq0v22 ++ (Mq0v30 ++ (Mq0v55 ++ (Mq0v56 ++ (Mq0v50 ++ (Mq0v51 ++ (Mq0v53 ++ (Mq0v1 ++ (Mq0v1 ++ (Mq0v1 ++ (Mq0v57 ++ (Mq0v58 ++ Mq0v1)))))))))))))))
def Mq0o59 : Obj := oC 111 [.complex .f32 1 0, vI 2, vI 2, vU 2, vU 0, vI 2]
def Mq0o60 : Obj := oC 85 [kf 9, vI 2, .nilFunc, kf 22, vS 12 0 0 0, vZ, vZ, vI 0, vI 3]
def Mq0h102 : List Obj := [Mq0o4, Mq0o8, Mq0o59, Mq0o10, Mq0o11, Mq0o12, oC 146 [vI 0, kf 9], Mq0o13, Mq0o8, Mq0o14, Mq0o15, Mq0o19, oC 3 [], Mq0o60, Mq0o43]
def Mq0l103 : List Value := Mq0v2 ++ (Mq0v54 ++ (Mq0v6 ++ (Mq0v21 ++ (Mq0v22 ++ (Mq0v30 ++ (Mq0v55 ++ (Mq0v56 ++ (Mq0v50 ++ (Mq0v51 ++ (Mq0v53 ++ (Mq0v1 ++ (Mq0v1 ++ (Mq0v1 ++ (Mq0v57 ++ (Mq0v58 ++ Mq0v1)))))))))))))))
def Mq0h104 : List Obj := [Mq0o4, Mq0o8, Mq0o59, Mq0o10, Mq0o11, Mq0o12, oC 146 [vI 0, kf 9], Mq0o13, Mq0o8, Mq0o14, Mq0o15, Mq0o19, oC 3 [], Mq0o60, Mq0o43]
def Mq0v61 : List Value := [vX, vI 0, vI 3, kf 1, kf 7, kf 8, kf 9, vG [kf 9, vI 2, vZ], vT [vP 7 0, vP 10 0], vG [kf 9, vI 2, vZ], vT [vP 7 0, vP 10 0], vP 7 0]
def Mq0v62 : List Value := [vB false, vT [vI 0, vI 3], vP 13 0, vT [vI 0, vI 3], vI 0, vI 3, vX, vX, vX, vX, vX, vX]
def Mq0l107 : List Value := Mq0v2 ++ (Mq0v54 ++ (Mq0v61 ++ (Mq0v21 ++ (Mq0v22 ++ (Mq0v30 ++ (Mq0v55 ++ (Mq0v56 ++ (Mq0v50 ++ (Mq0v51 ++ (Mq0v53 ++ (Mq0v1 ++ (Mq0v1 ++ (Mq0v1 ++ (Mq0v57 ++ (Mq0v62 ++ Mq0v1)))))))))))))))
def Mq0h108 : List Obj := [Mq0o4, Mq0o8, Mq0o59, Mq0o10, Mq0o11, Mq0o12, oC 146 [vI 0, kf 9], Mq0o13, Mq0o8, Mq0o14, Mq0o15, Mq0o19, oC 3 [], Mq0o60, Mq0o43]
def Mq0v63 : List Value := [kf 1, kf 2, kf 3, kf 5, kf 4, vX, vX, vX, vX, vX, vB true, vP 0 0]
def Mq0v64 : List Value := [vB false, vT [vI 0, vI 3], vP 13 0, vT [vI 0, vI 3], vI 0, vI 3, vI 0, vB true, vB true, vI 3, vI 3, vB true]
def Mq0v65 : List Value := [vB true, vB true, vP 7 0, vP 4 0, kf 9, vP 0 0, kf 9, vB true, vB true, vB true, vB true, vB true]
def Mq0l112 : List Value := Mq0v63 ++ (Mq0v54 ++ (Mq0v61 ++ (Mq0v21 ++ (Mq0v22 ++ (Mq0v30 ++ (Mq0v55 ++ (Mq0v56 ++ (Mq0v50 ++ (Mq0v51 ++ (Mq0v53 ++ (Mq0v1 ++ (Mq0v1 ++ (Mq0v1 ++ (Mq0v57 ++ (Mq0v64 ++ Mq0v65)))))))))))))))
def Mq0h113 : List Obj := [Mq0o4, Mq0o8, Mq0o59, Mq0o10, Mq0o11, Mq0o12, oC 146 [vI 0, kf 9], Mq0o13, Mq0o8, Mq0o14, Mq0o15, Mq0o19, oC 3 [], Mq0o60, Mq0o43]
def Mq0l114 : List Value := Mq0v63 ++ (Mq0v54 ++ (Mq0v61 ++ (Mq0v21 ++ (Mq0v22 ++ (Mq0v30 ++ (Mq0v55 ++ (Mq0v56 ++ (Mq0v50 ++ (Mq0v51 ++ (Mq0v53 ++ (Mq0v1 ++ (Mq0v1 ++ (Mq0v1 ++ (Mq0v57 ++ (Mq0v64 ++ Mq0v65)))))))))))))))
def Mq0h115 : List Obj := [Mq0o4, Mq0o8, Mq0o59, Mq0o10, Mq0o11, Mq0o12, oC 146 [vI 0, kf 9], Mq0o13, Mq0o8, Mq0o14, Mq0o15, Mq0o19, oC 3 [], Mq0o60, Mq0o43]
theorem Mq0p0 {σ : Nat → Value} (hσ : ∀ j, OneC (σ j)) {W0 : World} {H : Nat} (hO : OrcOK Tryz.prog σ W0 H (orcG Mq0e MqF noMk)) : Seg1 Tryz.prog σ W0 H 0 ([] : List Value).toArray (.code (seqL ((bodyOf Tryz.prog 3)))) { tmps := #[kf 1, kf 2, kf 3, kf 5, kf 4] ++ Array.replicate (204 - 5) undef, defers := [] } (baseWorld 0 []) .normal ([] : List Value).toArray (mkA Mq0l2) (mkW Mq0h3) :=
  seg1_ev (O := orcG Mq0e MqF noMk) (n := 20000) (m := []) hσ hO (by decide +kernel)
theorem Mq0p1 {σ : Nat → Value} (hσ : ∀ j, OneC (σ j)) {W0 : World} {H : Nat} (hO : OrcOK Tryz.prog σ W0 H (orcG Mq0e MqF noMk)) : Seg1 Tryz.prog σ W0 H 0 ([] : List Value).toArray (.code (seqL (seqR ((bodyOf Tryz.prog 3))))) (mkA Mq0l2) (mkW Mq0h3) .normal ([] : List Value).toArray (mkA Mq0l6) (mkW Mq0h8) :=
  seg1_ev (O := orcG Mq0e MqF noMk) (n := 20000) (m := [0]) hσ hO (by decide +kernel)
theorem Mq0p2 {σ : Nat → Value} (hσ : ∀ j, OneC (σ j)) {W0 : World} {H : Nat} (hO : OrcOK Tryz.prog σ W0 H (orcG Mq0e MqF noMk)) : Seg1 Tryz.prog σ W0 H 0 ([] : List Value).toArray (.code (seqL (seqR (seqR ((bodyOf Tryz.prog 3)))))) (mkA Mq0l6) (mkW Mq0h8) .normal ([] : List Value).toArray (mkA Mq0l12) (mkW Mq0h21) :=
  seg1_ev (O := orcG Mq0e MqF noMk) (n := 20000) (m := [0, 13, 14, 15, 16, 20, 22, 23, 30, 31, 32]) hσ hO (by decide +kernel)
theorem Mq0p3 {σ : Nat → Value} (hσ : ∀ j, OneC (σ j)) {W0 : World} {H : Nat} (hO : OrcOK Tryz.prog σ W0 H (orcG Mq0e MqF noMk)) : Seg1 Tryz.prog σ W0 H 0 ([] : List Value).toArray (.code (seqL (seqL (seqR (seqR (seqR ((bodyOf Tryz.prog 3)))))))) (mkA Mq0l12) (mkW Mq0h21) .normal ([] : List Value).toArray (mkA Mq0l23) (mkW Mq0h24) :=
  seg1_ev (O := orcG Mq0e MqF noMk) (n := 20000) (m := [0, 1, 2, 3, 4, 5, 6, 7, 8, 9, 10]) hσ hO (by decide +kernel)
theorem Mq0p4 {σ : Nat → Value} (hσ : ∀ j, OneC (σ j)) {W0 : World} {H : Nat} (hO : OrcOK Tryz.prog σ W0 H (orcG Mq0e MqF noMk)) : Seg1 Tryz.prog σ W0 H 0 ([] : List Value).toArray (.code (seqR (seqL (seqR (seqR (seqR ((bodyOf Tryz.prog 3)))))))) (mkA Mq0l23) (mkW Mq0h24) .normal ([] : List Value).toArray (mkA Mq0l25) (mkW Mq0h26) :=
  seg1_ev (O := orcG Mq0e MqF noMk) (n := 20000) (m := [0, 1, 2, 3, 4, 5, 6, 7, 8, 9, 10]) hσ hO (by decide +kernel)
theorem Mq0p5 {σ : Nat → Value} (hσ : ∀ j, OneC (σ j)) {W0 : World} {H : Nat} (hO : OrcOK Tryz.prog σ W0 H (orcG Mq0e MqF noMk)) : Seg1 Tryz.prog σ W0 H 0 ([] : List Value).toArray (.code (seqL (seqR (seqR (seqR (seqR ((bodyOf Tryz.prog 3)))))))) (mkA Mq0l25) (mkW Mq0h26) .normal ([] : List Value).toArray (mkA Mq0l29) (mkW Mq0h31) :=
  seg1_ev (O := orcG Mq0e MqF noMk) (n := 20000) (m := [0, 1, 2, 3, 4, 5, 6, 7, 8, 9, 10, 11]) hσ hO (by decide +kernel)
theorem Mq0p6 {σ : Nat → Value} (hσ : ∀ j, OneC (σ j)) {W0 : World} {H : Nat} (hO : OrcOK Tryz.prog σ W0 H (orcG Mq0e MqF noMk)) : Seg1 Tryz.prog σ W0 H 0 ([] : List Value).toArray (.code (seqL (seqR (seqR (seqR (seqR (seqR ((bodyOf Tryz.prog 3))))))))) (mkA Mq0l29) (mkW Mq0h31) .normal ([] : List Value).toArray (mkA Mq0l36) (mkW Mq0h42) :=
  seg1_ev (O := orcG Mq0e MqF noMk) (n := 20000) (m := [0, 1, 2, 3, 4, 5, 6, 7, 8, 9, 10, 11, 13, 16, 17, 18, 22, 23, 24, 25, 26, 27, 28, 29]) hσ hO (by decide +kernel)
theorem Mq0p7 {σ : Nat → Value} (hσ : ∀ j, OneC (σ j)) {W0 : World} {H : Nat} (hO : OrcOK Tryz.prog σ W0 H (orcG Mq0e MqF noMk)) : Seg1 Tryz.prog σ W0 H 0 ([] : List Value).toArray (.code (seqL (seqL (seqR (seqR (seqR (seqR (seqR (seqR ((bodyOf Tryz.prog 3))))))))))) (mkA Mq0l36) (mkW Mq0h42) .normal ([] : List Value).toArray (mkA Mq0l45) (mkW Mq0h51) :=
  seg1_ev (O := orcG Mq0e MqF noMk) (n := 20000) (m := [0, 1, 2, 3, 4, 5, 6, 7, 8, 9, 10, 11, 14, 15, 34, 35, 36]) hσ hO (by decide +kernel)
theorem Mq0p8 {σ : Nat → Value} (hσ : ∀ j, OneC (σ j)) {W0 : World} {H : Nat} (hO : OrcOK Tryz.prog σ W0 H (orcG Mq0e MqF noMk)) : Seg1 Tryz.prog σ W0 H 0 ([] : List Value).toArray (.code (seqR (seqL (seqR (seqR (seqR (seqR (seqR (seqR ((bodyOf Tryz.prog 3))))))))))) (mkA Mq0l45) (mkW Mq0h51) .normal ([] : List Value).toArray (mkA Mq0l52) (mkW Mq0h53) :=
  seg1_ev (O := orcG Mq0e MqF noMk) (n := 20000) (m := [0, 1, 2, 3, 4, 5, 6, 7, 8, 9, 10, 11, 12, 13, 14, 15, 16]) hσ hO (by decide +kernel)
theorem Mq0p9 {σ : Nat → Value} (hσ : ∀ j, OneC (σ j)) {W0 : World} {H : Nat} (hO : OrcOK Tryz.prog σ W0 H (orcG Mq0e MqF noMk)) : Seg1 Tryz.prog σ W0 H 0 ([] : List Value).toArray (.code (seqL (seqR (seqR (seqR (seqR (seqR (seqR (seqR ((bodyOf Tryz.prog 3))))))))))) (mkA Mq0l52) (mkW Mq0h53) .normal ([] : List Value).toArray (mkA Mq0l56) (mkW Mq0h63) :=
  seg1_ev (O := orcG Mq0e MqF noMk) (n := 20000) (m := [0, 1, 2, 3, 4, 5, 6, 7, 8, 9, 10, 11, 12, 13, 27, 28, 31, 32, 33, 34, 35, 36, 37]) hσ hO (by decide +kernel)
theorem Mq0p10 {σ : Nat → Value} (hσ : ∀ j, OneC (σ j)) {W0 : World} {H : Nat} (hO : OrcOK Tryz.prog σ W0 H (orcG Mq0e MqF noMk)) : Seg1 Tryz.prog σ W0 H 0 ([] : List Value).toArray (.code (seqL (seqL (seqR (seqR (seqR (seqR (seqR (seqR (seqR (seqR ((bodyOf Tryz.prog 3))))))))))))) (mkA Mq0l56) (mkW Mq0h63) .normal ([] : List Value).toArray (mkA Mq0l66) (mkW Mq0h67) :=
  seg1_ev (O := orcG Mq0e MqF noMk) (n := 20000) (m := [0, 1, 2, 3, 4, 5, 6, 7, 8, 9, 10, 11, 12, 13, 14, 15, 16, 17, 18, 19, 20, 21, 22]) hσ hO (by decide +kernel)
theorem Mq0p11 {σ : Nat → Value} (hσ : ∀ j, OneC (σ j)) {W0 : World} {H : Nat} (hO : OrcOK Tryz.prog σ W0 H (orcG Mq0e MqF noMk)) : Seg1 Tryz.prog σ W0 H 0 ([] : List Value).toArray (.code (seqR (seqL (seqR (seqR (seqR (seqR (seqR (seqR (seqR (seqR ((bodyOf Tryz.prog 3))))))))))))) (mkA Mq0l66) (mkW Mq0h67) .normal ([] : List Value).toArray (mkA Mq0l68) (mkW Mq0h69) :=
  seg1_ev (O := orcG Mq0e MqF noMk) (n := 20000) (m := [0, 1, 2, 3, 4, 5, 6, 7, 8, 9, 10, 11, 12, 13, 14, 15, 16, 17, 18, 19, 20, 21, 22]) hσ hO (by decide +kernel)
theorem Mq0p12 {σ : Nat → Value} (hσ : ∀ j, OneC (σ j)) {W0 : World} {H : Nat} (hO : OrcOK Tryz.prog σ W0 H (orcG Mq0e MqF noMk)) : Seg1 Tryz.prog σ W0 H 0 ([] : List Value).toArray (.code (seqL (seqR (seqR (seqR (seqR (seqR (seqR (seqR (seqR (seqR ((bodyOf Tryz.prog 3))))))))))))) (mkA Mq0l68) (mkW Mq0h69) .normal ([] : List Value).toArray (mkA Mq0l71) (mkW Mq0h72) :=
  seg1_ev (O := orcG Mq0e MqF noMk) (n := 20000) (m := [0, 1, 2, 3, 4, 5, 6, 7, 8, 9, 10, 11, 12, 13, 14, 15, 16, 17, 18, 19, 20, 21, 22]) hσ hO (by decide +kernel)
theorem Mq0p13 {σ : Nat → Value} (hσ : ∀ j, OneC (σ j)) {W0 : World} {H : Nat} (hO : OrcOK Tryz.prog σ W0 H (orcG Mq0e MqF noMk)) : Seg1 Tryz.prog σ W0 H 0 ([] : List Value).toArray (.code (seqL (seqL (seqR (seqR (seqR (seqR (seqR (seqR (seqR (seqR (seqR (seqR ((bodyOf Tryz.prog 3))))))))))))))) (mkA Mq0l71) (mkW Mq0h72) .normal ([] : List Value).toArray (mkA Mq0l74) (mkW Mq0h75) :=
  seg1_ev (O := orcG Mq0e MqF noMk) (n := 20000) (m := [0, 1, 2, 3, 4, 5, 6, 7, 8, 9, 10, 11, 12, 13, 14, 15, 16, 17, 18, 19, 20, 21, 22]) hσ hO (by decide +kernel)
theorem Mq0p14 {σ : Nat → Value} (hσ : ∀ j, OneC (σ j)) {W0 : World} {H : Nat} (hO : OrcOK Tryz.prog σ W0 H (orcG Mq0e MqF noMk)) : Seg1 Tryz.prog σ W0 H 0 ([] : List Value).toArray (.code (seqR (seqL (seqR (seqR (seqR (seqR (seqR (seqR (seqR (seqR (seqR (seqR ((bodyOf Tryz.prog 3))))))))))))))) (mkA Mq0l74) (mkW Mq0h75) .normal ([] : List Value).toArray (mkA Mq0l76) (mkW Mq0h77) :=
  seg1_ev (O := orcG Mq0e MqF noMk) (n := 20000) (m := [0, 1, 2, 3, 4, 5, 6, 7, 8, 9, 10, 11, 12, 13, 14, 15, 16, 17, 18, 19, 20, 21, 22]) hσ hO (by decide +kernel)
theorem Mq0p15 {σ : Nat → Value} (hσ : ∀ j, OneC (σ j)) {W0 : World} {H : Nat} (hO : OrcOK Tryz.prog σ W0 H (orcG Mq0e MqF noMk)) : Seg1 Tryz.prog σ W0 H 0 ([] : List Value).toArray (.code (seqL (seqR (seqR (seqR (seqR (seqR (seqR (seqR (seqR (seqR (seqR (seqR ((bodyOf Tryz.prog 3))))))))))))))) (mkA Mq0l76) (mkW Mq0h77) .normal ([] : List Value).toArray (mkA Mq0l80) (mkW Mq0h81) :=
  seg1_ev (O := orcG Mq0e MqF noMk) (n := 20000) (m := [0, 1, 2, 3, 4, 5, 6, 7, 8, 9, 10, 11, 12, 13, 14, 15, 16, 17, 18, 19, 20, 21, 22]) hσ hO (by decide +kernel)
theorem Mq0p16 {σ : Nat → Value} (hσ : ∀ j, OneC (σ j)) {W0 : World} {H : Nat} (hO : OrcOK Tryz.prog σ W0 H (orcG Mq0e MqF noMk)) : Seg1 Tryz.prog σ W0 H 0 ([] : List Value).toArray (.code (seqL (seqL (seqR (seqR (seqR (seqR (seqR (seqR (seqR (seqR (seqR (seqR (seqR (seqR ((bodyOf Tryz.prog 3))))))))))))))))) (mkA Mq0l80) (mkW Mq0h81) .normal ([] : List Value).toArray (mkA Mq0l84) (mkW Mq0h85) :=
  seg1_ev (O := orcG Mq0e MqF noMk) (n := 20000) (m := [0, 1, 2, 3, 4, 5, 6, 7, 8, 9, 10, 11, 12, 13, 14, 15, 16, 17, 18, 19, 20, 21, 22]) hσ hO (by decide +kernel)
theorem Mq0p17 {σ : Nat → Value} (hσ : ∀ j, OneC (σ j)) {W0 : World} {H : Nat} (hO : OrcOK Tryz.prog σ W0 H (orcG Mq0e MqF noMk)) : Seg1 Tryz.prog σ W0 H 0 ([] : List Value).toArray (.code (seqR (seqL (seqR (seqR (seqR (seqR (seqR (seqR (seqR (seqR (seqR (seqR (seqR (seqR ((bodyOf Tryz.prog 3))))))))))))))))) (mkA Mq0l84) (mkW Mq0h85) .normal ([] : List Value).toArray (mkA Mq0l86) (mkW Mq0h87) :=
  seg1_ev (O := orcG Mq0e MqF noMk) (n := 20000) (m := [0, 1, 2, 3, 4, 5, 6, 7, 8, 9, 10, 11, 12, 13, 14, 15, 16, 17, 18, 19, 20, 21, 22]) hσ hO (by decide +kernel)
theorem Mq0p18 {σ : Nat → Value} (hσ : ∀ j, OneC (σ j)) {W0 : World} {H : Nat} (hO : OrcOK Tryz.prog σ W0 H (orcG Mq0e MqF noMk)) : Seg1 Tryz.prog σ W0 H 0 ([] : List Value).toArray (.code (seqL (seqL (seqR (seqR (seqR (seqR (seqR (seqR (seqR (seqR (seqR (seqR (seqR (seqR (seqR ((bodyOf Tryz.prog 3)))))))))))))))))) (mkA Mq0l86) (mkW Mq0h87) .normal ([] : List Value).toArray (mkA Mq0l89) (mkW Mq0h90) :=
  seg1_ev (O := orcG Mq0e MqF noMk) (n := 20000) (m := [0, 1, 2, 3, 4, 5, 6, 7, 8, 9, 10, 11, 12, 13, 14, 15, 16, 17, 18, 19, 20, 21, 22]) hσ hO (by decide +kernel)
theorem Mq0p19 {σ : Nat → Value} (hσ : ∀ j, OneC (σ j)) {W0 : World} {H : Nat} (hO : OrcOK Tryz.prog σ W0 H (orcG Mq0e MqF noMk)) : Seg1 Tryz.prog σ W0 H 0 ([] : List Value).toArray (.code (inL (inB (seqR (seqL (seqR (seqR (seqR (seqR (seqR (seqR (seqR (seqR (seqR (seqR (seqR (seqR (seqR ((bodyOf Tryz.prog 3)))))))))))))))))))) (mkA Mq0l89) (mkW Mq0h90) (.exit 0) ([] : List Value).toArray (mkA Mq0l92) (mkW Mq0h93) :=
  seg1_ev (O := orcG Mq0e MqF noMk) (n := 20000) (m := [0, 1, 2, 3, 4, 5, 6, 7, 8, 9, 10, 11, 12, 13, 14, 15, 16, 17, 18, 19, 20, 21, 22]) hσ hO (by decide +kernel)
theorem Mq0p20 {σ : Nat → Value} (hσ : ∀ j, OneC (σ j)) {W0 : World} {H : Nat} (hO : OrcOK Tryz.prog σ W0 H (orcG Mq0e MqF noMk)) : Seg1 Tryz.prog σ W0 H 0 ([] : List Value).toArray (.code (seqL (seqL (seqR (seqR (seqR (seqR (seqR (seqR (seqR (seqR (seqR (seqR (seqR (seqR (seqR (seqR ((bodyOf Tryz.prog 3))))))))))))))))))) (mkA Mq0l92) (mkW Mq0h93) .normal ([] : List Value).toArray (mkA Mq0l99) (mkW Mq0h102) :=
  seg1_ev (O := orcG Mq0e MqF noMk) (n := 20000) (m := [0, 1, 2, 3, 4, 5, 6, 7, 8, 9, 10, 11, 12, 13, 22]) hσ hO (by decide +kernel)
theorem Mq0p21 {σ : Nat → Value} (hσ : ∀ j, OneC (σ j)) {W0 : World} {H : Nat} (hO : OrcOK Tryz.prog σ W0 H (orcG Mq0e MqF noMk)) : Seg1 Tryz.prog σ W0 H 0 ([] : List Value).toArray (.code (seqR (seqL (seqR (seqR (seqR (seqR (seqR (seqR (seqR (seqR (seqR (seqR (seqR (seqR (seqR (seqR ((bodyOf Tryz.prog 3))))))))))))))))))) (mkA Mq0l99) (mkW Mq0h102) .normal ([] : List Value).toArray (mkA Mq0l103) (mkW Mq0h104) :=
  seg1_ev (O := orcG Mq0e MqF noMk) (n := 20000) (m := [0, 1, 2, 3, 4, 5, 6, 7, 8, 9, 10, 11, 12, 13, 14]) hσ hO (by decide +kernel)
theorem Mq0p22 {σ : Nat → Value} (hσ : ∀ j, OneC (σ j)) {W0 : World} {H : Nat} (hO : OrcOK Tryz.prog σ W0 H (orcG Mq0e MqF noMk)) : Seg1 Tryz.prog σ W0 H 0 ([] : List Value).toArray (.code (seqL (seqR (seqR (seqR (seqR (seqR (seqR (seqR (seqR (seqR (seqR (seqR (seqR (seqR (seqR (seqR ((bodyOf Tryz.prog 3))))))))))))))))))) (mkA Mq0l103) (mkW Mq0h104) .normal ([] : List Value).toArray (mkA Mq0l107) (mkW Mq0h108) :=
  seg1_ev (O := orcG Mq0e MqF noMk) (n := 20000) (m := [0, 1, 2, 3, 4, 5, 6, 7, 8, 9, 10, 11, 12, 13, 14]) hσ hO (by decide +kernel)
theorem Mq0p23 {σ : Nat → Value} (hσ : ∀ j, OneC (σ j)) {W0 : World} {H : Nat} (hO : OrcOK Tryz.prog σ W0 H (orcG Mq0e MqF noMk)) : Seg1 Tryz.prog σ W0 H 0 ([] : List Value).toArray (.code (seqL (seqR (seqR (seqR (seqR (seqR (seqR (seqR (seqR (seqR (seqR (seqR (seqR (seqR (seqR (seqR (seqR ((bodyOf Tryz.prog 3)))))))))))))))))))) (mkA Mq0l107) (mkW Mq0h108) .normal ([] : List Value).toArray (mkA Mq0l112) (mkW Mq0h113) :=
  seg1_ev (O := orcG Mq0e MqF noMk) (n := 20000) (m := [0, 1, 2, 3, 4, 5, 6, 7, 8, 9, 10, 11, 12, 13, 14]) hσ hO (by decide +kernel)
theorem Mq0p24 {σ : Nat → Value} (hσ : ∀ j, OneC (σ j)) {W0 : World} {H : Nat} (hO : OrcOK Tryz.prog σ W0 H (orcG Mq0e MqF noMk)) : Seg1 Tryz.prog σ W0 H 0 ([] : List Value).toArray (.code (seqR (seqR (seqR (seqR (seqR (seqR (seqR (seqR (seqR (seqR (seqR (seqR (seqR (seqR (seqR (seqR (seqR ((bodyOf Tryz.prog 3)))))))))))))))))))) (mkA Mq0l112) (mkW Mq0h113) .ret ([] : List Value).toArray (mkA Mq0l114) (mkW Mq0h115) :=
  seg1_ev (O := orcG Mq0e MqF noMk) (n := 20000) (m := [0, 1, 2, 3, 4, 5, 6, 7, 8, 9, 10, 11, 12, 13, 14]) hσ hO (by decide +kernel)
set_option maxHeartbeats 1000000 in
theorem Mq0_any (pg n wh hw mn r q : Int) (w : World) (hpg : 0 ≤ pg ∧ pg < 256) (hn : 0 ≤ n ∧ n < 65536) (hwh : 0 ≤ wh ∧ wh < 256) (hmn : 0 ≤ mn ∧ mn < 256) (hhw : 0 ≤ hw ∧ hw < 256) (hr : Int.tmod pg 30 = r) (hr2 : 0 ≤ r ∧ r < 30) (hq : Int.tmod n (4096 - (1 + r)) = q) (hq2 : 0 ≤ q ∧ q < 4096 - (1 + r)) (hm : Int.tmod mn 4 = 0) : Calls Tryz.prog 3 #[.int .u8 pg, .int .u16 n, .int .u8 wh, .int .u8 hw, .int .u8 mn] w fun e w' => e = .returned (.bool true) ∧ Ext w w' := by
  have hE : AllOK Tryz.prog (sgV [.int .i64 (96 + 6 * (1 + r) + 2), .int .u8 pg, .int .u16 n, .int .u8 wh, .int .u8 mn, .int .u8 hw, .int .i64 mn, .int .i64 pg, .int .i64 r, .int .i64 (1 + r), .int .i64 (5 * (1 + r)), .int .i64 (96 + (5 * (1 + r))), .int .i64 ((96 + (5 * (1 + r))) + (1 + r)), .int .i64 ((1 + r) + 64), .int .i64 (((1 + r) + 64) - 1), .int .i64 (((96 + (5 * (1 + r))) + (1 + r)) + 1), .int .i64 (8192 * (1 + r)), .int .i64 (6 * (1 + r)), .int .i64 ((1 + r) + 1), .int .i64 n, .int .i64 (4096 - (1 + r)), .int .i64 q, .int .i64 (((1 + r) + 1) + q), .int .u64 (((1 + r) + 1) + q), .int .u64 (1 + r)]) Mq0e := AllOK.cons (ent_conv Tryz.underlying5 Tryz.underlying3 rfl (by exact congrArg (Value.int .i64) (i64_in mn (by omega)).symm) rfl) (
    AllOK.cons (ent_rem (a := mn) (c := 4) rfl rfl (by omega) (by exact congrArg (Value.int .i64) hm.symm) rfl) (
    AllOK.cons (ent_conv Tryz.underlying5 Tryz.underlying3 rfl (by exact congrArg (Value.int .i64) (i64_in pg (by omega)).symm) rfl) (
    AllOK.cons (ent_rem (a := pg) (c := 30) rfl rfl (by omega) (by exact congrArg (Value.int .i64) hr.symm) rfl) (
    AllOK.cons (ent_add (a := 1) (c := r) rfl rfl (by exact congrArg (Value.int .i64) (i64_in _ (by omega)).symm) rfl) (
    AllOK.cons (ent_cmp (op := .geq) (a := 1 + r) (c := 1) rfl rfl (decide_eq_true (by omega)).symm) (
    AllOK.cons (ent_cmp (op := .leq) (a := 1 + r) (c := 4096) rfl rfl (decide_eq_true (by omega)).symm) (
    AllOK.cons (ent_mul (a := 5) (c := 1 + r) rfl rfl (by exact congrArg (Value.int .i64) ((i64_in (5 * (1 + r)) (by omega)).trans (show (5 * (1 + r) : Int) = 5 * (1 + r) by omega)).symm) rfl) (
    AllOK.cons (ent_add (a := 96) (c := 5 * (1 + r)) rfl rfl (by exact congrArg (Value.int .i64) ((i64_in (96 + (5 * (1 + r))) (by omega)).trans (show (96 + (5 * (1 + r)) : Int) = 96 + (5 * (1 + r)) by omega)).symm) rfl) (
    AllOK.cons (ent_add (a := 96 + (5 * (1 + r))) (c := 1 + r) rfl rfl (by exact congrArg (Value.int .i64) ((i64_in ((96 + (5 * (1 + r))) + (1 + r)) (by omega)).trans (show ((96 + (5 * (1 + r))) + (1 + r) : Int) = (96 + (5 * (1 + r))) + (1 + r) by omega)).symm) rfl) (
    AllOK.cons (ent_add (a := 1 + r) (c := 64) rfl rfl (by exact congrArg (Value.int .i64) ((i64_in ((1 + r) + 64) (by omega)).trans (show ((1 + r) + 64 : Int) = (1 + r) + 64 by omega)).symm) rfl) (
    AllOK.cons (ent_sub (a := (1 + r) + 64) (c := 1) rfl rfl (by exact congrArg (Value.int .i64) ((i64_in (((1 + r) + 64) - 1) (by omega)).trans (show (((1 + r) + 64) - 1 : Int) = ((1 + r) + 64) - 1 by omega)).symm) rfl) (
    AllOK.cons (ent_quo (a := ((1 + r) + 64) - 1) (c := 64) rfl rfl (by omega) (by exact congrArg (Value.int .i64) (quoC (a := ((1 + r) + 64) - 1) (c := 64) (q := 1) (by omega) (by omega) (by omega) (by omega) (by omega)).symm) rfl) (
    AllOK.cons (ent_add (a := (96 + (5 * (1 + r))) + (1 + r)) (c := 1) rfl rfl (by exact congrArg (Value.int .i64) ((i64_in (((96 + (5 * (1 + r))) + (1 + r)) + 1) (by omega)).trans (show (((96 + (5 * (1 + r))) + (1 + r)) + 1 : Int) = ((96 + (5 * (1 + r))) + (1 + r)) + 1 by omega)).symm) rfl) (
    AllOK.cons (ent_add (a := ((96 + (5 * (1 + r))) + (1 + r)) + 1) (c := 1) rfl rfl (by exact congrArg (Value.int .i64) ((i64_in ((((96 + (5 * (1 + r))) + (1 + r)) + 1) + 1) (by omega)).trans (show ((((96 + (5 * (1 + r))) + (1 + r)) + 1) + 1 : Int) = 96 + 6 * (1 + r) + 2 by omega)).symm) rfl) (
    AllOK.cons (ent_cmp (op := .lss) (a := 96 + 6 * (1 + r) + 2) (c := 1) rfl rfl (decide_eq_false (by omega)).symm) (
    AllOK.cons (ent_cmp (op := .gtr) (a := 96 + 6 * (1 + r) + 2) (c := 65536) rfl rfl (decide_eq_false (by omega)).symm) (
    AllOK.cons (ent_cmp (op := .geq) (a := 0) (c := 96 + 6 * (1 + r) + 2) rfl rfl (decide_eq_false (by omega)).symm) (
    AllOK.cons (ent_cmp (op := .lss) (a := 1 + r) (c := 1) rfl rfl (decide_eq_false (by omega)).symm) (
    AllOK.cons (ent_cmp (op := .gtr) (a := 1 + r) (c := 4096) rfl rfl (decide_eq_false (by omega)).symm) (
    AllOK.cons (ent_mul (a := 8192) (c := 1 + r) rfl rfl (by exact congrArg (Value.int .i64) ((i64_in (8192 * (1 + r)) (by omega)).trans (show (8192 * (1 + r) : Int) = 8192 * (1 + r) by omega)).symm) rfl) (
    AllOK.cons (ent_add (a := 8192 * (1 + r)) (c := 0) rfl rfl (by exact congrArg (Value.int .i64) ((i64_in ((8192 * (1 + r)) + 0) (by omega)).trans (show ((8192 * (1 + r)) + 0 : Int) = 8192 * (1 + r) by omega)).symm) rfl) (
    AllOK.cons (ent_add (a := 0) (c := 1 + r) rfl rfl (by exact congrArg (Value.int .i64) ((i64_in (0 + (1 + r)) (by omega)).trans (show (0 + (1 + r) : Int) = 1 + r by omega)).symm) rfl) (
    AllOK.cons (ent_mul (a := 6) (c := 1 + r) rfl rfl (by exact congrArg (Value.int .i64) ((i64_in (6 * (1 + r)) (by omega)).trans (show (6 * (1 + r) : Int) = 6 * (1 + r) by omega)).symm) rfl) (
    AllOK.cons (ent_add (a := 96) (c := 6 * (1 + r)) rfl rfl (by exact congrArg (Value.int .i64) ((i64_in (96 + (6 * (1 + r))) (by omega)).trans (show (96 + (6 * (1 + r)) : Int) = (96 + (5 * (1 + r))) + (1 + r) by omega)).symm) rfl) (
    AllOK.cons (ent_add (a := 1 + r) (c := 63) rfl rfl (by exact congrArg (Value.int .i64) ((i64_in ((1 + r) + 63) (by omega)).trans (show ((1 + r) + 63 : Int) = ((1 + r) + 64) - 1 by omega)).symm) rfl) (
    AllOK.cons (ent_add (a := (96 + (5 * (1 + r))) + (1 + r)) (c := 2) rfl rfl (by exact congrArg (Value.int .i64) ((i64_in (((96 + (5 * (1 + r))) + (1 + r)) + 2) (by omega)).trans (show (((96 + (5 * (1 + r))) + (1 + r)) + 2 : Int) = 96 + 6 * (1 + r) + 2 by omega)).symm) rfl) (
    AllOK.cons (ent_add (a := 1 + r) (c := 1) rfl rfl (by exact congrArg (Value.int .i64) ((i64_in ((1 + r) + 1) (by omega)).trans (show ((1 + r) + 1 : Int) = (1 + r) + 1 by omega)).symm) rfl) (
    AllOK.cons (ent_conv Tryz.underlying22 Tryz.underlying3 rfl (by exact congrArg (Value.int .i64) ((i64_in n (by omega)).trans (show (n : Int) = n by omega)).symm) rfl) (
    AllOK.cons (ent_sub (a := 4096) (c := 1 + r) rfl rfl (by exact congrArg (Value.int .i64) ((i64_in (4096 - (1 + r)) (by omega)).trans (show (4096 - (1 + r) : Int) = 4096 - (1 + r) by omega)).symm) rfl) (
    AllOK.cons (ent_rem (a := n) (c := 4096 - (1 + r)) rfl rfl (by omega) (by exact congrArg (Value.int .i64) hq.symm) rfl) (
    AllOK.cons (ent_add (a := (1 + r) + 1) (c := q) rfl rfl (by exact congrArg (Value.int .i64) ((i64_in (((1 + r) + 1) + q) (by omega)).trans (show (((1 + r) + 1) + q : Int) = ((1 + r) + 1) + q by omega)).symm) rfl) (
    AllOK.cons (ent_cmp (op := .lss) (a := ((1 + r) + 1) + q) (c := 1) rfl rfl (decide_eq_false (by omega)).symm) (
    AllOK.cons (ent_cmp (op := .gtr) (a := ((1 + r) + 1) + q) (c := 4096) rfl rfl (decide_eq_false (by omega)).symm) (
    AllOK.cons (lay_same (P := 1 + r) (T := 2) rfl) (
    AllOK.cons (ent_cmp (op := .geq) (a := 2) (c := 96 + 6 * (1 + r) + 2) rfl rfl (decide_eq_false (by omega)).symm) (
    AllOK.cons (ent_cmp (op := .gtr) (a := ((1 + r) + 1) + q) (c := 1 + r) rfl rfl (decide_eq_true (by omega)).symm) (
    AllOK.cons (ent_conv Tryz.underlying3 Tryz.underlying40 rfl (by exact congrArg (Value.int .u64) ((u64_in (((1 + r) + 1) + q) (by omega)).trans (show (((1 + r) + 1) + q : Int) = ((1 + r) + 1) + q by omega)).symm) rfl) (
    AllOK.cons (ent_conv Tryz.underlying3 Tryz.underlying40 rfl (by exact congrArg (Value.int .u64) ((u64_in (1 + r) (by omega)).trans (show (1 + r : Int) = 1 + r by omega)).symm) rfl) (
    AllOK.cons (ent_cmp (op := .neq) (a := 1 + r) (c := 1 + r) rfl rfl (by simp)) (
    AllOK.cons (ent_cmp (op := .eql) (a := 1 + r) (c := 1 + r) rfl rfl (by simp)) (
    AllOK.nil)))))))))))))))))))))))))))))))))))))))))
  exact key_Mq rfl (seg_tokG (P := Tryz.prog) (l := [.int .i64 (96 + 6 * (1 + r) + 2), .int .u8 pg, .int .u16 n, .int .u8 wh, .int .u8 mn, .int .u8 hw, .int .i64 mn, .int .i64 pg, .int .i64 r, .int .i64 (1 + r), .int .i64 (5 * (1 + r)), .int .i64 (96 + (5 * (1 + r))), .int .i64 ((96 + (5 * (1 + r))) + (1 + r)), .int .i64 ((1 + r) + 64), .int .i64 (((1 + r) + 64) - 1), .int .i64 (((96 + (5 * (1 + r))) + (1 + r)) + 1), .int .i64 (8192 * (1 + r)), .int .i64 (6 * (1 + r)), .int .i64 ((1 + r) + 1), .int .i64 n, .int .i64 (4096 - (1 + r)), .int .i64 q, .int .i64 (((1 + r) + 1) + q), .int .u64 (((1 + r) + 1) + q), .int .u64 (1 + r)]) (TokL.int (TokL.int (TokL.int (TokL.int (TokL.int (TokL.int (TokL.int (TokL.int (TokL.int (TokL.int (TokL.int (TokL.int (TokL.int (TokL.int (TokL.int (TokL.int (TokL.int (TokL.int (TokL.int (TokL.int (TokL.int (TokL.int (TokL.int (TokL.int (TokL.int TokL.nil))))))))))))))))))))))))) (es := Mq0e) (fs := MqF) (w := w) hE (MqF_ok (r := r) rfl hr2 w) (L := 96 + 6 * (1 + r) + 2) rfl (by omega) (by omega) (G := 0) (tabs := []) (Nat.zero_le _) (tabR_nil w) (f := 3) (args := #[kf 1, kf 2, kf 3, kf 5, kf 4]) (v := .bool true) Tryz.func3 rfl rfl (by decide +kernel)
    (fun hσ hO => (show Seg1 _ _ _ _ _ #[] (.code (bodyOf Tryz.prog 3)) _ _ .ret #[] (mkA Mq0l114) (mkW Mq0h115) from (Seg1.seqP (by rfl) (Mq0p0 hσ hO) (Seg1.seqP (by rfl) (Mq0p1 hσ hO) (Seg1.seqP (by rfl) (Mq0p2 hσ hO) (Seg1.seqP (by rfl) (Seg1.seqP (by rfl) (Mq0p3 hσ hO) (Mq0p4 hσ hO)) (Seg1.seqP (by rfl) (Mq0p5 hσ hO) (Seg1.seqP (by rfl) (Mq0p6 hσ hO) (Seg1.seqP (by rfl) (Seg1.seqP (by rfl) (Mq0p7 hσ hO) (Mq0p8 hσ hO)) (Seg1.seqP (by rfl) (Mq0p9 hσ hO) (Seg1.seqP (by rfl) (Seg1.seqP (by rfl) (Mq0p10 hσ hO) (Mq0p11 hσ hO)) (Seg1.seqP (by rfl) (Mq0p12 hσ hO) (Seg1.seqP (by rfl) (Seg1.seqP (by rfl) (Mq0p13 hσ hO) (Mq0p14 hσ hO)) (Seg1.seqP (by rfl) (Mq0p15 hσ hO) (Seg1.seqP (by rfl) (Seg1.seqP (by rfl) (Mq0p16 hσ hO) (Mq0p17 hσ hO)) (Seg1.seqP (by rfl) (Seg1.seqP (by rfl) (Mq0p18 hσ hO) (Seg1.loopP (by rfl) (Seg1.loopExit (Mq0p19 hσ hO)))) (Seg1.seqP (by rfl) (Seg1.seqP (by rfl) (Mq0p20 hσ hO) (Mq0p21 hσ hO)) (Seg1.seqP (by rfl) (Mq0p22 hσ hO) (Seg1.seqP (by rfl) (Mq0p23 hσ hO) (Mq0p24 hσ hO)))))))))))))))))))) (by first | exact .inl rfl | exact .inr rfl) (retTrue_eq (by decide +kernel)))
end Go.Proofs.YthggcmhmjkmjnaaGreat
