/- PagerHeads: more of the runs, in pieces (printed by gen_ph.py, split_ph2.py). -/
import Derived.Test.YthggcmhmjkmjnaaGreatMqB
import Derived.Test.YthggcmhmjkmjnaaGreatRefl23
namespace Go.Proofs.YthggcmhmjkmjnaaGreat
open Go.RowKit Go.IntWalk
set_option linter.unusedVariables false
set_option linter.unusedSimpArgs false
set_option maxRecDepth 100000
def Mq3h1k0e : List Ent := [⟨.conv 5 3, [kf 4], kf 6⟩,
  ⟨.bin .rem 3, [kf 6, vI 4], vI 3⟩,
  ⟨.conv 5 3, [kf 1], kf 7⟩,
  ⟨.bin .rem 3, [kf 7, vI 30], kf 8⟩,
  ⟨.bin .add 3, [vI 1, kf 8], kf 9⟩,
  ⟨.conv 5 3, [kf 3], kf 10⟩,
  ⟨.bin .rem 3, [kf 10, vI 3], vI 0⟩,
  ⟨.bin .rem 5, [kf 5, .int .u8 3], .int .u8 1⟩,
  ⟨.bin .geq 3, [kf 9, vI 1], .bool true⟩,
  ⟨.bin .leq 3, [kf 9, vI 4096], .bool true⟩,
  ⟨.bin .mul 3, [vI 5, kf 9], kf 11⟩,
  ⟨.bin .add 3, [vI 96, kf 11], kf 12⟩,
  ⟨.bin .add 3, [kf 12, kf 9], kf 13⟩,
  ⟨.bin .add 3, [kf 9, vI 64], kf 14⟩,
  ⟨.bin .sub 3, [kf 14, vI 1], kf 15⟩,
  ⟨.bin .quo 3, [kf 15, vI 64], vI 1⟩,
  ⟨.bin .add 3, [kf 13, vI 1], kf 16⟩,
  ⟨.bin .add 3, [kf 16, vI 1], kf 0⟩,
  ⟨.bin .lss 3, [kf 0, vI 1], .bool false⟩,
  ⟨.bin .gtr 3, [kf 0, vI 65536], .bool false⟩,
  ⟨.bin .geq 3, [vI 0, kf 0], .bool false⟩,
  ⟨.bin .lss 3, [kf 9, vI 1], .bool false⟩,
  ⟨.bin .gtr 3, [kf 9, vI 4096], .bool false⟩,
  ⟨.bin .mul 3, [vI 8192, kf 9], kf 17⟩,
  ⟨.bin .add 3, [kf 17, vI 0], kf 17⟩,
  ⟨.bin .add 3, [vI 0, kf 9], kf 9⟩,
  ⟨.bin .mul 3, [vI 6, kf 9], kf 18⟩,
  ⟨.bin .add 3, [vI 96, kf 18], kf 13⟩,
  ⟨.bin .add 3, [kf 9, vI 63], kf 15⟩,
  ⟨.bin .add 3, [kf 13, vI 2], kf 0⟩,
  ⟨.bin .add 3, [kf 9, vI 1], kf 19⟩,
  ⟨.conv 22 3, [kf 2], kf 20⟩,
  ⟨.bin .sub 3, [vI 4096, kf 9], kf 21⟩,
  ⟨.bin .rem 3, [kf 20, kf 21], kf 22⟩,
  ⟨.bin .add 3, [kf 19, kf 22], kf 23⟩,
  ⟨.bin .lss 3, [kf 23, vI 1], .bool false⟩,
  ⟨.bin .gtr 3, [kf 23, vI 4096], .bool false⟩,
  ⟨.bin .lss 3, [vI 9, kf 0], .bool true⟩,
  ⟨.bin .lss 3, [vI 10, kf 0], .bool true⟩,
  ⟨.bin .lss 3, [vI 14, kf 0], .bool true⟩,
  ⟨.bin .neq 37, [vG [kf 9, vI 2], vG [kf 9, vI 2]], .bool false⟩,
  ⟨.bin .geq 3, [vI 2, kf 0], .bool false⟩,
  ⟨.bin .gtr 3, [kf 23, kf 9], .bool true⟩,
  ⟨.conv 3 40, [kf 23], kf 24⟩,
  ⟨.conv 3 40, [kf 9], kf 25⟩,
  ⟨.bin .neq 40, [kf 25, kf 25], .bool false⟩,
  ⟨.bin .geq 3, [vI 9, kf 0], .bool false⟩,
  ⟨.bin .eql 3, [kf 9, kf 9], .bool true⟩]
def Mq3h1k0v0 : List Value := [kf 1, kf 2, kf 3, kf 5, kf 4, vX, vX, vX, vX, vX, vB false, vX]
def Mq3h1k0v1 : List Value := [vX, vX, vX, vX, vX, vX, vX, vX, vX, vX, vX, vX]
def Mq3h1k0l2 : List Value := Mq3h1k0v0 ++ (Mq3h1k0v1 ++ (Mq3h1k0v1 ++ (Mq3h1k0v1 ++ (Mq3h1k0v1 ++ (Mq3h1k0v1 ++ (Mq3h1k0v1 ++ (Mq3h1k0v1 ++ (Mq3h1k0v1 ++ (Mq3h1k0v1 ++ (Mq3h1k0v1 ++ (Mq3h1k0v1 ++ (Mq3h1k0v1 ++ (Mq3h1k0v1 ++ (Mq3h1k0v1 ++ (Mq3h1k0v1 ++ Mq3h1k0v1)))))))))))))))
def Mq3h1k0h3 : List Obj := []
def Mq3h1k0v2 : List Value := [kf 1, kf 2, kf 3, kf 5, kf 4, vX, vX, vX, vX, vX, vB false, vP 0 0]
def Mq3h1k0v3 : List Value := [vX, vX, vX, kf 1, kf 7, kf 8, kf 9, vG [kf 9, vI 2, vZ], vX, vX, vX, vX]
def Mq3h1k0l6 : List Value := Mq3h1k0v2 ++ (Mq3h1k0v1 ++ (Mq3h1k0v3 ++ (Mq3h1k0v1 ++ (Mq3h1k0v1 ++ (Mq3h1k0v1 ++ (Mq3h1k0v1 ++ (Mq3h1k0v1 ++ (Mq3h1k0v1 ++ (Mq3h1k0v1 ++ (Mq3h1k0v1 ++ (Mq3h1k0v1 ++ (Mq3h1k0v1 ++ (Mq3h1k0v1 ++ (Mq3h1k0v1 ++ (Mq3h1k0v1 ++ Mq3h1k0v1)))))))))))))))
def Mq3h1k0o4 : Obj := oC 25 [kf 9, vI 2, vZ]
def Mq3h1k0h8 : List Obj := [Mq3h1k0o4]
def Mq3h1k0v5 : List Value := [vP 7 0, vP 10 0, vX, vX, vX, vX, vX, vX, vX, vX, vX, vX]
def Mq3h1k0v6 : List Value := [vX, vX, vX, kf 1, kf 7, kf 8, kf 9, vG [kf 9, vI 2, vZ], vT [vP 7 0, vP 10 0], vG [kf 9, vI 2, vZ], vT [vP 7 0, vP 10 0], vP 7 0]
def Mq3h1k0v7 : List Value := [vP 10 0, vX, vX, vX, vX, vX, vX, vX, vX, vX, vX, vX]
def Mq3h1k0l12 : List Value := Mq3h1k0v2 ++ (Mq3h1k0v5 ++ (Mq3h1k0v6 ++ (Mq3h1k0v7 ++ (Mq3h1k0v1 ++ (Mq3h1k0v1 ++ (Mq3h1k0v1 ++ (Mq3h1k0v1 ++ (Mq3h1k0v1 ++ (Mq3h1k0v1 ++ (Mq3h1k0v1 ++ (Mq3h1k0v1 ++ (Mq3h1k0v1 ++ (Mq3h1k0v1 ++ (Mq3h1k0v1 ++ (Mq3h1k0v1 ++ Mq3h1k0v1)))))))))))))))
def Mq3h1k0o8 : Obj := oC 40 [vU 1, vU 0, vU 0, vU 0, vU 0, vU 0, vU 0, vU 0, vU 0, vU 0, vU 0, vU 0, vU 0, vU 0, vU 0, vU 0, vU 0, vU 0, vU 0, vU 0, vU 0, vU 0, vU 0, vU 0, vU 0, vU 0, vU 0, vU 0, vU 0, vU 0, vU 0, vU 0, vU 0, vU 0, vU 0, vU 0, vU 0, vU 0, vU 0, vU 0, vU 0, vU 0, vU 0, vU 0, vU 0, vU 0, vU 0, vU 0, vU 0, vU 0, vU 0, vU 0, vU 0, vU 0, vU 0, vU 0, vU 0, vU 0, vU 0, vU 0, vU 0, vU 0, vU 0, vU 0, vU 0, vU 0, vU 0, vU 0, vU 0, vU 0, vU 0, vU 0, vU 0, vU 0, vU 0, vU 0, vU 0]
def Mq3h1k0o9 : Obj := oC 111 [.complex .f32 1 0, vI 0, vI 0, vU 0, vU 0, vI 0]
def Mq3h1k0o10 : Obj := oC 172 [vP 5 0, vI 1]
def Mq3h1k0o11 : Obj := oC 101 [kf 9, vZ, vI 1, vP 3 0, vS 6 0 1 1, kf 9]
def Mq3h1k0o12 : Obj := oC 191 [kf 17, .int .u32 0, vI 0, kf 9, vN, vN]
def Mq3h1k0o13 : Obj := oC 97 [kf 9, vI 2, vP 2 0, vP 4 0]
def Mq3h1k0o14 : Obj := oC 94 [.complex .f32 8 0, vI 0, vI 0, vU 0, vU 0, vI 0]
def Mq3h1k0o15 : Obj := oC 39 [vP 9 0, .complex .f64 0 0, kf 9, vI 2]
def Mq3h1k0h21 : List Obj := [Mq3h1k0o4, Mq3h1k0o8, Mq3h1k0o9, Mq3h1k0o10, Mq3h1k0o11, Mq3h1k0o12, oC 146 [vI 0, kf 9], Mq3h1k0o13, Mq3h1k0o8, Mq3h1k0o14, Mq3h1k0o15]
def Mq3h1k0v16 : List Value := [vP 10 0, vP 7 0, vB false, vX, vX, vX, vX, vX, vX, vX, vX, vX]
def Mq3h1k0l23 : List Value := Mq3h1k0v2 ++ (Mq3h1k0v5 ++ (Mq3h1k0v6 ++ (Mq3h1k0v16 ++ (Mq3h1k0v1 ++ (Mq3h1k0v1 ++ (Mq3h1k0v1 ++ (Mq3h1k0v1 ++ (Mq3h1k0v1 ++ (Mq3h1k0v1 ++ (Mq3h1k0v1 ++ (Mq3h1k0v1 ++ (Mq3h1k0v1 ++ (Mq3h1k0v1 ++ (Mq3h1k0v1 ++ (Mq3h1k0v1 ++ Mq3h1k0v1)))))))))))))))
def Mq3h1k0h24 : List Obj := [Mq3h1k0o4, Mq3h1k0o8, Mq3h1k0o9, Mq3h1k0o10, Mq3h1k0o11, Mq3h1k0o12, oC 146 [vI 0, kf 9], Mq3h1k0o13, Mq3h1k0o8, Mq3h1k0o14, Mq3h1k0o15]
def Mq3h1k0l25 : List Value := Mq3h1k0v2 ++ (Mq3h1k0v5 ++ (Mq3h1k0v6 ++ (Mq3h1k0v16 ++ (Mq3h1k0v1 ++ (Mq3h1k0v1 ++ (Mq3h1k0v1 ++ (Mq3h1k0v1 ++ (Mq3h1k0v1 ++ (Mq3h1k0v1 ++ (Mq3h1k0v1 ++ (Mq3h1k0v1 ++ (Mq3h1k0v1 ++ (Mq3h1k0v1 ++ (Mq3h1k0v1 ++ (Mq3h1k0v1 ++ Mq3h1k0v1)))))))))))))))
def Mq3h1k0h26 : List Obj := [Mq3h1k0o4, Mq3h1k0o8, Mq3h1k0o9, Mq3h1k0o10, Mq3h1k0o11, Mq3h1k0o12, oC 146 [vI 0, kf 9], Mq3h1k0o13, Mq3h1k0o8, Mq3h1k0o14, Mq3h1k0o15]
def Mq3h1k0v17 : List Value := [vP 7 0, vP 10 0, vS 11 0 3 3, vX, vX, vX, vX, vX, vX, vX, vX, vX]
def Mq3h1k0v18 : List Value := [vP 10 0, vP 7 0, vB false, vI 9, vI 10, vI 14, vS 11 0 3 3, kf 4, kf 6, vI 3, vS 11 0 3 3, vX]
def Mq3h1k0l29 : List Value := Mq3h1k0v2 ++ (Mq3h1k0v17 ++ (Mq3h1k0v6 ++ (Mq3h1k0v18 ++ (Mq3h1k0v1 ++ (Mq3h1k0v1 ++ (Mq3h1k0v1 ++ (Mq3h1k0v1 ++ (Mq3h1k0v1 ++ (Mq3h1k0v1 ++ (Mq3h1k0v1 ++ (Mq3h1k0v1 ++ (Mq3h1k0v1 ++ (Mq3h1k0v1 ++ (Mq3h1k0v1 ++ (Mq3h1k0v1 ++ Mq3h1k0v1)))))))))))))))
def Mq3h1k0o19 : Obj := oC 3 [vI 9, vI 10, vI 14]
def Mq3h1k0h31 : List Obj := [Mq3h1k0o4, Mq3h1k0o8, Mq3h1k0o9, Mq3h1k0o10, Mq3h1k0o11, Mq3h1k0o12, oC 146 [vI 0, kf 9], Mq3h1k0o13, Mq3h1k0o8, Mq3h1k0o14, Mq3h1k0o15, Mq3h1k0o19]
def Mq3h1k0v20 : List Value := [vP 7 0, vP 10 0, vS 11 0 3 3, vP 15 0, vX, vX, vX, vX, vX, vX, vX, vX]
def Mq3h1k0v21 : List Value := [vP 10 0, vP 7 0, vB false, vI 9, vI 10, vI 14, vS 11 0 3 3, kf 4, kf 6, vI 3, vS 11 0 3 3, vP 10 0]
def Mq3h1k0v22 : List Value := [vP 10 0, vP 10 2, vG [kf 9, vI 2], vP 0 0, kf 9, kf 19, kf 2, kf 20, vP 0 0, kf 9, kf 21, kf 22]
def Mq3h1k0v23 : List Value := [kf 23, vS 11 0 3 3, vP 15 0, vX, vX, vX, vX, vX, vX, vX, vX, vX]
def Mq3h1k0l36 : List Value := Mq3h1k0v2 ++ (Mq3h1k0v20 ++ (Mq3h1k0v6 ++ (Mq3h1k0v21 ++ (Mq3h1k0v22 ++ (Mq3h1k0v23 ++ (Mq3h1k0v1 ++ (Mq3h1k0v1 ++ (Mq3h1k0v1 ++ (Mq3h1k0v1 ++ (Mq3h1k0v1 ++ (Mq3h1k0v1 ++ (Mq3h1k0v1 ++ (Mq3h1k0v1 ++ (Mq3h1k0v1 ++ (Mq3h1k0v1 ++ Mq3h1k0v1)))))))))))))))
def Mq3h1k0o24 : Obj := oC 85 [kf 9, vI 2, vF 65 [] [vP 22 0, vP 23 0], kf 23, vS 14 0 3 3, vZ, vZ, vI 0, vI 2]
def Mq3h1k0o25 : Obj := oC 123 [kf 9, vI 2, vF 99 [] [vP 18 0, vP 19 0, vP 20 0, vP 21 0]]
def Mq3h1k0o26 : Obj := oC 125 [vF 67 [] [vP 17 0]]
def Mq3h1k0o27 : Obj := oC 121 [.iface 87 (vP 16 0)]
def Mq3h1k0o28 : Obj := oC 1 [vF 39 [] [vP 13 0, vP 12 0]]
def Mq3h1k0h42 : List Obj := [Mq3h1k0o4, Mq3h1k0o8, Mq3h1k0o9, Mq3h1k0o10, Mq3h1k0o11, Mq3h1k0o12, oC 146 [vI 0, kf 9], Mq3h1k0o13, Mq3h1k0o8, Mq3h1k0o14, Mq3h1k0o15, Mq3h1k0o19, oC 3 [kf 23], oC 32 [vP 15 0], Mq3h1k0o19, Mq3h1k0o24, Mq3h1k0o25, oC 87 [vP 16 0], oC 3 [vI 2], oC 40 [vU 0], oC 40 [vU 2], Mq3h1k0o26, Mq3h1k0o27, Mq3h1k0o28]
def Mq3h1k0v29 : List Value := [vP 7 0, vP 10 0, vS 11 0 3 3, vP 13 0, vX, vX, vX, vX, vX, vX, vX, vX]
def Mq3h1k0v30 : List Value := [kf 23, vS 11 0 3 3, vP 13 0, vP 13 0, vB false, vB false, vP 13 0, vP 7 0, vG [vI 3, vI 2, vU 0, vU 2], vI 3, vB false, vB false]
def Mq3h1k0l45 : List Value := Mq3h1k0v2 ++ (Mq3h1k0v29 ++ (Mq3h1k0v6 ++ (Mq3h1k0v21 ++ (Mq3h1k0v22 ++ (Mq3h1k0v30 ++ (Mq3h1k0v1 ++ (Mq3h1k0v1 ++ (Mq3h1k0v1 ++ (Mq3h1k0v1 ++ (Mq3h1k0v1 ++ (Mq3h1k0v1 ++ (Mq3h1k0v1 ++ (Mq3h1k0v1 ++ (Mq3h1k0v1 ++ (Mq3h1k0v1 ++ Mq3h1k0v1)))))))))))))))
def Mq3h1k0o31 : Obj := oC 40 [vU 1, vU 0, vU 2, vU 0, vU 0, vU 0, vU 0, vU 0, vU 0, vU 0, vU 0, vU 0, vU 0, vU 0, vU 0, vU 0, vU 0, vU 0, vU 0, vU 0, vU 0, vU 0, vU 0, vU 0, vU 0, vU 0, vU 0, vU 0, vU 0, vU 0, vU 0, vU 0, vU 0, vU 0, vU 0, vU 0, vU 0, vU 0, vU 0, vU 0, vU 0, vU 0, vU 0, vU 0, vU 0, vU 0, vU 0, vU 0, vU 0, vU 0, vU 0, vU 0, vU 0, vU 0, vU 0, vU 0, vU 0, vU 0, vU 0, vU 0, vU 0, vU 0, vU 0, vU 0, vU 0, vU 0, vU 0, vU 0, vU 0, vU 0, vU 0, vU 0, vU 0, vU 0, vU 0, vU 0, vU 0]
def Mq3h1k0o32 : Obj := oC 111 [.complex .f32 1 0, vI 3, vI 2, vU 0, vU 2, vI 1]
def Mq3h1k0o33 : Obj := oC 85 [kf 9, vI 2, vF 69 [] [vP 15 0, vP 16 0, vP 14 0], kf 23, vS 12 0 3 3, vZ, vZ, vI 0, vI 2]
def Mq3h1k0o34 : Obj := oC 90 [vF 41 [vP 13 0] []]
def Mq3h1k0o35 : Obj := oC 91 [vF 42 [vP 13 0] []]
def Mq3h1k0h51 : List Obj := [Mq3h1k0o4, Mq3h1k0o31, Mq3h1k0o32, Mq3h1k0o10, Mq3h1k0o11, Mq3h1k0o12, oC 146 [vI 0, kf 9], Mq3h1k0o13, Mq3h1k0o8, Mq3h1k0o14, Mq3h1k0o15, Mq3h1k0o19, Mq3h1k0o19, Mq3h1k0o33, oC 3 [kf 23], Mq3h1k0o34, Mq3h1k0o35]
def Mq3h1k0l52 : List Value := Mq3h1k0v2 ++ (Mq3h1k0v29 ++ (Mq3h1k0v6 ++ (Mq3h1k0v21 ++ (Mq3h1k0v22 ++ (Mq3h1k0v30 ++ (Mq3h1k0v1 ++ (Mq3h1k0v1 ++ (Mq3h1k0v1 ++ (Mq3h1k0v1 ++ (Mq3h1k0v1 ++ (Mq3h1k0v1 ++ (Mq3h1k0v1 ++ (Mq3h1k0v1 ++ (Mq3h1k0v1 ++ (Mq3h1k0v1 ++ Mq3h1k0v1)))))))))))))))
def Mq3h1k0h53 : List Obj := [Mq3h1k0o4, Mq3h1k0o31, Mq3h1k0o32, Mq3h1k0o10, Mq3h1k0o11, Mq3h1k0o12, oC 146 [vI 0, kf 9], Mq3h1k0o13, Mq3h1k0o8, Mq3h1k0o14, Mq3h1k0o15, Mq3h1k0o19, Mq3h1k0o19, Mq3h1k0o33, oC 3 [kf 23], Mq3h1k0o34, Mq3h1k0o35]
def Mq3h1k0v36 : List Value := [vP 7 0, vP 10 0, vS 11 0 3 3, vP 13 0, vP 18 0, vX, vX, vX, vX, vX, vX, vX]
def Mq3h1k0v37 : List Value := [vP 13 0, vP 7 0, vG [vI 6, vI (-1), kf 24, kf 25], vX, vX, vX, vX, vX, vX, vX, vX, vX]
def Mq3h1k0l56 : List Value := Mq3h1k0v2 ++ (Mq3h1k0v36 ++ (Mq3h1k0v6 ++ (Mq3h1k0v21 ++ (Mq3h1k0v22 ++ (Mq3h1k0v30 ++ (Mq3h1k0v37 ++ (Mq3h1k0v1 ++ (Mq3h1k0v1 ++ (Mq3h1k0v1 ++ (Mq3h1k0v1 ++ (Mq3h1k0v1 ++ (Mq3h1k0v1 ++ (Mq3h1k0v1 ++ (Mq3h1k0v1 ++ (Mq3h1k0v1 ++ Mq3h1k0v1)))))))))))))))
def Mq3h1k0o38 : Obj := oC 85 [kf 9, vI 2, vF 128 [] [vP 16 0, vP 17 0], kf 23, vS 12 0 3 3, vZ, vZ, vI 0, vI 2]
def Mq3h1k0o39 : Obj := oC 139 [vF 106 [] [vP 14 0, vP 15 0]]
def Mq3h1k0o40 : Obj := oC 42 [vI 6, vI (-1), kf 24, kf 25]
def Mq3h1k0h60 : List Obj := [Mq3h1k0o4, Mq3h1k0o31, Mq3h1k0o32, Mq3h1k0o10, Mq3h1k0o11, Mq3h1k0o12, oC 146 [vI 0, kf 9], Mq3h1k0o13, Mq3h1k0o8, Mq3h1k0o14, Mq3h1k0o15, Mq3h1k0o19, Mq3h1k0o19, Mq3h1k0o38, oC 32 [vP 13 0], oC 3 [vI 0], oC 3 [vI 9], Mq3h1k0o39, Mq3h1k0o40]
def Mq3h1k0v41 : List Value := [vP 13 0, vP 7 0, vG [vI 6, vI (-1), kf 24, kf 25], vP 18 0, vI 6, vB false, vB false, vP 18 1, vI (-1), vB false, vB false, vB false]
def Mq3h1k0v42 : List Value := [vP 18 3, kf 25, vP 0 0, kf 9, kf 25, vB false, vB false, vX, vX, vX, vX, vX]
def Mq3h1k0l63 : List Value := Mq3h1k0v2 ++ (Mq3h1k0v36 ++ (Mq3h1k0v6 ++ (Mq3h1k0v21 ++ (Mq3h1k0v22 ++ (Mq3h1k0v30 ++ (Mq3h1k0v41 ++ (Mq3h1k0v42 ++ (Mq3h1k0v1 ++ (Mq3h1k0v1 ++ (Mq3h1k0v1 ++ (Mq3h1k0v1 ++ (Mq3h1k0v1 ++ (Mq3h1k0v1 ++ (Mq3h1k0v1 ++ (Mq3h1k0v1 ++ Mq3h1k0v1)))))))))))))))
def Mq3h1k0h64 : List Obj := [Mq3h1k0o4, Mq3h1k0o31, Mq3h1k0o32, Mq3h1k0o10, Mq3h1k0o11, Mq3h1k0o12, oC 146 [vI 0, kf 9], Mq3h1k0o13, Mq3h1k0o8, Mq3h1k0o14, Mq3h1k0o15, Mq3h1k0o19, Mq3h1k0o19, Mq3h1k0o38, oC 32 [vP 13 0], oC 3 [vI 0], oC 3 [vI 9], Mq3h1k0o39, Mq3h1k0o40]
def Mq3h1k0l65 : List Value := Mq3h1k0v2 ++ (Mq3h1k0v36 ++ (Mq3h1k0v6 ++ (Mq3h1k0v21 ++ (Mq3h1k0v22 ++ (Mq3h1k0v30 ++ (Mq3h1k0v41 ++ (Mq3h1k0v42 ++ (Mq3h1k0v1 ++ (Mq3h1k0v1 ++ (Mq3h1k0v1 ++ (Mq3h1k0v1 ++ (Mq3h1k0v1 ++ (Mq3h1k0v1 ++ (Mq3h1k0v1 ++ (Mq3h1k0v1 ++ Mq3h1k0v1)))))))))))))))
def Mq3h1k0h66 : List Obj := [Mq3h1k0o4, Mq3h1k0o31, Mq3h1k0o32, Mq3h1k0o10, Mq3h1k0o11, Mq3h1k0o12, oC 146 [vI 0, kf 9], Mq3h1k0o13, Mq3h1k0o8, Mq3h1k0o14, Mq3h1k0o15, Mq3h1k0o19, Mq3h1k0o19, Mq3h1k0o38, oC 32 [vP 13 0], oC 3 [vI 0], oC 3 [vI 9], Mq3h1k0o39, Mq3h1k0o40]
def Mq3h1k0v43 : List Value := [vP 7 0, vP 10 0, vS 11 0 3 3, vP 13 0, vP 18 0, vI 0, vX, vX, vX, vX, vX, vX]
def Mq3h1k0l68 : List Value := Mq3h1k0v2 ++ (Mq3h1k0v43 ++ (Mq3h1k0v6 ++ (Mq3h1k0v21 ++ (Mq3h1k0v22 ++ (Mq3h1k0v30 ++ (Mq3h1k0v41 ++ (Mq3h1k0v42 ++ (Mq3h1k0v1 ++ (Mq3h1k0v1 ++ (Mq3h1k0v1 ++ (Mq3h1k0v1 ++ (Mq3h1k0v1 ++ (Mq3h1k0v1 ++ (Mq3h1k0v1 ++ (Mq3h1k0v1 ++ Mq3h1k0v1)))))))))))))))
def Mq3h1k0h69 : List Obj := [Mq3h1k0o4, Mq3h1k0o31, Mq3h1k0o32, Mq3h1k0o10, Mq3h1k0o11, Mq3h1k0o12, oC 146 [vI 0, kf 9], Mq3h1k0o13, Mq3h1k0o8, Mq3h1k0o14, Mq3h1k0o15, Mq3h1k0o19, Mq3h1k0o19, Mq3h1k0o38, oC 32 [vP 13 0], oC 3 [vI 0], oC 3 [vI 9], Mq3h1k0o39, Mq3h1k0o40]
def Mq3h1k0v44 : List Value := [vP 18 3, kf 25, vP 0 0, kf 9, kf 25, vB false, vB false, vS 11 0 3 3, vI 3, vB true, vX, vX]
def Mq3h1k0l71 : List Value := Mq3h1k0v2 ++ (Mq3h1k0v43 ++ (Mq3h1k0v6 ++ (Mq3h1k0v21 ++ (Mq3h1k0v22 ++ (Mq3h1k0v30 ++ (Mq3h1k0v41 ++ (Mq3h1k0v44 ++ (Mq3h1k0v1 ++ (Mq3h1k0v1 ++ (Mq3h1k0v1 ++ (Mq3h1k0v1 ++ (Mq3h1k0v1 ++ (Mq3h1k0v1 ++ (Mq3h1k0v1 ++ (Mq3h1k0v1 ++ Mq3h1k0v1)))))))))))))))
def Mq3h1k0h72 : List Obj := [Mq3h1k0o4, Mq3h1k0o31, Mq3h1k0o32, Mq3h1k0o10, Mq3h1k0o11, Mq3h1k0o12, oC 146 [vI 0, kf 9], Mq3h1k0o13, Mq3h1k0o8, Mq3h1k0o14, Mq3h1k0o15, Mq3h1k0o19, Mq3h1k0o19, Mq3h1k0o38, oC 32 [vP 13 0], oC 3 [vI 0], oC 3 [vI 9], Mq3h1k0o39, Mq3h1k0o40]
def Mq3h1k0v45 : List Value := [vP 18 3, kf 25, vP 0 0, kf 9, kf 25, vB false, vB false, vS 11 0 3 3, vI 3, vB true, kf 3, kf 10]
def Mq3h1k0v46 : List Value := [vS 11 0 3 3, vI 3, vI 0, vX, vX, vX, vX, vX, vX, vX, vX, vX]
def Mq3h1k0l75 : List Value := Mq3h1k0v2 ++ (Mq3h1k0v43 ++ (Mq3h1k0v6 ++ (Mq3h1k0v21 ++ (Mq3h1k0v22 ++ (Mq3h1k0v30 ++ (Mq3h1k0v41 ++ (Mq3h1k0v45 ++ (Mq3h1k0v46 ++ (Mq3h1k0v1 ++ (Mq3h1k0v1 ++ (Mq3h1k0v1 ++ (Mq3h1k0v1 ++ (Mq3h1k0v1 ++ (Mq3h1k0v1 ++ (Mq3h1k0v1 ++ Mq3h1k0v1)))))))))))))))
def Mq3h1k0h76 : List Obj := [Mq3h1k0o4, Mq3h1k0o31, Mq3h1k0o32, Mq3h1k0o10, Mq3h1k0o11, Mq3h1k0o12, oC 146 [vI 0, kf 9], Mq3h1k0o13, Mq3h1k0o8, Mq3h1k0o14, Mq3h1k0o15, Mq3h1k0o19, Mq3h1k0o19, Mq3h1k0o38, oC 32 [vP 13 0], oC 3 [vI 0], oC 3 [vI 9], Mq3h1k0o39, Mq3h1k0o40]
def Mq3h1k0v47 : List Value := [vP 7 0, vP 10 0, vS 11 0 3 3, vP 13 0, vP 18 0, vI 0, vI 3, vI 6, vX, vX, vX, vX]
def Mq3h1k0v48 : List Value := [vS 11 0 3 3, vI 3, vI 0, vS 11 0 3 3, vI 3, vI 6, vX, vX, vX, vX, vX, vX]
def Mq3h1k0l79 : List Value := Mq3h1k0v2 ++ (Mq3h1k0v47 ++ (Mq3h1k0v6 ++ (Mq3h1k0v21 ++ (Mq3h1k0v22 ++ (Mq3h1k0v30 ++ (Mq3h1k0v41 ++ (Mq3h1k0v45 ++ (Mq3h1k0v48 ++ (Mq3h1k0v1 ++ (Mq3h1k0v1 ++ (Mq3h1k0v1 ++ (Mq3h1k0v1 ++ (Mq3h1k0v1 ++ (Mq3h1k0v1 ++ (Mq3h1k0v1 ++ Mq3h1k0v1)))))))))))))))
def Mq3h1k0h80 : List Obj := [Mq3h1k0o4, Mq3h1k0o31, Mq3h1k0o32, Mq3h1k0o10, Mq3h1k0o11, Mq3h1k0o12, oC 146 [vI 0, kf 9], Mq3h1k0o13, Mq3h1k0o8, Mq3h1k0o14, Mq3h1k0o15, Mq3h1k0o19, Mq3h1k0o19, Mq3h1k0o38, oC 32 [vP 13 0], oC 3 [vI 0], oC 3 [vI 9], Mq3h1k0o39, Mq3h1k0o40]
def Mq3h1k0v49 : List Value := [vS 11 0 3 3, vI 3, vI 0, vS 11 0 3 3, vI 3, vI 6, vS 11 0 3 3, vI 3, vB true, vB true, kf 5, .int .u8 1]
def Mq3h1k0v50 : List Value := [vB true, vB true, vX, vX, vX, vX, vX, vX, vX, vX, vX, vX]
def Mq3h1k0l83 : List Value := Mq3h1k0v2 ++ (Mq3h1k0v47 ++ (Mq3h1k0v6 ++ (Mq3h1k0v21 ++ (Mq3h1k0v22 ++ (Mq3h1k0v30 ++ (Mq3h1k0v41 ++ (Mq3h1k0v45 ++ (Mq3h1k0v49 ++ (Mq3h1k0v50 ++ (Mq3h1k0v1 ++ (Mq3h1k0v1 ++ (Mq3h1k0v1 ++ (Mq3h1k0v1 ++ (Mq3h1k0v1 ++ (Mq3h1k0v1 ++ Mq3h1k0v1)))))))))))))))
def Mq3h1k0h84 : List Obj := [Mq3h1k0o4, Mq3h1k0o31, Mq3h1k0o32, Mq3h1k0o10, Mq3h1k0o11, Mq3h1k0o12, oC 146 [vI 0, kf 9], Mq3h1k0o13, Mq3h1k0o8, Mq3h1k0o14, Mq3h1k0o15, Mq3h1k0o19, Mq3h1k0o19, Mq3h1k0o38, oC 32 [vP 13 0], oC 3 [vI 0], oC 3 [vI 9], Mq3h1k0o39, Mq3h1k0o40]
def Mq3h1k0v51 : List Value := [vP 7 0, vP 10 0, vS 11 0 3 3, vP 13 0, vP 18 0, vI 0, vI 5, vI 1, vU 30064771073, vB true, vX, vX]
def Mq3h1k0v52 : List Value := [vB true, vB true, vT [vU 30064771073, vB true], vT [vU 30064771073, vB true], vU 30064771073, vB true, vI 0, vI 1, vP 7 0, vP 10 0, vS 11 0 3 3, vI 0]
def Mq3h1k0v53 : List Value := [vP 11 0, vI 9, vU 30064771073, vB true, vB false, vX, vX, vX, vX, vX, vX, vX]
def Mq3h1k0l88 : List Value := Mq3h1k0v2 ++ (Mq3h1k0v51 ++ (Mq3h1k0v6 ++ (Mq3h1k0v21 ++ (Mq3h1k0v22 ++ (Mq3h1k0v30 ++ (Mq3h1k0v41 ++ (Mq3h1k0v45 ++ (Mq3h1k0v49 ++ (Mq3h1k0v52 ++ (Mq3h1k0v53 ++ (Mq3h1k0v1 ++ (Mq3h1k0v1 ++ (Mq3h1k0v1 ++ (Mq3h1k0v1 ++ (Mq3h1k0v1 ++ Mq3h1k0v1)))))))))))))))
def Mq3h1k0o54 : Obj := oC 40 [vU 1, vU 0, vU 2, vU 0, vU 0, vU 0, vU 0, vU 0, vU 0, vU 30064771073, vU 0, vU 0, vU 0, vU 0, vU 0, vU 0, vU 0, vU 0, vU 0, vU 0, vU 0, vU 0, vU 0, vU 0, vU 0, vU 0, vU 0, vU 0, vU 0, vU 0, vU 0, vU 0, vU 0, vU 0, vU 0, vU 0, vU 0, vU 0, vU 0, vU 0, vU 0, vU 0, vU 0, vU 0, vU 0, vU 0, vU 0, vU 0, vU 0, vU 0, vU 0, vU 0, vU 0, vU 0, vU 0, vU 0, vU 0, vU 0, vU 0, vU 0, vU 0, vU 0, vU 0, vU 0, vU 0, vU 0, vU 0, vU 0, vU 0, vU 0, vU 0, vU 0, vU 0, vU 0, vU 0, vU 0, vU 0]
def Mq3h1k0o55 : Obj := oC 111 [.complex .f32 1 0, vI 2, vI 9, vU 0, vU 30064771073, vI 2]
def Mq3h1k0o56 : Obj := oC 40 [vU 1, vU 0, vU 0, vU 0, vU 0, vU 0, vU 0, vU 0, vU 0, vU 30064771073, vU 0, vU 0, vU 0, vU 0, vU 0, vU 0, vU 0, vU 0, vU 0, vU 0, vU 0, vU 0, vU 0, vU 0, vU 0, vU 0, vU 0, vU 0, vU 0, vU 0, vU 0, vU 0, vU 0, vU 0, vU 0, vU 0, vU 0, vU 0, vU 0, vU 0, vU 0, vU 0, vU 0, vU 0, vU 0, vU 0, vU 0, vU 0, vU 0, vU 0, vU 0, vU 0, vU 0, vU 0, vU 0, vU 0, vU 0, vU 0, vU 0, vU 0, vU 0, vU 0, vU 0, vU 0, vU 0, vU 0, vU 0, vU 0, vU 0, vU 0, vU 0, vU 0, vU 0, vU 0, vU 0, vU 0, vU 0]
def Mq3h1k0o57 : Obj := oC 94 [.complex .f32 8 0, vI 2, vI 9, vU 0, vU 30064771073, vI 1]
def Mq3h1k0h93 : List Obj := [Mq3h1k0o4, Mq3h1k0o54, Mq3h1k0o55, Mq3h1k0o10, Mq3h1k0o11, Mq3h1k0o12, oC 146 [vI 0, kf 9], Mq3h1k0o13, Mq3h1k0o56, Mq3h1k0o57, Mq3h1k0o15, Mq3h1k0o19, Mq3h1k0o19, Mq3h1k0o38, oC 32 [vP 13 0], oC 3 [vI 0], oC 3 [vI 9], Mq3h1k0o39, Mq3h1k0o40]
def Mq3h1k0v58 : List Value := [vP 7 0, vP 10 0, vS 11 0 3 3, vP 13 0, vP 18 0, vI 0, vI 5, vI 1, vU 30064771073, vB true, vI 0, vX]
def Mq3h1k0l95 : List Value := Mq3h1k0v2 ++ (Mq3h1k0v58 ++ (Mq3h1k0v6 ++ (Mq3h1k0v21 ++ (Mq3h1k0v22 ++ (Mq3h1k0v30 ++ (Mq3h1k0v41 ++ (Mq3h1k0v45 ++ (Mq3h1k0v49 ++ (Mq3h1k0v52 ++ (Mq3h1k0v53 ++ (Mq3h1k0v1 ++ (Mq3h1k0v1 ++ (Mq3h1k0v1 ++ (Mq3h1k0v1 ++ (Mq3h1k0v1 ++ Mq3h1k0v1)))))))))))))))
def Mq3h1k0h96 : List Obj := [Mq3h1k0o4, Mq3h1k0o54, Mq3h1k0o55, Mq3h1k0o10, Mq3h1k0o11, Mq3h1k0o12, oC 146 [vI 0, kf 9], Mq3h1k0o13, Mq3h1k0o56, Mq3h1k0o57, Mq3h1k0o15, Mq3h1k0o19, Mq3h1k0o19, Mq3h1k0o38, oC 32 [vP 13 0], oC 3 [vI 0], oC 3 [vI 9], Mq3h1k0o39, Mq3h1k0o40]
def Mq3h1k0v59 : List Value := [vP 7 0, vP 10 0, vS 11 0 3 3, vP 13 0, vP 14 0, vI 0, vI 5, vI 1, vU 30064771073, vB true, vI 1, vX]
def Mq3h1k0v60 : List Value := [vP 13 0, vP 7 0, vG [vI 6, vI (-1), kf 24, kf 25], vP 14 0, vI 6, vB false, vB false, vP 14 1, vI (-1), vB false, vB false, vB false]
def Mq3h1k0v61 : List Value := [vP 14 3, kf 25, vP 0 0, kf 9, kf 25, vB false, vB false, vS 11 0 3 3, vI 3, vB true, kf 3, kf 10]
def Mq3h1k0v62 : List Value := [vP 11 0, vI 9, vU 30064771073, vB true, vB false, vI 0, vI 1, vB true, vI 0, vI 1, vS 11 0 3 3, vI 3]
def Mq3h1k0v63 : List Value := [vB true, vB true, kf 5, .int .u8 1, vB false, vB false, vB false, vX, vX, vX, vX, vB false]
def Mq3h1k0v64 : List Value := [vX, vX, vX, vX, vX, vX, vP 13 0, vB false, vB false, vP 13 0, vP 7 0, vG [vI 1, vI 9, vU 30064771073, vU 30064771073]]
def Mq3h1k0v65 : List Value := [vI 1, vB false, vB false, vX, vX, vX, vX, vX, vX, vX, vX, vX]
def Mq3h1k0l104 : List Value := Mq3h1k0v2 ++ (Mq3h1k0v59 ++ (Mq3h1k0v6 ++ (Mq3h1k0v21 ++ (Mq3h1k0v22 ++ (Mq3h1k0v30 ++ (Mq3h1k0v60 ++ (Mq3h1k0v61 ++ (Mq3h1k0v49 ++ (Mq3h1k0v52 ++ (Mq3h1k0v62 ++ (Mq3h1k0v63 ++ (Mq3h1k0v1 ++ (Mq3h1k0v64 ++ (Mq3h1k0v65 ++ (Mq3h1k0v1 ++ Mq3h1k0v1)))))))))))))))
def Mq3h1k0o66 : Obj := oC 111 [.complex .f32 1 0, vI 1, vI 9, vU 30064771073, vU 30064771073, vI 3]
def Mq3h1k0o67 : Obj := oC 85 [kf 9, vI 2, vF 65 [] [vP 21 0, vP 22 0], kf 23, vS 12 0 3 3, vZ, vZ, vI 0, vI 2]
def Mq3h1k0o68 : Obj := oC 166 [kf 9, vI 2, vF 134 [] [vP 18 0, vP 19 0, vP 20 0]]
def Mq3h1k0o69 : Obj := oC 1 [vF 68 [vP 17 0] []]
def Mq3h1k0o70 : Obj := oC 121 [.iface 135 (vP 17 0)]
def Mq3h1k0o71 : Obj := oC 1 [vF 131 [] [vP 16 0, vP 15 0]]
def Mq3h1k0h111 : List Obj := [Mq3h1k0o4, Mq3h1k0o54, Mq3h1k0o66, Mq3h1k0o10, Mq3h1k0o11, Mq3h1k0o12, oC 146 [vI 0, kf 9], Mq3h1k0o13, Mq3h1k0o56, Mq3h1k0o57, Mq3h1k0o15, Mq3h1k0o19, Mq3h1k0o19, Mq3h1k0o67, Mq3h1k0o40, oC 32 [vP 13 0], oC 44 [vI 5], Mq3h1k0o68, oC 3 [vI 2], oC 40 [vU 0], Mq3h1k0o69, Mq3h1k0o70, Mq3h1k0o71]
def Mq3h1k0v72 : List Value := [vP 11 0, vI 9, vU 30064771073, vB true, vB false, vI 1, vI 1, vB false, vI 0, vI 1, vS 11 0 3 3, vI 3]
def Mq3h1k0l113 : List Value := Mq3h1k0v2 ++ (Mq3h1k0v59 ++ (Mq3h1k0v6 ++ (Mq3h1k0v21 ++ (Mq3h1k0v22 ++ (Mq3h1k0v30 ++ (Mq3h1k0v60 ++ (Mq3h1k0v61 ++ (Mq3h1k0v49 ++ (Mq3h1k0v52 ++ (Mq3h1k0v72 ++ (Mq3h1k0v63 ++ (Mq3h1k0v1 ++ (Mq3h1k0v64 ++ (Mq3h1k0v65 ++ (Mq3h1k0v1 ++ Mq3h1k0v1)))))))))))))))
def Mq3h1k0h114 : List Obj := [Mq3h1k0o4, Mq3h1k0o54, Mq3h1k0o66, Mq3h1k0o10, Mq3h1k0o11, Mq3h1k0o12, oC 146 [vI 0, kf 9], Mq3h1k0o13, Mq3h1k0o56, Mq3h1k0o57, Mq3h1k0o15, Mq3h1k0o19, Mq3h1k0o19, Mq3h1k0o67, Mq3h1k0o40, oC 32 [vP 13 0], oC 44 [vI 5], Mq3h1k0o68, oC 3 [vI 2], oC 40 [vU 0], Mq3h1k0o69, Mq3h1k0o70, Mq3h1k0o71]
def Mq3h1k0v73 : List Value := [vI 1, vB false, vB false, vP 13 0, vP 7 0, vG [vI 2, vI 2, vU 2, vU 0], vG [vI 2, vI 2, vU 2, vU 0], vB false, vB false, vP 13 0, vB true, vB false]
def Mq3h1k0v74 : List Value := [vB false, vX, vX, vX, vX, vX, vX, vX, vX, vX, vX, vX]
def Mq3h1k0l117 : List Value := Mq3h1k0v2 ++ (Mq3h1k0v59 ++ (Mq3h1k0v6 ++ (Mq3h1k0v21 ++ (Mq3h1k0v22 ++ (Mq3h1k0v30 ++ (Mq3h1k0v60 ++ (Mq3h1k0v61 ++ (Mq3h1k0v49 ++ (Mq3h1k0v52 ++ (Mq3h1k0v72 ++ (Mq3h1k0v63 ++ (Mq3h1k0v1 ++ (Mq3h1k0v64 ++ (Mq3h1k0v73 ++ (Mq3h1k0v74 ++ Mq3h1k0v1)))))))))))))))
def Mq3h1k0o75 : Obj := oC 111 [.complex .f32 1 0, vI 2, vI 2, vU 2, vU 0, vI 4]
def Mq3h1k0o76 : Obj := oC 85 [kf 9, vI 2, .nilFunc, kf 23, vS 12 0 3 3, vZ, vZ, vI 0, vI 5]
def Mq3h1k0h120 : List Obj := [Mq3h1k0o4, Mq3h1k0o56, Mq3h1k0o75, Mq3h1k0o10, Mq3h1k0o11, Mq3h1k0o12, oC 146 [vI 0, kf 9], Mq3h1k0o13, Mq3h1k0o56, Mq3h1k0o57, Mq3h1k0o15, Mq3h1k0o19, Mq3h1k0o19, Mq3h1k0o76, Mq3h1k0o40]
def Mq3h1k0l121 : List Value := Mq3h1k0v2 ++ (Mq3h1k0v59 ++ (Mq3h1k0v6 ++ (Mq3h1k0v21 ++ (Mq3h1k0v22 ++ (Mq3h1k0v30 ++ (Mq3h1k0v60 ++ (Mq3h1k0v61 ++ (Mq3h1k0v49 ++ (Mq3h1k0v52 ++ (Mq3h1k0v72 ++ (Mq3h1k0v63 ++ (Mq3h1k0v1 ++ (Mq3h1k0v64 ++ (Mq3h1k0v73 ++ (Mq3h1k0v74 ++ Mq3h1k0v1)))))))))))))))
def Mq3h1k0h122 : List Obj := [Mq3h1k0o4, Mq3h1k0o56, Mq3h1k0o75, Mq3h1k0o10, Mq3h1k0o11, Mq3h1k0o12, oC 146 [vI 0, kf 9], Mq3h1k0o13, Mq3h1k0o56, Mq3h1k0o57, Mq3h1k0o15, Mq3h1k0o19, Mq3h1k0o19, Mq3h1k0o76, Mq3h1k0o40]
def Mq3h1k0v77 : List Value := [vX, vI 0, vI 5, kf 1, kf 7, kf 8, kf 9, vG [kf 9, vI 2, vZ], vT [vP 7 0, vP 10 0], vG [kf 9, vI 2, vZ], vT [vP 7 0, vP 10 0], vP 7 0]
def Mq3h1k0v78 : List Value := [vB false, vT [vI 0, vI 5], vP 13 0, vT [vI 0, vI 5], vI 0, vI 5, vX, vX, vX, vX, vX, vX]
def Mq3h1k0l125 : List Value := Mq3h1k0v2 ++ (Mq3h1k0v59 ++ (Mq3h1k0v77 ++ (Mq3h1k0v21 ++ (Mq3h1k0v22 ++ (Mq3h1k0v30 ++ (Mq3h1k0v60 ++ (Mq3h1k0v61 ++ (Mq3h1k0v49 ++ (Mq3h1k0v52 ++ (Mq3h1k0v72 ++ (Mq3h1k0v63 ++ (Mq3h1k0v1 ++ (Mq3h1k0v64 ++ (Mq3h1k0v73 ++ (Mq3h1k0v78 ++ Mq3h1k0v1)))))))))))))))
def Mq3h1k0h126 : List Obj := [Mq3h1k0o4, Mq3h1k0o56, Mq3h1k0o75, Mq3h1k0o10, Mq3h1k0o11, Mq3h1k0o12, oC 146 [vI 0, kf 9], Mq3h1k0o13, Mq3h1k0o56, Mq3h1k0o57, Mq3h1k0o15, Mq3h1k0o19, Mq3h1k0o19, Mq3h1k0o76, Mq3h1k0o40]
def Mq3h1k0v79 : List Value := [kf 1, kf 2, kf 3, kf 5, kf 4, vX, vX, vX, vX, vX, vB true, vP 0 0]
def Mq3h1k0v80 : List Value := [vB false, vT [vI 0, vI 5], vP 13 0, vT [vI 0, vI 5], vI 0, vI 5, vI 0, vB true, vB true, vI 5, vI 5, vB true]
def Mq3h1k0v81 : List Value := [vB true, vB true, vP 7 0, vP 4 0, kf 9, vP 0 0, kf 9, vB true, vB true, vB true, vB true, vB true]
def Mq3h1k0l130 : List Value := Mq3h1k0v79 ++ (Mq3h1k0v59 ++ (Mq3h1k0v77 ++ (Mq3h1k0v21 ++ (Mq3h1k0v22 ++ (Mq3h1k0v30 ++ (Mq3h1k0v60 ++ (Mq3h1k0v61 ++ (Mq3h1k0v49 ++ (Mq3h1k0v52 ++ (Mq3h1k0v72 ++ (Mq3h1k0v63 ++ (Mq3h1k0v1 ++ (Mq3h1k0v64 ++ (Mq3h1k0v73 ++ (Mq3h1k0v80 ++ Mq3h1k0v81)))))))))))))))
def Mq3h1k0h131 : List Obj := [Mq3h1k0o4, Mq3h1k0o56, Mq3h1k0o75, Mq3h1k0o10, Mq3h1k0o11, Mq3h1k0o12, oC 146 [vI 0, kf 9], Mq3h1k0o13, Mq3h1k0o56, Mq3h1k0o57, Mq3h1k0o15, Mq3h1k0o19, Mq3h1k0o19, Mq3h1k0o76, Mq3h1k0o40]
def Mq3h1k0l132 : List Value := Mq3h1k0v79 ++ (Mq3h1k0v59 ++ (Mq3h1k0v77 ++ (Mq3h1k0v21 ++ (Mq3h1k0v22 ++ (Mq3h1k0v30 ++ (Mq3h1k0v60 ++ (Mq3h1k0v61 ++ (Mq3h1k0v49 ++ (Mq3h1k0v52 ++ (Mq3h1k0v72 ++ (Mq3h1k0v63 ++ (Mq3h1k0v1 ++ (Mq3h1k0v64 ++ (Mq3h1k0v73 ++ (Mq3h1k0v80 ++ Mq3h1k0v81)))))))))))))))
def Mq3h1k0h133 : List Obj := [Mq3h1k0o4, Mq3h1k0o56, Mq3h1k0o75, Mq3h1k0o10, Mq3h1k0o11, Mq3h1k0o12, oC 146 [vI 0, kf 9], Mq3h1k0o13, Mq3h1k0o56, Mq3h1k0o57, Mq3h1k0o15, Mq3h1k0o19, Mq3h1k0o19, Mq3h1k0o76, Mq3h1k0o40]
theorem Mq3h1k0p0 {σ : Nat → Value} (hσ : ∀ j, OneC (σ j)) {W0 : World} {H : Nat} (hO : OrcOK Tryz.prog σ W0 H (orcG Mq3h1k0e MqF noMk)) : Seg1 Tryz.prog σ W0 H 0 ([] : List Value).toArray (.code (seqL ((bodyOf Tryz.prog 3)))) { tmps := #[kf 1, kf 2, kf 3, kf 5, kf 4] ++ Array.replicate (204 - 5) undef, defers := [] } (baseWorld 0 []) .normal ([] : List Value).toArray (mkA Mq3h1k0l2) (mkW Mq3h1k0h3) :=
  seg1_ev (O := orcG Mq3h1k0e MqF noMk) (n := 20000) (m := []) hσ hO (by decide +kernel)
theorem Mq3h1k0p1 {σ : Nat → Value} (hσ : ∀ j, OneC (σ j)) {W0 : World} {H : Nat} (hO : OrcOK Tryz.prog σ W0 H (orcG Mq3h1k0e MqF noMk)) : Seg1 Tryz.prog σ W0 H 0 ([] : List Value).toArray (.code (seqL (seqR ((bodyOf Tryz.prog 3))))) (mkA Mq3h1k0l2) (mkW Mq3h1k0h3) .normal ([] : List Value).toArray (mkA Mq3h1k0l6) (mkW Mq3h1k0h8) :=
  seg1_ev (O := orcG Mq3h1k0e MqF noMk) (n := 20000) (m := [0]) hσ hO (by decide +kernel)
theorem Mq3h1k0p2 {σ : Nat → Value} (hσ : ∀ j, OneC (σ j)) {W0 : World} {H : Nat} (hO : OrcOK Tryz.prog σ W0 H (orcG Mq3h1k0e MqF noMk)) : Seg1 Tryz.prog σ W0 H 0 ([] : List Value).toArray (.code (seqL (seqR (seqR ((bodyOf Tryz.prog 3)))))) (mkA Mq3h1k0l6) (mkW Mq3h1k0h8) .normal ([] : List Value).toArray (mkA Mq3h1k0l12) (mkW Mq3h1k0h21) :=
  seg1_ev (O := orcG Mq3h1k0e MqF noMk) (n := 20000) (m := [0, 13, 14, 15, 16, 20, 22, 23, 30, 31, 32]) hσ hO (by decide +kernel)
theorem Mq3h1k0p3 {σ : Nat → Value} (hσ : ∀ j, OneC (σ j)) {W0 : World} {H : Nat} (hO : OrcOK Tryz.prog σ W0 H (orcG Mq3h1k0e MqF noMk)) : Seg1 Tryz.prog σ W0 H 0 ([] : List Value).toArray (.code (seqL (seqL (seqR (seqR (seqR ((bodyOf Tryz.prog 3)))))))) (mkA Mq3h1k0l12) (mkW Mq3h1k0h21) .normal ([] : List Value).toArray (mkA Mq3h1k0l23) (mkW Mq3h1k0h24) :=
  seg1_ev (O := orcG Mq3h1k0e MqF noMk) (n := 20000) (m := [0, 1, 2, 3, 4, 5, 6, 7, 8, 9, 10]) hσ hO (by decide +kernel)
theorem Mq3h1k0p4 {σ : Nat → Value} (hσ : ∀ j, OneC (σ j)) {W0 : World} {H : Nat} (hO : OrcOK Tryz.prog σ W0 H (orcG Mq3h1k0e MqF noMk)) : Seg1 Tryz.prog σ W0 H 0 ([] : List Value).toArray (.code (seqR (seqL (seqR (seqR (seqR ((bodyOf Tryz.prog 3)))))))) (mkA Mq3h1k0l23) (mkW Mq3h1k0h24) .normal ([] : List Value).toArray (mkA Mq3h1k0l25) (mkW Mq3h1k0h26) :=
  seg1_ev (O := orcG Mq3h1k0e MqF noMk) (n := 20000) (m := [0, 1, 2, 3, 4, 5, 6, 7, 8, 9, 10]) hσ hO (by decide +kernel)
theorem Mq3h1k0p5 {σ : Nat → Value} (hσ : ∀ j, OneC (σ j)) {W0 : World} {H : Nat} (hO : OrcOK Tryz.prog σ W0 H (orcG Mq3h1k0e MqF noMk)) : Seg1 Tryz.prog σ W0 H 0 ([] : List Value).toArray (.code (seqL (seqR (seqR (seqR (seqR ((bodyOf Tryz.prog 3)))))))) (mkA Mq3h1k0l25) (mkW Mq3h1k0h26) .normal ([] : List Value).toArray (mkA Mq3h1k0l29) (mkW Mq3h1k0h31) :=
  seg1_ev (O := orcG Mq3h1k0e MqF noMk) (n := 20000) (m := [0, 1, 2, 3, 4, 5, 6, 7, 8, 9, 10, 11]) hσ hO (by decide +kernel)
theorem Mq3h1k0p6 {σ : Nat → Value} (hσ : ∀ j, OneC (σ j)) {W0 : World} {H : Nat} (hO : OrcOK Tryz.prog σ W0 H (orcG Mq3h1k0e MqF noMk)) : Seg1 Tryz.prog σ W0 H 0 ([] : List Value).toArray (.code (seqL (seqR (seqR (seqR (seqR (seqR ((bodyOf Tryz.prog 3))))))))) (mkA Mq3h1k0l29) (mkW Mq3h1k0h31) .normal ([] : List Value).toArray (mkA Mq3h1k0l36) (mkW Mq3h1k0h42) :=
  seg1_ev (O := orcG Mq3h1k0e MqF noMk) (n := 20000) (m := [0, 1, 2, 3, 4, 5, 6, 7, 8, 9, 10, 11, 13, 52, 54, 55, 59, 60, 61, 62, 63, 64, 65, 66]) hσ hO (by decide +kernel)
theorem Mq3h1k0p7 {σ : Nat → Value} (hσ : ∀ j, OneC (σ j)) {W0 : World} {H : Nat} (hO : OrcOK Tryz.prog σ W0 H (orcG Mq3h1k0e MqF noMk)) : Seg1 Tryz.prog σ W0 H 0 ([] : List Value).toArray (.code (seqL (seqL (seqR (seqR (seqR (seqR (seqR (seqR ((bodyOf Tryz.prog 3))))))))))) (mkA Mq3h1k0l36) (mkW Mq3h1k0h42) .normal ([] : List Value).toArray (mkA Mq3h1k0l45) (mkW Mq3h1k0h51) :=
  seg1_ev (O := orcG Mq3h1k0e MqF noMk) (n := 20000) (m := [0, 1, 2, 3, 4, 5, 6, 7, 8, 9, 10, 11, 14, 15, 34, 35, 36]) hσ hO (by decide +kernel)
theorem Mq3h1k0p8 {σ : Nat → Value} (hσ : ∀ j, OneC (σ j)) {W0 : World} {H : Nat} (hO : OrcOK Tryz.prog σ W0 H (orcG Mq3h1k0e MqF noMk)) : Seg1 Tryz.prog σ W0 H 0 ([] : List Value).toArray (.code (seqR (seqL (seqR (seqR (seqR (seqR (seqR (seqR ((bodyOf Tryz.prog 3))))))))))) (mkA Mq3h1k0l45) (mkW Mq3h1k0h51) .normal ([] : List Value).toArray (mkA Mq3h1k0l52) (mkW Mq3h1k0h53) :=
  seg1_ev (O := orcG Mq3h1k0e MqF noMk) (n := 20000) (m := [0, 1, 2, 3, 4, 5, 6, 7, 8, 9, 10, 11, 12, 13, 14, 15, 16]) hσ hO (by decide +kernel)
theorem Mq3h1k0p9 {σ : Nat → Value} (hσ : ∀ j, OneC (σ j)) {W0 : World} {H : Nat} (hO : OrcOK Tryz.prog σ W0 H (orcG Mq3h1k0e MqF noMk)) : Seg1 Tryz.prog σ W0 H 0 ([] : List Value).toArray (.code (seqL (seqR (seqR (seqR (seqR (seqR (seqR (seqR ((bodyOf Tryz.prog 3))))))))))) (mkA Mq3h1k0l52) (mkW Mq3h1k0h53) .normal ([] : List Value).toArray (mkA Mq3h1k0l56) (mkW Mq3h1k0h60) :=
  seg1_ev (O := orcG Mq3h1k0e MqF noMk) (n := 20000) (m := [0, 1, 2, 3, 4, 5, 6, 7, 8, 9, 10, 11, 12, 13, 23, 24, 25, 26, 27]) hσ hO (by decide +kernel)
theorem Mq3h1k0p10 {σ : Nat → Value} (hσ : ∀ j, OneC (σ j)) {W0 : World} {H : Nat} (hO : OrcOK Tryz.prog σ W0 H (orcG Mq3h1k0e MqF noMk)) : Seg1 Tryz.prog σ W0 H 0 ([] : List Value).toArray (.code (seqL (seqL (seqR (seqR (seqR (seqR (seqR (seqR (seqR (seqR ((bodyOf Tryz.prog 3))))))))))))) (mkA Mq3h1k0l56) (mkW Mq3h1k0h60) .normal ([] : List Value).toArray (mkA Mq3h1k0l63) (mkW Mq3h1k0h64) :=
  seg1_ev (O := orcG Mq3h1k0e MqF noMk) (n := 20000) (m := [0, 1, 2, 3, 4, 5, 6, 7, 8, 9, 10, 11, 12, 13, 14, 15, 16, 17, 18]) hσ hO (by decide +kernel)
theorem Mq3h1k0p11 {σ : Nat → Value} (hσ : ∀ j, OneC (σ j)) {W0 : World} {H : Nat} (hO : OrcOK Tryz.prog σ W0 H (orcG Mq3h1k0e MqF noMk)) : Seg1 Tryz.prog σ W0 H 0 ([] : List Value).toArray (.code (seqR (seqL (seqR (seqR (seqR (seqR (seqR (seqR (seqR (seqR ((bodyOf Tryz.prog 3))))))))))))) (mkA Mq3h1k0l63) (mkW Mq3h1k0h64) .normal ([] : List Value).toArray (mkA Mq3h1k0l65) (mkW Mq3h1k0h66) :=
  seg1_ev (O := orcG Mq3h1k0e MqF noMk) (n := 20000) (m := [0, 1, 2, 3, 4, 5, 6, 7, 8, 9, 10, 11, 12, 13, 14, 15, 16, 17, 18]) hσ hO (by decide +kernel)
theorem Mq3h1k0p12 {σ : Nat → Value} (hσ : ∀ j, OneC (σ j)) {W0 : World} {H : Nat} (hO : OrcOK Tryz.prog σ W0 H (orcG Mq3h1k0e MqF noMk)) : Seg1 Tryz.prog σ W0 H 0 ([] : List Value).toArray (.code (seqL (seqR (seqR (seqR (seqR (seqR (seqR (seqR (seqR (seqR ((bodyOf Tryz.prog 3))))))))))))) (mkA Mq3h1k0l65) (mkW Mq3h1k0h66) .normal ([] : List Value).toArray (mkA Mq3h1k0l68) (mkW Mq3h1k0h69) :=
  seg1_ev (O := orcG Mq3h1k0e MqF noMk) (n := 20000) (m := [0, 1, 2, 3, 4, 5, 6, 7, 8, 9, 10, 11, 12, 13, 14, 15, 16, 17, 18]) hσ hO (by decide +kernel)
theorem Mq3h1k0p13 {σ : Nat → Value} (hσ : ∀ j, OneC (σ j)) {W0 : World} {H : Nat} (hO : OrcOK Tryz.prog σ W0 H (orcG Mq3h1k0e MqF noMk)) : Seg1 Tryz.prog σ W0 H 0 ([] : List Value).toArray (.code (seqL (seqL (seqR (seqR (seqR (seqR (seqR (seqR (seqR (seqR (seqR (seqR ((bodyOf Tryz.prog 3))))))))))))))) (mkA Mq3h1k0l68) (mkW Mq3h1k0h69) .normal ([] : List Value).toArray (mkA Mq3h1k0l71) (mkW Mq3h1k0h72) :=
  seg1_ev (O := orcG Mq3h1k0e MqF noMk) (n := 20000) (m := [0, 1, 2, 3, 4, 5, 6, 7, 8, 9, 10, 11, 12, 13, 14, 15, 16, 17, 18]) hσ hO (by decide +kernel)
theorem Mq3h1k0p14 {σ : Nat → Value} (hσ : ∀ j, OneC (σ j)) {W0 : World} {H : Nat} (hO : OrcOK Tryz.prog σ W0 H (orcG Mq3h1k0e MqF noMk)) : Seg1 Tryz.prog σ W0 H 0 ([] : List Value).toArray (.code (seqR (seqL (seqR (seqR (seqR (seqR (seqR (seqR (seqR (seqR (seqR (seqR ((bodyOf Tryz.prog 3))))))))))))))) (mkA Mq3h1k0l71) (mkW Mq3h1k0h72) .normal ([] : List Value).toArray (mkA Mq3h1k0l75) (mkW Mq3h1k0h76) :=
  seg1_ev (O := orcG Mq3h1k0e MqF noMk) (n := 20000) (m := [0, 1, 2, 3, 4, 5, 6, 7, 8, 9, 10, 11, 12, 13, 14, 15, 16, 17, 18]) hσ hO (by decide +kernel)
theorem Mq3h1k0p15 {σ : Nat → Value} (hσ : ∀ j, OneC (σ j)) {W0 : World} {H : Nat} (hO : OrcOK Tryz.prog σ W0 H (orcG Mq3h1k0e MqF noMk)) : Seg1 Tryz.prog σ W0 H 0 ([] : List Value).toArray (.code (seqL (seqR (seqR (seqR (seqR (seqR (seqR (seqR (seqR (seqR (seqR (seqR ((bodyOf Tryz.prog 3))))))))))))))) (mkA Mq3h1k0l75) (mkW Mq3h1k0h76) .normal ([] : List Value).toArray (mkA Mq3h1k0l79) (mkW Mq3h1k0h80) :=
  seg1_ev (O := orcG Mq3h1k0e MqF noMk) (n := 20000) (m := [0, 1, 2, 3, 4, 5, 6, 7, 8, 9, 10, 11, 12, 13, 14, 15, 16, 17, 18]) hσ hO (by decide +kernel)
theorem Mq3h1k0p16 {σ : Nat → Value} (hσ : ∀ j, OneC (σ j)) {W0 : World} {H : Nat} (hO : OrcOK Tryz.prog σ W0 H (orcG Mq3h1k0e MqF noMk)) : Seg1 Tryz.prog σ W0 H 0 ([] : List Value).toArray (.code (seqL (seqL (seqR (seqR (seqR (seqR (seqR (seqR (seqR (seqR (seqR (seqR (seqR (seqR ((bodyOf Tryz.prog 3))))))))))))))))) (mkA Mq3h1k0l79) (mkW Mq3h1k0h80) .normal ([] : List Value).toArray (mkA Mq3h1k0l83) (mkW Mq3h1k0h84) :=
  seg1_ev (O := orcG Mq3h1k0e MqF noMk) (n := 20000) (m := [0, 1, 2, 3, 4, 5, 6, 7, 8, 9, 10, 11, 12, 13, 14, 15, 16, 17, 18]) hσ hO (by decide +kernel)
theorem Mq3h1k0p17 {σ : Nat → Value} (hσ : ∀ j, OneC (σ j)) {W0 : World} {H : Nat} (hO : OrcOK Tryz.prog σ W0 H (orcG Mq3h1k0e MqF noMk)) : Seg1 Tryz.prog σ W0 H 0 ([] : List Value).toArray (.code (seqR (seqL (seqR (seqR (seqR (seqR (seqR (seqR (seqR (seqR (seqR (seqR (seqR (seqR ((bodyOf Tryz.prog 3))))))))))))))))) (mkA Mq3h1k0l83) (mkW Mq3h1k0h84) .normal ([] : List Value).toArray (mkA Mq3h1k0l88) (mkW Mq3h1k0h93) :=
  seg1_ev (O := orcG Mq3h1k0e MqF noMk) (n := 20000) (m := [0, 1, 2, 3, 4, 5, 6, 7, 8, 9, 10, 11, 12, 13, 14, 15, 16, 17, 18]) hσ hO (by decide +kernel)
theorem Mq3h1k0p18 {σ : Nat → Value} (hσ : ∀ j, OneC (σ j)) {W0 : World} {H : Nat} (hO : OrcOK Tryz.prog σ W0 H (orcG Mq3h1k0e MqF noMk)) : Seg1 Tryz.prog σ W0 H 0 ([] : List Value).toArray (.code (seqL (seqL (seqR (seqR (seqR (seqR (seqR (seqR (seqR (seqR (seqR (seqR (seqR (seqR (seqR ((bodyOf Tryz.prog 3)))))))))))))))))) (mkA Mq3h1k0l88) (mkW Mq3h1k0h93) .normal ([] : List Value).toArray (mkA Mq3h1k0l95) (mkW Mq3h1k0h96) :=
  seg1_ev (O := orcG Mq3h1k0e MqF noMk) (n := 20000) (m := [0, 1, 2, 3, 4, 5, 6, 7, 8, 9, 10, 11, 12, 13, 14, 15, 16, 17, 18]) hσ hO (by decide +kernel)
theorem Mq3h1k0p19 {σ : Nat → Value} (hσ : ∀ j, OneC (σ j)) {W0 : World} {H : Nat} (hO : OrcOK Tryz.prog σ W0 H (orcG Mq3h1k0e MqF noMk)) : Seg1 Tryz.prog σ W0 H 0 ([] : List Value).toArray (.code (inL (inB (seqR (seqL (seqR (seqR (seqR (seqR (seqR (seqR (seqR (seqR (seqR (seqR (seqR (seqR (seqR ((bodyOf Tryz.prog 3)))))))))))))))))))) (mkA Mq3h1k0l95) (mkW Mq3h1k0h96) .normal ([] : List Value).toArray (mkA Mq3h1k0l104) (mkW Mq3h1k0h111) :=
  seg1_ev (O := orcG Mq3h1k0e MqF noMk) (n := 20000) (m := [0, 1, 2, 3, 4, 5, 6, 7, 8, 9, 10, 11, 12, 13, 18, 23, 24, 27, 28, 29, 30, 31, 32]) hσ hO (by decide +kernel)
theorem Mq3h1k0p20 {σ : Nat → Value} (hσ : ∀ j, OneC (σ j)) {W0 : World} {H : Nat} (hO : OrcOK Tryz.prog σ W0 H (orcG Mq3h1k0e MqF noMk)) : Seg1 Tryz.prog σ W0 H 0 ([] : List Value).toArray (.code (inL (inB (seqR (seqL (seqR (seqR (seqR (seqR (seqR (seqR (seqR (seqR (seqR (seqR (seqR (seqR (seqR ((bodyOf Tryz.prog 3)))))))))))))))))))) (mkA Mq3h1k0l104) (mkW Mq3h1k0h111) (.exit 0) ([] : List Value).toArray (mkA Mq3h1k0l113) (mkW Mq3h1k0h114) :=
  seg1_ev (O := orcG Mq3h1k0e MqF noMk) (n := 20000) (m := [0, 1, 2, 3, 4, 5, 6, 7, 8, 9, 10, 11, 12, 13, 14, 15, 16, 17, 18, 19, 20, 21, 22]) hσ hO (by decide +kernel)
theorem Mq3h1k0p21 {σ : Nat → Value} (hσ : ∀ j, OneC (σ j)) {W0 : World} {H : Nat} (hO : OrcOK Tryz.prog σ W0 H (orcG Mq3h1k0e MqF noMk)) : Seg1 Tryz.prog σ W0 H 0 ([] : List Value).toArray (.code (seqL (seqL (seqR (seqR (seqR (seqR (seqR (seqR (seqR (seqR (seqR (seqR (seqR (seqR (seqR (seqR ((bodyOf Tryz.prog 3))))))))))))))))))) (mkA Mq3h1k0l113) (mkW Mq3h1k0h114) .normal ([] : List Value).toArray (mkA Mq3h1k0l117) (mkW Mq3h1k0h120) :=
  seg1_ev (O := orcG Mq3h1k0e MqF noMk) (n := 20000) (m := [0, 1, 2, 3, 4, 5, 6, 7, 8, 9, 10, 11, 12, 13, 14]) hσ hO (by decide +kernel)
theorem Mq3h1k0p22 {σ : Nat → Value} (hσ : ∀ j, OneC (σ j)) {W0 : World} {H : Nat} (hO : OrcOK Tryz.prog σ W0 H (orcG Mq3h1k0e MqF noMk)) : Seg1 Tryz.prog σ W0 H 0 ([] : List Value).toArray (.code (seqR (seqL (seqR (seqR (seqR (seqR (seqR (seqR (seqR (seqR (seqR (seqR (seqR (seqR (seqR (seqR ((bodyOf Tryz.prog 3))))))))))))))))))) (mkA Mq3h1k0l117) (mkW Mq3h1k0h120) .normal ([] : List Value).toArray (mkA Mq3h1k0l121) (mkW Mq3h1k0h122) :=
  seg1_ev (O := orcG Mq3h1k0e MqF noMk) (n := 20000) (m := [0, 1, 2, 3, 4, 5, 6, 7, 8, 9, 10, 11, 12, 13, 14]) hσ hO (by decide +kernel)
theorem Mq3h1k0p23 {σ : Nat → Value} (hσ : ∀ j, OneC (σ j)) {W0 : World} {H : Nat} (hO : OrcOK Tryz.prog σ W0 H (orcG Mq3h1k0e MqF noMk)) : Seg1 Tryz.prog σ W0 H 0 ([] : List Value).toArray (.code (seqL (seqR (seqR (seqR (seqR (seqR (seqR (seqR (seqR (seqR (seqR (seqR (seqR (seqR (seqR (seqR ((bodyOf Tryz.prog 3))))))))))))))))))) (mkA Mq3h1k0l121) (mkW Mq3h1k0h122) .normal ([] : List Value).toArray (mkA Mq3h1k0l125) (mkW Mq3h1k0h126) :=
  seg1_ev (O := orcG Mq3h1k0e MqF noMk) (n := 20000) (m := [0, 1, 2, 3, 4, 5, 6, 7, 8, 9, 10, 11, 12, 13, 14]) hσ hO (by decide +kernel)
theorem Mq3h1k0p24 {σ : Nat → Value} (hσ : ∀ j, OneC (σ j)) {W0 : World} {H : Nat} (hO : OrcOK Tryz.prog σ W0 H (orcG Mq3h1k0e MqF noMk)) : Seg1 Tryz.prog σ W0 H 0 ([] : List Value).toArray (.code (seqL (seqR (seqR (seqR (seqR (seqR (seqR (seqR (seqR (seqR (seqR (seqR (seqR (seqR (seqR (seqR (seqR ((bodyOf Tryz.prog 3)))))))))))))))))))) (mkA Mq3h1k0l125) (mkW Mq3h1k0h126) .normal ([] : List Value).toArray (mkA Mq3h1k0l130) (mkW Mq3h1k0h131) :=
  seg1_ev (O := orcG Mq3h1k0e MqF noMk) (n := 20000) (m := [0, 1, 2, 3, 4, 5, 6, 7, 8, 9, 10, 11, 12, 13, 14]) hσ hO (by decide +kernel)
theorem Mq3h1k0p25 {σ : Nat → Value} (hσ : ∀ j, OneC (σ j)) {W0 : World} {H : Nat} (hO : OrcOK Tryz.prog σ W0 H (orcG Mq3h1k0e MqF noMk)) : Seg1 Tryz.prog σ W0 H 0 ([] : List Value).toArray (.code (seqR (seqR (seqR (seqR (seqR (seqR (seqR (seqR (seqR (seqR (seqR (seqR (seqR (seqR (seqR (seqR (seqR ((bodyOf Tryz.prog 3)))))))))))))))))))) (mkA Mq3h1k0l130) (mkW Mq3h1k0h131) .ret ([] : List Value).toArray (mkA Mq3h1k0l132) (mkW Mq3h1k0h133) :=
  seg1_ev (O := orcG Mq3h1k0e MqF noMk) (n := 20000) (m := [0, 1, 2, 3, 4, 5, 6, 7, 8, 9, 10, 11, 12, 13, 14]) hσ hO (by decide +kernel)
set_option maxHeartbeats 1000000 in
theorem Mq3h1k0_any (pg n wh hw mn r q : Int) (w : World) (hpg : 0 ≤ pg ∧ pg < 256) (hn : 0 ≤ n ∧ n < 65536) (hwh : 0 ≤ wh ∧ wh < 256) (hmn : 0 ≤ mn ∧ mn < 256) (hhw : 0 ≤ hw ∧ hw < 256) (hr : Int.tmod pg 30 = r) (hr2 : 0 ≤ r ∧ r < 30) (hq : Int.tmod n (4096 - (1 + r)) = q) (hq2 : 0 ≤ q ∧ q < 4096 - (1 + r)) (hm : Int.tmod mn 4 = 3) (hk : Int.tmod wh 3 = 0) (hh : Int.tmod hw 3 = 1) : Calls Tryz.prog 3 #[.int .u8 pg, .int .u16 n, .int .u8 wh, .int .u8 hw, .int .u8 mn] w fun e w' => e = .returned (.bool true) ∧ Ext w w' := by
  have hE : AllOK Tryz.prog (sgV [.int .i64 (96 + 6 * (1 + r) + 2), .int .u8 pg, .int .u16 n, .int .u8 wh, .int .u8 mn, .int .u8 hw, .int .i64 mn, .int .i64 pg, .int .i64 r, .int .i64 (1 + r), .int .i64 wh, .int .i64 (5 * (1 + r)), .int .i64 (96 + (5 * (1 + r))), .int .i64 ((96 + (5 * (1 + r))) + (1 + r)), .int .i64 ((1 + r) + 64), .int .i64 (((1 + r) + 64) - 1), .int .i64 (((96 + (5 * (1 + r))) + (1 + r)) + 1), .int .i64 (8192 * (1 + r)), .int .i64 (6 * (1 + r)), .int .i64 ((1 + r) + 1), .int .i64 n, .int .i64 (4096 - (1 + r)), .int .i64 q, .int .i64 (((1 + r) + 1) + q), .int .u64 (((1 + r) + 1) + q), .int .u64 (1 + r)]) Mq3h1k0e := AllOK.cons (ent_conv Tryz.underlying5 Tryz.underlying3 rfl (by exact congrArg (Value.int .i64) (i64_in mn (by omega)).symm) rfl) (
    AllOK.cons (ent_rem (a := mn) (c := 4) rfl rfl (by omega) (by exact congrArg (Value.int .i64) hm.symm) rfl) (
    AllOK.cons (ent_conv Tryz.underlying5 Tryz.underlying3 rfl (by exact congrArg (Value.int .i64) (i64_in pg (by omega)).symm) rfl) (
    AllOK.cons (ent_rem (a := pg) (c := 30) rfl rfl (by omega) (by exact congrArg (Value.int .i64) hr.symm) rfl) (
    AllOK.cons (ent_add (a := 1) (c := r) rfl rfl (by exact congrArg (Value.int .i64) (i64_in _ (by omega)).symm) rfl) (
    AllOK.cons (ent_conv Tryz.underlying5 Tryz.underlying3 rfl (by exact congrArg (Value.int .i64) (i64_in wh (by omega)).symm) rfl) (
    AllOK.cons (ent_rem (a := wh) (c := 3) rfl rfl (by omega) (by exact congrArg (Value.int .i64) hk.symm) rfl) (
    AllOK.cons (ent_rem (a := hw) (c := 3) rfl rfl (by omega) (by exact congrArg (Value.int .u8) hh.symm) rfl) (
    AllOK.cons (ent_cmp (op := .geq) (a := 1 + r) (c := 1) rfl rfl (decide_eq_true (by omega)).symm) (
    AllOK.cons (ent_cmp (op := .leq) (a := 1 + r) (c := 4096) rfl rfl (decide_eq_true (by omega)).symm) (
    AllOK.cons (ent_mul (a := 5) (c := 1 + r) rfl rfl (by exact congrArg (Value.int .i64) ((i64_in (5 * (1 + r)) (by omega)).trans (show (5 * (1 + r) : Int) = 5 * (1 + r) by omega)).symm) rfl) (
    AllOK.cons (ent_add (a := 96) (c := 5 * (1 + r)) rfl rfl (by exact congrArg (Value.int .i64) ((i64_in (96 + (5 * (1 + r))) (by omega)).trans (show (96 + (5 * (1 + r)) : Int) = 96 + (5 * (1 + r)) by omega)).symm) rfl) (
    AllOK.cons (ent_add (a := 96 + (5 * (1 + r))) (c := 1 + r) rfl rfl (by exact congrArg (Value.int .i64) ((i64_in ((96 + (5 * (1 + r))) + (1 + r)) (by omega)).trans (show ((96 + (5 * (1 + r))) + (1 + r) : Int) = (96 + (5 * (1 + r))) + (1 + r) by omega)).symm) rfl) (
    AllOK.cons (ent_add (a := 1 + r) (c := 64) rfl rfl (by exact congrArg (Value.int .i64) ((i64_in ((1 + r) + 64) (by omega)).trans (show ((1 + r) + 64 : Int) = (1 + r) + 64 by omega)).symm) rfl) (
    AllOK.cons (ent_sub (a := (1 + r) + 64) (c := 1) rfl rfl (by exact congrArg (Value.int .i64) ((i64_in (((1 + r) + 64) - 1) (by omega)).trans (show (((1 + r) + 64) - 1 : Int) = ((1 + r) + 64) - 1 by omega)).symm) rfl) (
    AllOK.cons (ent_quo (a := ((1 + r) + 64) - 1) (c := 64) rfl rfl (by omega) (by exact congrArg (Value.int .i64) (quoC (a := ((1 + r) + 64) - 1) (c := 64) (q := 1) (by omega) (by omega) (by omega) (by omega) (by omega)).symm) rfl) (
    AllOK.cons (ent_add (a := (96 + (5 * (1 + r))) + (1 + r)) (c := 1) rfl rfl (by exact congrArg (Value.int .i64) ((i64_in (((96 + (5 * (1 + r))) + (1 + r)) + 1) (by omega)).trans (show (((96 + (5 * (1 + r))) + (1 + r)) + 1 : Int) = ((96 + (5 * (1 + r))) + (1 + r)) + 1 by omega)).symm) rfl) (
    AllOK.cons (ent_add (a := ((96 + (5 * (1 + r))) + (1 + r)) + 1) (c := 1) rfl rfl (by exact congrArg (Value.int .i64) ((i64_in ((((96 + (5 * (1 + r))) + (1 + r)) + 1) + 1) (by omega)).trans (show ((((96 + (5 * (1 + r))) + (1 + r)) + 1) + 1 : Int) = 96 + 6 * (1 + r) + 2 by omega)).symm) rfl) (
    AllOK.cons (ent_cmp (op := .lss) (a := 96 + 6 * (1 + r) + 2) (c := 1) rfl rfl (decide_eq_false (by omega)).symm) (
    AllOK.cons (ent_cmp (op := .gtr) (a := 96 + 6 * (1 + r) + 2) (c := 65536) rfl rfl (decide_eq_false (by omega)).symm) (
    AllOK.cons (ent_cmp (op := .geq) (a := 0) (c := 96 + 6 * (1 + r) + 2) rfl rfl (decide_eq_false (by omega)).symm) (
    AllOK.cons (ent_cmp (op := .lss) (a := 1 + r) (c := 1) rfl rfl (decide_eq_false (by omega)).symm) (
    AllOK.cons (ent_cmp (op := .gtr) (a := 1 + r) (c := 4096) rfl rfl (decide_eq_false (by omega)).symm) (
    AllOK.cons (ent_mul (a := 8192) (c := 1 + r) rfl rfl (by exact congrArg (Value.int .i64) ((i64_in (8192 * (1 + r)) (by omega)).trans (show (8192 * (1 + r) : Int) = 8192 * (1 + r) by omega)).symm) rfl) (
    AllOK.cons (ent_add (a := 8192 * (1 + r)) (c := 0) rfl rfl (by exact congrArg (Value.int .i64) ((i64_in ((8192 * (1 + r)) + 0) (by omega)).trans (show ((8192 * (1 + r)) + 0 : Int) = 8192 * (1 + r) by omega)).symm) rfl) (
    AllOK.cons (ent_add (a := 0) (c := 1 + r) rfl rfl (by exact congrArg (Value.int .i64) ((i64_in (0 + (1 + r)) (by omega)).trans (show (0 + (1 + r) : Int) = 1 + r by omega)).symm) rfl) (
    AllOK.cons (ent_mul (a := 6) (c := 1 + r) rfl rfl (by exact congrArg (Value.int .i64) ((i64_in (6 * (1 + r)) (by omega)).trans (show (6 * (1 + r) : Int) = 6 * (1 + r) by omega)).symm) rfl) (
    AllOK.cons (ent_add (a := 96) (c := 6 * (1 + r)) rfl rfl (by exact congrArg (Value.int .i64) ((i64_in (96 + (6 * (1 + r))) (by omega)).trans (show (96 + (6 * (1 + r)) : Int) = (96 + (5 * (1 + r))) + (1 + r) by omega)).symm) rfl) (
    AllOK.cons (ent_add (a := 1 + r) (c := 63) rfl rfl (by exact congrArg (Value.int .i64) ((i64_in ((1 + r) + 63) (by omega)).trans (show ((1 + r) + 63 : Int) = ((1 + r) + 64) - 1 by omega)).symm) rfl) (
    AllOK.cons (ent_add (a := (96 + (5 * (1 + r))) + (1 + r)) (c := 2) rfl rfl (by exact congrArg (Value.int .i64) ((i64_in (((96 + (5 * (1 + r))) + (1 + r)) + 2) (by omega)).trans (show (((96 + (5 * (1 + r))) + (1 + r)) + 2 : Int) = 96 + 6 * (1 + r) + 2 by omega)).symm) rfl) (
    AllOK.cons (ent_add (a := 1 + r) (c := 1) rfl rfl (by exact congrArg (Value.int .i64) ((i64_in ((1 + r) + 1) (by omega)).trans (show ((1 + r) + 1 : Int) = (1 + r) + 1 by omega)).symm) rfl) (
    AllOK.cons (ent_conv Tryz.underlying22 Tryz.underlying3 rfl (by exact congrArg (Value.int .i64) ((i64_in n (by omega)).trans (show (n : Int) = n by omega)).symm) rfl) (
    AllOK.cons (ent_sub (a := 4096) (c := 1 + r) rfl rfl (by exact congrArg (Value.int .i64) ((i64_in (4096 - (1 + r)) (by omega)).trans (show (4096 - (1 + r) : Int) = 4096 - (1 + r) by omega)).symm) rfl) (
    AllOK.cons (ent_rem (a := n) (c := 4096 - (1 + r)) rfl rfl (by omega) (by exact congrArg (Value.int .i64) hq.symm) rfl) (
    AllOK.cons (ent_add (a := (1 + r) + 1) (c := q) rfl rfl (by exact congrArg (Value.int .i64) ((i64_in (((1 + r) + 1) + q) (by omega)).trans (show (((1 + r) + 1) + q : Int) = ((1 + r) + 1) + q by omega)).symm) rfl) (
    AllOK.cons (ent_cmp (op := .lss) (a := ((1 + r) + 1) + q) (c := 1) rfl rfl (decide_eq_false (by omega)).symm) (
    AllOK.cons (ent_cmp (op := .gtr) (a := ((1 + r) + 1) + q) (c := 4096) rfl rfl (decide_eq_false (by omega)).symm) (
    AllOK.cons (ent_cmp (op := .lss) (a := 9) (c := 96 + 6 * (1 + r) + 2) rfl rfl (decide_eq_true (by omega)).symm) (
    AllOK.cons (ent_cmp (op := .lss) (a := 10) (c := 96 + 6 * (1 + r) + 2) rfl rfl (decide_eq_true (by omega)).symm) (
    AllOK.cons (ent_cmp (op := .lss) (a := 14) (c := 96 + 6 * (1 + r) + 2) rfl rfl (decide_eq_true (by omega)).symm) (
    AllOK.cons (lay_same (P := 1 + r) (T := 2) rfl) (
    AllOK.cons (ent_cmp (op := .geq) (a := 2) (c := 96 + 6 * (1 + r) + 2) rfl rfl (decide_eq_false (by omega)).symm) (
    AllOK.cons (ent_cmp (op := .gtr) (a := ((1 + r) + 1) + q) (c := 1 + r) rfl rfl (decide_eq_true (by omega)).symm) (
    AllOK.cons (ent_conv Tryz.underlying3 Tryz.underlying40 rfl (by exact congrArg (Value.int .u64) ((u64_in (((1 + r) + 1) + q) (by omega)).trans (show (((1 + r) + 1) + q : Int) = ((1 + r) + 1) + q by omega)).symm) rfl) (
    AllOK.cons (ent_conv Tryz.underlying3 Tryz.underlying40 rfl (by exact congrArg (Value.int .u64) ((u64_in (1 + r) (by omega)).trans (show (1 + r : Int) = 1 + r by omega)).symm) rfl) (
    AllOK.cons (ent_cmp (op := .neq) (a := 1 + r) (c := 1 + r) rfl rfl (by simp)) (
    AllOK.cons (ent_cmp (op := .geq) (a := 9) (c := 96 + 6 * (1 + r) + 2) rfl rfl (decide_eq_false (by omega)).symm) (
    AllOK.cons (ent_cmp (op := .eql) (a := 1 + r) (c := 1 + r) rfl rfl (by simp)) (
    AllOK.nil))))))))))))))))))))))))))))))))))))))))))))))))
  exact key_Mq rfl (seg_tokG (P := Tryz.prog) (l := [.int .i64 (96 + 6 * (1 + r) + 2), .int .u8 pg, .int .u16 n, .int .u8 wh, .int .u8 mn, .int .u8 hw, .int .i64 mn, .int .i64 pg, .int .i64 r, .int .i64 (1 + r), .int .i64 wh, .int .i64 (5 * (1 + r)), .int .i64 (96 + (5 * (1 + r))), .int .i64 ((96 + (5 * (1 + r))) + (1 + r)), .int .i64 ((1 + r) + 64), .int .i64 (((1 + r) + 64) - 1), .int .i64 (((96 + (5 * (1 + r))) + (1 + r)) + 1), .int .i64 (8192 * (1 + r)), .int .i64 (6 * (1 + r)), .int .i64 ((1 + r) + 1), .int .i64 n, .int .i64 (4096 - (1 + r)), .int .i64 q, .int .i64 (((1 + r) + 1) + q), .int .u64 (((1 + r) + 1) + q), .int .u64 (1 + r)]) (TokL.int (TokL.int (TokL.int (TokL.int (TokL.int (TokL.int (TokL.int (TokL.int (TokL.int (TokL.int (TokL.int (TokL.int (TokL.int (TokL.int (TokL.int (TokL.int (TokL.int (TokL.int (TokL.int (TokL.int (TokL.int (TokL.int (TokL.int (TokL.int (TokL.int (TokL.int TokL.nil)))))))))))))))))))))))))) (es := Mq3h1k0e) (fs := MqF) (w := w) hE (MqF_ok (r := r) rfl hr2 w) (L := 96 + 6 * (1 + r) + 2) rfl (by omega) (by omega) (G := 0) (tabs := []) (Nat.zero_le _) (tabR_nil w) (f := 3) (args := #[kf 1, kf 2, kf 3, kf 5, kf 4]) (v := .bool true) Tryz.func3 rfl rfl (by decide +kernel)
    (fun hσ hO => (show Seg1 _ _ _ _ _ #[] (.code (bodyOf Tryz.prog 3)) _ _ .ret #[] (mkA Mq3h1k0l132) (mkW Mq3h1k0h133) from (Seg1.seqP (by rfl) (Mq3h1k0p0 hσ hO) (Seg1.seqP (by rfl) (Mq3h1k0p1 hσ hO) (Seg1.seqP (by rfl) (Mq3h1k0p2 hσ hO) (Seg1.seqP (by rfl) (Seg1.seqP (by rfl) (Mq3h1k0p3 hσ hO) (Mq3h1k0p4 hσ hO)) (Seg1.seqP (by rfl) (Mq3h1k0p5 hσ hO) (Seg1.seqP (by rfl) (Mq3h1k0p6 hσ hO) (Seg1.seqP (by rfl) (Seg1.seqP (by rfl) (Mq3h1k0p7 hσ hO) (Mq3h1k0p8 hσ hO)) (Seg1.seqP (by rfl) (Mq3h1k0p9 hσ hO) (Seg1.seqP (by rfl) (Seg1.seqP (by rfl) (Mq3h1k0p10 hσ hO) (Mq3h1k0p11 hσ hO)) (Seg1.seqP (by rfl) (Mq3h1k0p12 hσ hO) (Seg1.seqP (by rfl) (Seg1.seqP (by rfl) (Mq3h1k0p13 hσ hO) (Mq3h1k0p14 hσ hO)) (Seg1.seqP (by rfl) (Mq3h1k0p15 hσ hO) (Seg1.seqP (by rfl) (Seg1.seqP (by rfl) (Mq3h1k0p16 hσ hO) (Mq3h1k0p17 hσ hO)) (Seg1.seqP (by rfl) (Seg1.seqP (by rfl) (Mq3h1k0p18 hσ hO) (Seg1.loopP (by rfl) (Seg1.loopNext (Mq3h1k0p19 hσ hO) (Seg1.loopExit (Mq3h1k0p20 hσ hO))))) (Seg1.seqP (by rfl) (Seg1.seqP (by rfl) (Mq3h1k0p21 hσ hO) (Mq3h1k0p22 hσ hO)) (Seg1.seqP (by rfl) (Mq3h1k0p23 hσ hO) (Seg1.seqP (by rfl) (Mq3h1k0p24 hσ hO) (Mq3h1k0p25 hσ hO)))))))))))))))))))) (by first | exact .inl rfl | exact .inr rfl) (retTrue_eq (by decide +kernel)))
end Go.Proofs.YthggcmhmjkmjnaaGreat
