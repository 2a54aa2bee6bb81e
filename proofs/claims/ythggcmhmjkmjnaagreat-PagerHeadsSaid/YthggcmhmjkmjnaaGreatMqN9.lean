/- PagerHeads: more of the runs, in pieces (printed by gen_ph.py, split_ph2.py). -/
import Derived.Test.YthggcmhmjkmjnaaGreatMqB
import Derived.Test.YthggcmhmjkmjnaaGreatRefl23
namespace Go.Proofs.YthggcmhmjkmjnaaGreat
open Go.RowKit Go.IntWalk
set_option linter.unusedVariables false
set_option linter.unusedSimpArgs false
set_option maxRecDepth 100000
def Mq2h2k1e : List Ent := [⟨.conv 5 3, [kf 4], kf 6⟩,
  ⟨.bin .rem 3, [kf 6, vI 4], vI 2⟩,
  ⟨.conv 5 3, [kf 1], kf 7⟩,
  ⟨.bin .rem 3, [kf 7, vI 30], kf 8⟩,
  ⟨.bin .add 3, [vI 1, kf 8], kf 9⟩,
  ⟨.conv 5 3, [kf 3], kf 10⟩,
  ⟨.bin .rem 3, [kf 10, vI 2], vI 1⟩,
  ⟨.bin .rem 5, [kf 5, .int .u8 3], .int .u8 2⟩,
  ⟨.bin .geq 3, [kf 9, vI 1], .bool true⟩,
  ⟨.bin .leq 3, [kf 9, vI 4096], .bool true⟩,
  ⟨.bin .mul 3, [vI 5, kf 9], kf 11⟩,
  ⟨.bin .add 3, [vI 96, kf 11], kf 12⟩,
  ⟨.bin .add 3, [kf 12, kf 9], kf 13⟩,
  ⟨.bin .add 3, [kf 9, vI 64], kf 14⟩,
  ⟨.bin .sub 3, [kf 14, vI 1], kf 15⟩,
  ⟨.bin .quo 3, [kf 15, vI 64], vI 1⟩,
  ⟨.bin .add 3, [kf 13, vI 1], kf 16⟩,
  ⟨.bin .add 3, [kf 16, vI 1], kf 0⟩,
  ⟨.bin .lss 3, [kf 0, vI 1], .bool false⟩,
  ⟨.bin .gtr 3, [kf 0, vI 65536], .bool false⟩,
  ⟨.bin .geq 3, [vI 0, kf 0], .bool false⟩,
  ⟨.bin .lss 3, [kf 9, vI 1], .bool false⟩,
  ⟨.bin .gtr 3, [kf 9, vI 4096], .bool false⟩,
  ⟨.bin .mul 3, [vI 8192, kf 9], kf 17⟩,
  ⟨.bin .add 3, [kf 17, vI 0], kf 17⟩,
  ⟨.bin .add 3, [vI 0, kf 9], kf 9⟩,
  ⟨.bin .mul 3, [vI 6, kf 9], kf 18⟩,
  ⟨.bin .add 3, [vI 96, kf 18], kf 13⟩,
  ⟨.bin .add 3, [kf 9, vI 63], kf 15⟩,
  ⟨.bin .add 3, [kf 13, vI 2], kf 0⟩,
  ⟨.bin .add 3, [kf 9, vI 1], kf 19⟩,
  ⟨.conv 22 3, [kf 2], kf 20⟩,
  ⟨.bin .sub 3, [vI 4096, kf 9], kf 21⟩,
  ⟨.bin .rem 3, [kf 20, kf 21], kf 22⟩,
  ⟨.bin .add 3, [kf 19, kf 22], kf 23⟩,
  ⟨.bin .lss 3, [kf 23, vI 1], .bool false⟩,
  ⟨.bin .gtr 3, [kf 23, vI 4096], .bool false⟩,
  ⟨.bin .lss 3, [vI 9, kf 0], .bool true⟩,
  ⟨.bin .lss 3, [vI 10, kf 0], .bool true⟩,
  ⟨.bin .neq 37, [vG [kf 9, vI 2], vG [kf 9, vI 2]], .bool false⟩,
  ⟨.bin .geq 3, [vI 2, kf 0], .bool false⟩,
  ⟨.bin .gtr 3, [kf 23, kf 9], .bool true⟩,
  ⟨.conv 3 40, [kf 23], kf 24⟩,
  ⟨.conv 3 40, [kf 9], kf 25⟩,
  ⟨.bin .neq 40, [kf 25, kf 25], .bool false⟩,
  ⟨.bin .geq 3, [vI 9, kf 0], .bool false⟩,
  ⟨.bin .geq 3, [vI 10, kf 0], .bool false⟩,
  ⟨.bin .eql 3, [kf 9, kf 9], .bool true⟩]
def Mq2h2k1v0 : List Value := [kf 1, kf 2, kf 3, kf 5, kf 4, vX, vX, vX, vX, vX, vB false, vX]
def Mq2h2k1v1 : List Value := [vX, vX, vX, vX, vX, vX, vX, vX, vX, vX, vX, vX]
def Mq2h2k1l2 : List Value := Mq2h2k1v0 ++ (Mq2h2k1v1 ++ (Mq2h2k1v1 ++ (Mq2h2k1v1 ++ (Mq2h2k1v1 ++ (Mq2h2k1v1 ++ (Mq2h2k1v1 ++ (Mq2h2k1v1 ++ (Mq2h2k1v1 ++ (Mq2h2k1v1 ++ (Mq2h2k1v1 ++ (Mq2h2k1v1 ++ (Mq2h2k1v1 ++ (Mq2h2k1v1 ++ (Mq2h2k1v1 ++ (Mq2h2k1v1 ++ Mq2h2k1v1)))))))))))))))
def Mq2h2k1h3 : List Obj := []
def Mq2h2k1v2 : List Value := [kf 1, kf 2, kf 3, kf 5, kf 4, vX, vX, vX, vX, vX, vB false, vP 0 0]
def Mq2h2k1v3 : List Value := [vX, vX, vX, kf 1, kf 7, kf 8, kf 9, vG [kf 9, vI 2, vZ], vX, vX, vX, vX]
def Mq2h2k1l6 : List Value := Mq2h2k1v2 ++ (Mq2h2k1v1 ++ (Mq2h2k1v3 ++ (Mq2h2k1v1 ++ (Mq2h2k1v1 ++ (Mq2h2k1v1 ++ (Mq2h2k1v1 ++ (Mq2h2k1v1 ++ (Mq2h2k1v1 ++ (Mq2h2k1v1 ++ (Mq2h2k1v1 ++ (Mq2h2k1v1 ++ (Mq2h2k1v1 ++ (Mq2h2k1v1 ++ (Mq2h2k1v1 ++ (Mq2h2k1v1 ++ Mq2h2k1v1)))))))))))))))
def Mq2h2k1o4 : Obj := oC 25 [kf 9, vI 2, vZ]
def Mq2h2k1h8 : List Obj := [Mq2h2k1o4]
def Mq2h2k1v5 : List Value := [vP 7 0, vP 10 0, vX, vX, vX, vX, vX, vX, vX, vX, vX, vX]
def Mq2h2k1v6 : List Value := [vX, vX, vX, kf 1, kf 7, kf 8, kf 9, vG [kf 9, vI 2, vZ], vT [vP 7 0, vP 10 0], vG [kf 9, vI 2, vZ], vT [vP 7 0, vP 10 0], vP 7 0]
def Mq2h2k1v7 : List Value := [vP 10 0, vX, vX, vX, vX, vX, vX, vX, vX, vX, vX, vX]
def Mq2h2k1l12 : List Value := Mq2h2k1v2 ++ (Mq2h2k1v5 ++ (Mq2h2k1v6 ++ (Mq2h2k1v7 ++ (Mq2h2k1v1 ++ (Mq2h2k1v1 ++ (Mq2h2k1v1 ++ (Mq2h2k1v1 ++ (Mq2h2k1v1 ++ (Mq2h2k1v1 ++ (Mq2h2k1v1 ++ (Mq2h2k1v1 ++ (Mq2h2k1v1 ++ (Mq2h2k1v1 ++ (Mq2h2k1v1 ++ (Mq2h2k1v1 ++ Mq2h2k1v1)))))))))))))))
def Mq2h2k1o8 : Obj := oC 40 [vU 1, vU 0, vU 0, vU 0, vU 0, vU 0, vU 0, vU 0, vU 0, vU 0, vU 0, vU 0, vU 0, vU 0, vU 0, vU 0, vU 0, vU 0, vU 0, vU 0, vU 0, vU 0, vU 0, vU 0, vU 0, vU 0, vU 0, vU 0, vU 0, vU 0, vU 0, vU 0, vU 0, vU 0, vU 0, vU 0, vU 0, vU 0, vU 0, vU 0, vU 0, vU 0, vU 0, vU 0, vU 0, vU 0, vU 0, vU 0, vU 0, vU 0, vU 0, vU 0, vU 0, vU 0, vU 0, vU 0, vU 0, vU 0, vU 0, vU 0, vU 0, vU 0, vU 0, vU 0, vU 0, vU 0, vU 0, vU 0, vU 0, vU 0, vU 0, vU 0, vU 0, vU 0, vU 0, vU 0, vU 0]
def Mq2h2k1o9 : Obj := oC 111 [.complex .f32 1 0, vI 0, vI 0, vU 0, vU 0, vI 0]
def Mq2h2k1o10 : Obj := oC 172 [vP 5 0, vI 1]
def Mq2h2k1o11 : Obj := oC 101 [kf 9, vZ, vI 1, vP 3 0, vS 6 0 1 1, kf 9]
def Mq2h2k1o12 : Obj := oC 191 [kf 17, .int .u32 0, vI 0, kf 9, vN, vN]
def Mq2h2k1o13 : Obj := oC 97 [kf 9, vI 2, vP 2 0, vP 4 0]
def Mq2h2k1o14 : Obj := oC 94 [.complex .f32 8 0, vI 0, vI 0, vU 0, vU 0, vI 0]
def Mq2h2k1o15 : Obj := oC 39 [vP 9 0, .complex .f64 0 0, kf 9, vI 2]
def Mq2h2k1h21 : List Obj := [Mq2h2k1o4, Mq2h2k1o8, Mq2h2k1o9, Mq2h2k1o10, Mq2h2k1o11, Mq2h2k1o12, oC 146 [vI 0, kf 9], Mq2h2k1o13, Mq2h2k1o8, Mq2h2k1o14, Mq2h2k1o15]
def Mq2h2k1v16 : List Value := [vP 10 0, vP 7 0, vB false, vX, vX, vX, vX, vX, vX, vX, vX, vX]
def Mq2h2k1l23 : List Value := Mq2h2k1v2 ++ (Mq2h2k1v5 ++ (Mq2h2k1v6 ++ (Mq2h2k1v16 ++ (Mq2h2k1v1 ++ (Mq2h2k1v1 ++ (Mq2h2k1v1 ++ (Mq2h2k1v1 ++ (Mq2h2k1v1 ++ (Mq2h2k1v1 ++ (Mq2h2k1v1 ++ (Mq2h2k1v1 ++ (Mq2h2k1v1 ++ (Mq2h2k1v1 ++ (Mq2h2k1v1 ++ (Mq2h2k1v1 ++ Mq2h2k1v1)))))))))))))))
def Mq2h2k1h24 : List Obj := [Mq2h2k1o4, Mq2h2k1o8, Mq2h2k1o9, Mq2h2k1o10, Mq2h2k1o11, Mq2h2k1o12, oC 146 [vI 0, kf 9], Mq2h2k1o13, Mq2h2k1o8, Mq2h2k1o14, Mq2h2k1o15]
def Mq2h2k1l25 : List Value := Mq2h2k1v2 ++ (Mq2h2k1v5 ++ (Mq2h2k1v6 ++ (Mq2h2k1v16 ++ (Mq2h2k1v1 ++ (Mq2h2k1v1 ++ (Mq2h2k1v1 ++ (Mq2h2k1v1 ++ (Mq2h2k1v1 ++ (Mq2h2k1v1 ++ (Mq2h2k1v1 ++ (Mq2h2k1v1 ++ (Mq2h2k1v1 ++ (Mq2h2k1v1 ++ (Mq2h2k1v1 ++ (Mq2h2k1v1 ++ Mq2h2k1v1)))))))))))))))
def Mq2h2k1h26 : List Obj := [Mq2h2k1o4, Mq2h2k1o8, Mq2h2k1o9, Mq2h2k1o10, Mq2h2k1o11, Mq2h2k1o12, oC 146 [vI 0, kf 9], Mq2h2k1o13, Mq2h2k1o8, Mq2h2k1o14, Mq2h2k1o15]
def Mq2h2k1v17 : List Value := [vP 7 0, vP 10 0, vS 11 0 2 3, vX, vX, vX, vX, vX, vX, vX, vX, vX]
def Mq2h2k1v18 : List Value := [vP 10 0, vP 7 0, vB false, vI 9, vI 10, vI 14, vS 11 0 3 3, kf 4, kf 6, vI 2, vS 11 0 2 3, vX]
def Mq2h2k1l29 : List Value := Mq2h2k1v2 ++ (Mq2h2k1v17 ++ (Mq2h2k1v6 ++ (Mq2h2k1v18 ++ (Mq2h2k1v1 ++ (Mq2h2k1v1 ++ (Mq2h2k1v1 ++ (Mq2h2k1v1 ++ (Mq2h2k1v1 ++ (Mq2h2k1v1 ++ (Mq2h2k1v1 ++ (Mq2h2k1v1 ++ (Mq2h2k1v1 ++ (Mq2h2k1v1 ++ (Mq2h2k1v1 ++ (Mq2h2k1v1 ++ Mq2h2k1v1)))))))))))))))
def Mq2h2k1o19 : Obj := oC 3 [vI 9, vI 10, vI 14]
def Mq2h2k1h31 : List Obj := [Mq2h2k1o4, Mq2h2k1o8, Mq2h2k1o9, Mq2h2k1o10, Mq2h2k1o11, Mq2h2k1o12, oC 146 [vI 0, kf 9], Mq2h2k1o13, Mq2h2k1o8, Mq2h2k1o14, Mq2h2k1o15, Mq2h2k1o19]
def Mq2h2k1v20 : List Value := [vP 7 0, vP 10 0, vS 11 0 2 3, vP 15 0, vX, vX, vX, vX, vX, vX, vX, vX]
def Mq2h2k1v21 : List Value := [vP 10 0, vP 7 0, vB false, vI 9, vI 10, vI 14, vS 11 0 3 3, kf 4, kf 6, vI 2, vS 11 0 2 3, vP 10 0]
def Mq2h2k1v22 : List Value := [vP 10 0, vP 10 2, vG [kf 9, vI 2], vP 0 0, kf 9, kf 19, kf 2, kf 20, vP 0 0, kf 9, kf 21, kf 22]
def Mq2h2k1v23 : List Value := [kf 23, vS 11 0 2 3, vP 15 0, vX, vX, vX, vX, vX, vX, vX, vX, vX]
def Mq2h2k1l36 : List Value := Mq2h2k1v2 ++ (Mq2h2k1v20 ++ (Mq2h2k1v6 ++ (Mq2h2k1v21 ++ (Mq2h2k1v22 ++ (Mq2h2k1v23 ++ (Mq2h2k1v1 ++ (Mq2h2k1v1 ++ (Mq2h2k1v1 ++ (Mq2h2k1v1 ++ (Mq2h2k1v1 ++ (Mq2h2k1v1 ++ (Mq2h2k1v1 ++ (Mq2h2k1v1 ++ (Mq2h2k1v1 ++ (Mq2h2k1v1 ++ Mq2h2k1v1)))))))))))))))
def Mq2h2k1o24 : Obj := oC 85 [kf 9, vI 2, vF 65 [] [vP 22 0, vP 23 0], kf 23, vS 14 0 2 2, vZ, vZ, vI 0, vI 2]
def Mq2h2k1o25 : Obj := oC 123 [kf 9, vI 2, vF 99 [] [vP 18 0, vP 19 0, vP 20 0, vP 21 0]]
def Mq2h2k1o26 : Obj := oC 125 [vF 67 [] [vP 17 0]]
def Mq2h2k1o27 : Obj := oC 121 [.iface 87 (vP 16 0)]
def Mq2h2k1o28 : Obj := oC 1 [vF 39 [] [vP 13 0, vP 12 0]]
def Mq2h2k1h42 : List Obj := [Mq2h2k1o4, Mq2h2k1o8, Mq2h2k1o9, Mq2h2k1o10, Mq2h2k1o11, Mq2h2k1o12, oC 146 [vI 0, kf 9], Mq2h2k1o13, Mq2h2k1o8, Mq2h2k1o14, Mq2h2k1o15, Mq2h2k1o19, oC 3 [kf 23], oC 32 [vP 15 0], oC 3 [vI 9, vI 10], Mq2h2k1o24, Mq2h2k1o25, oC 87 [vP 16 0], oC 3 [vI 2], oC 40 [vU 0], oC 40 [vU 2], Mq2h2k1o26, Mq2h2k1o27, Mq2h2k1o28]
def Mq2h2k1v29 : List Value := [vP 7 0, vP 10 0, vS 11 0 2 3, vP 13 0, vX, vX, vX, vX, vX, vX, vX, vX]
def Mq2h2k1v30 : List Value := [kf 23, vS 11 0 2 3, vP 13 0, vP 13 0, vB false, vB false, vP 13 0, vP 7 0, vG [vI 3, vI 2, vU 0, vU 2], vI 3, vB false, vB false]
def Mq2h2k1l45 : List Value := Mq2h2k1v2 ++ (Mq2h2k1v29 ++ (Mq2h2k1v6 ++ (Mq2h2k1v21 ++ (Mq2h2k1v22 ++ (Mq2h2k1v30 ++ (Mq2h2k1v1 ++ (Mq2h2k1v1 ++ (Mq2h2k1v1 ++ (Mq2h2k1v1 ++ (Mq2h2k1v1 ++ (Mq2h2k1v1 ++ (Mq2h2k1v1 ++ (Mq2h2k1v1 ++ (Mq2h2k1v1 ++ (Mq2h2k1v1 ++ Mq2h2k1v1)))))))))))))))
def Mq2h2k1o31 : Obj := oC 40 [vU 1, vU 0, vU 2, vU 0, vU 0, vU 0, vU 0, vU 0, vU 0, vU 0, vU 0, vU 0, vU 0, vU 0, vU 0, vU 0, vU 0, vU 0, vU 0, vU 0, vU 0, vU 0, vU 0, vU 0, vU 0, vU 0, vU 0, vU 0, vU 0, vU 0, vU 0, vU 0, vU 0, vU 0, vU 0, vU 0, vU 0, vU 0, vU 0, vU 0, vU 0, vU 0, vU 0, vU 0, vU 0, vU 0, vU 0, vU 0, vU 0, vU 0, vU 0, vU 0, vU 0, vU 0, vU 0, vU 0, vU 0, vU 0, vU 0, vU 0, vU 0, vU 0, vU 0, vU 0, vU 0, vU 0, vU 0, vU 0, vU 0, vU 0, vU 0, vU 0, vU 0, vU 0, vU 0, vU 0, vU 0]
def Mq2h2k1o32 : Obj := oC 111 [.complex .f32 1 0, vI 3, vI 2, vU 0, vU 2, vI 1]
def Mq2h2k1o33 : Obj := oC 85 [kf 9, vI 2, vF 69 [] [vP 15 0, vP 16 0, vP 14 0], kf 23, vS 12 0 2 2, vZ, vZ, vI 0, vI 2]
def Mq2h2k1o34 : Obj := oC 90 [vF 41 [vP 13 0] []]
def Mq2h2k1o35 : Obj := oC 91 [vF 42 [vP 13 0] []]
def Mq2h2k1h51 : List Obj := [Mq2h2k1o4, Mq2h2k1o31, Mq2h2k1o32, Mq2h2k1o10, Mq2h2k1o11, Mq2h2k1o12, oC 146 [vI 0, kf 9], Mq2h2k1o13, Mq2h2k1o8, Mq2h2k1o14, Mq2h2k1o15, Mq2h2k1o19, oC 3 [vI 9, vI 10], Mq2h2k1o33, oC 3 [kf 23], Mq2h2k1o34, Mq2h2k1o35]
def Mq2h2k1l52 : List Value := Mq2h2k1v2 ++ (Mq2h2k1v29 ++ (Mq2h2k1v6 ++ (Mq2h2k1v21 ++ (Mq2h2k1v22 ++ (Mq2h2k1v30 ++ (Mq2h2k1v1 ++ (Mq2h2k1v1 ++ (Mq2h2k1v1 ++ (Mq2h2k1v1 ++ (Mq2h2k1v1 ++ (Mq2h2k1v1 ++ (Mq2h2k1v1 ++ (Mq2h2k1v1 ++ (Mq2h2k1v1 ++ (Mq2h2k1v1 ++ Mq2h2k1v1)))))))))))))))
def Mq2h2k1h53 : List Obj := [Mq2h2k1o4, Mq2h2k1o31, Mq2h2k1o32, Mq2h2k1o10, Mq2h2k1o11, Mq2h2k1o12, oC 146 [vI 0, kf 9], Mq2h2k1o13, Mq2h2k1o8, Mq2h2k1o14, Mq2h2k1o15, Mq2h2k1o19, oC 3 [vI 9, vI 10], Mq2h2k1o33, oC 3 [kf 23], Mq2h2k1o34, Mq2h2k1o35]
def Mq2h2k1v36 : List Value := [vP 7 0, vP 10 0, vS 11 0 2 3, vP 13 0, vP 18 0, vX, vX, vX, vX, vX, vX, vX]
def Mq2h2k1v37 : List Value := [vP 13 0, vP 7 0, vG [vI 6, vI (-1), kf 24, kf 25], vX, vX, vX, vX, vX, vX, vX, vX, vX]
def Mq2h2k1l56 : List Value := Mq2h2k1v2 ++ (Mq2h2k1v36 ++ (Mq2h2k1v6 ++ (Mq2h2k1v21 ++ (Mq2h2k1v22 ++ (Mq2h2k1v30 ++ (Mq2h2k1v37 ++ (Mq2h2k1v1 ++ (Mq2h2k1v1 ++ (Mq2h2k1v1 ++ (Mq2h2k1v1 ++ (Mq2h2k1v1 ++ (Mq2h2k1v1 ++ (Mq2h2k1v1 ++ (Mq2h2k1v1 ++ (Mq2h2k1v1 ++ Mq2h2k1v1)))))))))))))))
def Mq2h2k1o38 : Obj := oC 85 [kf 9, vI 2, vF 128 [] [vP 16 0, vP 17 0], kf 23, vS 12 0 2 2, vZ, vZ, vI 0, vI 2]
def Mq2h2k1o39 : Obj := oC 139 [vF 106 [] [vP 14 0, vP 15 0]]
def Mq2h2k1o40 : Obj := oC 42 [vI 6, vI (-1), kf 24, kf 25]
def Mq2h2k1h60 : List Obj := [Mq2h2k1o4, Mq2h2k1o31, Mq2h2k1o32, Mq2h2k1o10, Mq2h2k1o11, Mq2h2k1o12, oC 146 [vI 0, kf 9], Mq2h2k1o13, Mq2h2k1o8, Mq2h2k1o14, Mq2h2k1o15, Mq2h2k1o19, oC 3 [vI 9, vI 10], Mq2h2k1o38, oC 32 [vP 13 0], oC 3 [vI 0], oC 3 [vI 9], Mq2h2k1o39, Mq2h2k1o40]
def Mq2h2k1v41 : List Value := [vP 13 0, vP 7 0, vG [vI 6, vI (-1), kf 24, kf 25], vP 18 0, vI 6, vB false, vB false, vP 18 1, vI (-1), vB false, vB false, vB false]
def Mq2h2k1v42 : List Value := [vP 18 3, kf 25, vP 0 0, kf 9, kf 25, vB false, vB false, vX, vX, vX, vX, vX]
def Mq2h2k1l63 : List Value := Mq2h2k1v2 ++ (Mq2h2k1v36 ++ (Mq2h2k1v6 ++ (Mq2h2k1v21 ++ (Mq2h2k1v22 ++ (Mq2h2k1v30 ++ (Mq2h2k1v41 ++ (Mq2h2k1v42 ++ (Mq2h2k1v1 ++ (Mq2h2k1v1 ++ (Mq2h2k1v1 ++ (Mq2h2k1v1 ++ (Mq2h2k1v1 ++ (Mq2h2k1v1 ++ (Mq2h2k1v1 ++ (Mq2h2k1v1 ++ Mq2h2k1v1)))))))))))))))
def Mq2h2k1h64 : List Obj := [Mq2h2k1o4, Mq2h2k1o31, Mq2h2k1o32, Mq2h2k1o10, Mq2h2k1o11, Mq2h2k1o12, oC 146 [vI 0, kf 9], Mq2h2k1o13, Mq2h2k1o8, Mq2h2k1o14, Mq2h2k1o15, Mq2h2k1o19, oC 3 [vI 9, vI 10], Mq2h2k1o38, oC 32 [vP 13 0], oC 3 [vI 0], oC 3 [vI 9], Mq2h2k1o39, Mq2h2k1o40]
def Mq2h2k1l65 : List Value := Mq2h2k1v2 ++ (Mq2h2k1v36 ++ (Mq2h2k1v6 ++ (Mq2h2k1v21 ++ (Mq2h2k1v22 ++ (Mq2h2k1v30 ++ (Mq2h2k1v41 ++ (Mq2h2k1v42 ++ (Mq2h2k1v1 ++ (Mq2h2k1v1 ++ (Mq2h2k1v1 ++ (Mq2h2k1v1 ++ (Mq2h2k1v1 ++ (Mq2h2k1v1 ++ (Mq2h2k1v1 ++ (Mq2h2k1v1 ++ Mq2h2k1v1)))))))))))))))
def Mq2h2k1h66 : List Obj := [Mq2h2k1o4, Mq2h2k1o31, Mq2h2k1o32, Mq2h2k1o10, Mq2h2k1o11, Mq2h2k1o12, oC 146 [vI 0, kf 9], Mq2h2k1o13, Mq2h2k1o8, Mq2h2k1o14, Mq2h2k1o15, Mq2h2k1o19, oC 3 [vI 9, vI 10], Mq2h2k1o38, oC 32 [vP 13 0], oC 3 [vI 0], oC 3 [vI 9], Mq2h2k1o39, Mq2h2k1o40]
def Mq2h2k1v43 : List Value := [vP 7 0, vP 10 0, vS 11 0 2 3, vP 13 0, vP 18 0, vI 0, vX, vX, vX, vX, vX, vX]
def Mq2h2k1l68 : List Value := Mq2h2k1v2 ++ (Mq2h2k1v43 ++ (Mq2h2k1v6 ++ (Mq2h2k1v21 ++ (Mq2h2k1v22 ++ (Mq2h2k1v30 ++ (Mq2h2k1v41 ++ (Mq2h2k1v42 ++ (Mq2h2k1v1 ++ (Mq2h2k1v1 ++ (Mq2h2k1v1 ++ (Mq2h2k1v1 ++ (Mq2h2k1v1 ++ (Mq2h2k1v1 ++ (Mq2h2k1v1 ++ (Mq2h2k1v1 ++ Mq2h2k1v1)))))))))))))))
def Mq2h2k1h69 : List Obj := [Mq2h2k1o4, Mq2h2k1o31, Mq2h2k1o32, Mq2h2k1o10, Mq2h2k1o11, Mq2h2k1o12, oC 146 [vI 0, kf 9], Mq2h2k1o13, Mq2h2k1o8, Mq2h2k1o14, Mq2h2k1o15, Mq2h2k1o19, oC 3 [vI 9, vI 10], Mq2h2k1o38, oC 32 [vP 13 0], oC 3 [vI 0], oC 3 [vI 9], Mq2h2k1o39, Mq2h2k1o40]
def Mq2h2k1v44 : List Value := [vP 18 3, kf 25, vP 0 0, kf 9, kf 25, vB false, vB false, vS 11 0 2 3, vI 2, vB true, vX, vX]
def Mq2h2k1l71 : List Value := Mq2h2k1v2 ++ (Mq2h2k1v43 ++ (Mq2h2k1v6 ++ (Mq2h2k1v21 ++ (Mq2h2k1v22 ++ (Mq2h2k1v30 ++ (Mq2h2k1v41 ++ (Mq2h2k1v44 ++ (Mq2h2k1v1 ++ (Mq2h2k1v1 ++ (Mq2h2k1v1 ++ (Mq2h2k1v1 ++ (Mq2h2k1v1 ++ (Mq2h2k1v1 ++ (Mq2h2k1v1 ++ (Mq2h2k1v1 ++ Mq2h2k1v1)))))))))))))))
def Mq2h2k1h72 : List Obj := [Mq2h2k1o4, Mq2h2k1o31, Mq2h2k1o32, Mq2h2k1o10, Mq2h2k1o11, Mq2h2k1o12, oC 146 [vI 0, kf 9], Mq2h2k1o13, Mq2h2k1o8, Mq2h2k1o14, Mq2h2k1o15, Mq2h2k1o19, oC 3 [vI 9, vI 10], Mq2h2k1o38, oC 32 [vP 13 0], oC 3 [vI 0], oC 3 [vI 9], Mq2h2k1o39, Mq2h2k1o40]
def Mq2h2k1v45 : List Value := [vP 7 0, vP 10 0, vS 11 0 2 3, vP 13 0, vP 18 0, vI 1, vX, vX, vX, vX, vX, vX]
def Mq2h2k1v46 : List Value := [vP 18 3, kf 25, vP 0 0, kf 9, kf 25, vB false, vB false, vS 11 0 2 3, vI 2, vB true, kf 3, kf 10]
def Mq2h2k1v47 : List Value := [vS 11 0 2 3, vI 2, vI 1, vX, vX, vX, vX, vX, vX, vX, vX, vX]
def Mq2h2k1l76 : List Value := Mq2h2k1v2 ++ (Mq2h2k1v45 ++ (Mq2h2k1v6 ++ (Mq2h2k1v21 ++ (Mq2h2k1v22 ++ (Mq2h2k1v30 ++ (Mq2h2k1v41 ++ (Mq2h2k1v46 ++ (Mq2h2k1v47 ++ (Mq2h2k1v1 ++ (Mq2h2k1v1 ++ (Mq2h2k1v1 ++ (Mq2h2k1v1 ++ (Mq2h2k1v1 ++ (Mq2h2k1v1 ++ (Mq2h2k1v1 ++ Mq2h2k1v1)))))))))))))))
def Mq2h2k1h77 : List Obj := [Mq2h2k1o4, Mq2h2k1o31, Mq2h2k1o32, Mq2h2k1o10, Mq2h2k1o11, Mq2h2k1o12, oC 146 [vI 0, kf 9], Mq2h2k1o13, Mq2h2k1o8, Mq2h2k1o14, Mq2h2k1o15, Mq2h2k1o19, oC 3 [vI 9, vI 10], Mq2h2k1o38, oC 32 [vP 13 0], oC 3 [vI 0], oC 3 [vI 9], Mq2h2k1o39, Mq2h2k1o40]
def Mq2h2k1v48 : List Value := [vP 7 0, vP 10 0, vS 11 0 2 3, vP 13 0, vP 18 0, vI 1, vI 3, vI 4, vX, vX, vX, vX]
def Mq2h2k1v49 : List Value := [vS 11 0 2 3, vI 2, vI 1, vS 11 0 2 3, vI 2, vI 4, vX, vX, vX, vX, vX, vX]
def Mq2h2k1l80 : List Value := Mq2h2k1v2 ++ (Mq2h2k1v48 ++ (Mq2h2k1v6 ++ (Mq2h2k1v21 ++ (Mq2h2k1v22 ++ (Mq2h2k1v30 ++ (Mq2h2k1v41 ++ (Mq2h2k1v46 ++ (Mq2h2k1v49 ++ (Mq2h2k1v1 ++ (Mq2h2k1v1 ++ (Mq2h2k1v1 ++ (Mq2h2k1v1 ++ (Mq2h2k1v1 ++ (Mq2h2k1v1 ++ (Mq2h2k1v1 ++ Mq2h2k1v1)))))))))))))))
def Mq2h2k1h81 : List Obj := [Mq2h2k1o4, Mq2h2k1o31, Mq2h2k1o32, Mq2h2k1o10, Mq2h2k1o11, Mq2h2k1o12, oC 146 [vI 0, kf 9], Mq2h2k1o13, Mq2h2k1o8, Mq2h2k1o14, Mq2h2k1o15, Mq2h2k1o19, oC 3 [vI 9, vI 10], Mq2h2k1o38, oC 32 [vP 13 0], oC 3 [vI 0], oC 3 [vI 9], Mq2h2k1o39, Mq2h2k1o40]
def Mq2h2k1v50 : List Value := [vS 11 0 2 3, vI 2, vI 1, vS 11 0 2 3, vI 2, vI 4, vS 11 0 2 3, vI 2, vB true, vB true, kf 5, .int .u8 2]
def Mq2h2k1v51 : List Value := [vB false, vB false, vX, vX, vX, vX, vX, vX, vX, vX, vX, vX]
def Mq2h2k1l84 : List Value := Mq2h2k1v2 ++ (Mq2h2k1v48 ++ (Mq2h2k1v6 ++ (Mq2h2k1v21 ++ (Mq2h2k1v22 ++ (Mq2h2k1v30 ++ (Mq2h2k1v41 ++ (Mq2h2k1v46 ++ (Mq2h2k1v50 ++ (Mq2h2k1v51 ++ (Mq2h2k1v1 ++ (Mq2h2k1v1 ++ (Mq2h2k1v1 ++ (Mq2h2k1v1 ++ (Mq2h2k1v1 ++ (Mq2h2k1v1 ++ Mq2h2k1v1)))))))))))))))
def Mq2h2k1h85 : List Obj := [Mq2h2k1o4, Mq2h2k1o31, Mq2h2k1o32, Mq2h2k1o10, Mq2h2k1o11, Mq2h2k1o12, oC 146 [vI 0, kf 9], Mq2h2k1o13, Mq2h2k1o8, Mq2h2k1o14, Mq2h2k1o15, Mq2h2k1o19, oC 3 [vI 9, vI 10], Mq2h2k1o38, oC 32 [vP 13 0], oC 3 [vI 0], oC 3 [vI 9], Mq2h2k1o39, Mq2h2k1o40]
def Mq2h2k1l86 : List Value := Mq2h2k1v2 ++ (Mq2h2k1v48 ++ (Mq2h2k1v6 ++ (Mq2h2k1v21 ++ (Mq2h2k1v22 ++ (Mq2h2k1v30 ++ (Mq2h2k1v41 ++ (Mq2h2k1v46 ++ (Mq2h2k1v50 ++ (Mq2h2k1v51 ++ (Mq2h2k1v1 ++ (Mq2h2k1v1 ++ (Mq2h2k1v1 ++ (Mq2h2k1v1 ++ (Mq2h2k1v1 ++ (Mq2h2k1v1 ++ Mq2h2k1v1)))))))))))))))
def Mq2h2k1h87 : List Obj := [Mq2h2k1o4, Mq2h2k1o31, Mq2h2k1o32, Mq2h2k1o10, Mq2h2k1o11, Mq2h2k1o12, oC 146 [vI 0, kf 9], Mq2h2k1o13, Mq2h2k1o8, Mq2h2k1o14, Mq2h2k1o15, Mq2h2k1o19, oC 3 [vI 9, vI 10], Mq2h2k1o38, oC 32 [vP 13 0], oC 3 [vI 0], oC 3 [vI 9], Mq2h2k1o39, Mq2h2k1o40]
def Mq2h2k1v52 : List Value := [vP 7 0, vP 10 0, vS 11 0 2 3, vP 13 0, vP 18 0, vI 1, vI 3, vI 4, vX, vX, vI 0, vX]
def Mq2h2k1l89 : List Value := Mq2h2k1v2 ++ (Mq2h2k1v52 ++ (Mq2h2k1v6 ++ (Mq2h2k1v21 ++ (Mq2h2k1v22 ++ (Mq2h2k1v30 ++ (Mq2h2k1v41 ++ (Mq2h2k1v46 ++ (Mq2h2k1v50 ++ (Mq2h2k1v51 ++ (Mq2h2k1v1 ++ (Mq2h2k1v1 ++ (Mq2h2k1v1 ++ (Mq2h2k1v1 ++ (Mq2h2k1v1 ++ (Mq2h2k1v1 ++ Mq2h2k1v1)))))))))))))))
def Mq2h2k1h90 : List Obj := [Mq2h2k1o4, Mq2h2k1o31, Mq2h2k1o32, Mq2h2k1o10, Mq2h2k1o11, Mq2h2k1o12, oC 146 [vI 0, kf 9], Mq2h2k1o13, Mq2h2k1o8, Mq2h2k1o14, Mq2h2k1o15, Mq2h2k1o19, oC 3 [vI 9, vI 10], Mq2h2k1o38, oC 32 [vP 13 0], oC 3 [vI 0], oC 3 [vI 9], Mq2h2k1o39, Mq2h2k1o40]
def Mq2h2k1v53 : List Value := [vP 7 0, vP 10 0, vS 11 0 2 3, vP 13 0, vP 14 0, vI 1, vI 3, vI 4, vX, vX, vI 1, vX]
def Mq2h2k1v54 : List Value := [vP 13 0, vP 7 0, vG [vI 6, vI (-1), kf 24, kf 25], vP 14 0, vI 6, vB false, vB false, vP 14 1, vI (-1), vB false, vB false, vB false]
def Mq2h2k1v55 : List Value := [vP 14 3, kf 25, vP 0 0, kf 9, kf 25, vB false, vB false, vS 11 0 2 3, vI 2, vB true, kf 3, kf 10]
def Mq2h2k1v56 : List Value := [vX, vX, vX, vX, vX, vI 0, vI 4, vB true, vI 0, vI 1, vS 11 0 2 3, vI 2]
def Mq2h2k1v57 : List Value := [vB true, vB true, kf 5, .int .u8 2, vB true, vB true, vB true, vI 0, vS 11 0 2 3, vI 2, vB false, vB false]
def Mq2h2k1v58 : List Value := [vX, vX, vX, vX, vX, vX, vP 13 0, vB false, vB false, vP 13 0, vP 7 0, vG [vI 1, vI 9, vU 0, vU 0]]
def Mq2h2k1v59 : List Value := [vI 1, vB false, vB false, vX, vX, vX, vX, vX, vX, vX, vX, vX]
def Mq2h2k1l98 : List Value := Mq2h2k1v2 ++ (Mq2h2k1v53 ++ (Mq2h2k1v6 ++ (Mq2h2k1v21 ++ (Mq2h2k1v22 ++ (Mq2h2k1v30 ++ (Mq2h2k1v54 ++ (Mq2h2k1v55 ++ (Mq2h2k1v50 ++ (Mq2h2k1v51 ++ (Mq2h2k1v56 ++ (Mq2h2k1v57 ++ (Mq2h2k1v1 ++ (Mq2h2k1v58 ++ (Mq2h2k1v59 ++ (Mq2h2k1v1 ++ Mq2h2k1v1)))))))))))))))
def Mq2h2k1o60 : Obj := oC 111 [.complex .f32 1 0, vI 1, vI 9, vU 0, vU 0, vI 2]
def Mq2h2k1o61 : Obj := oC 85 [kf 9, vI 2, vF 128 [] [vP 18 0, vP 19 0], kf 23, vS 12 0 2 2, .complex .f32 15 3, vZ, vI 0, vI 2]
def Mq2h2k1o62 : Obj := .pending [vU 0].toArray 40
def Mq2h2k1o63 : Obj := oC 139 [vF 106 [] [vP 16 0, vP 17 0]]
def Mq2h2k1h103 : List Obj := [Mq2h2k1o4, Mq2h2k1o31, Mq2h2k1o60, Mq2h2k1o10, Mq2h2k1o11, Mq2h2k1o12, oC 146 [vI 0, kf 9], Mq2h2k1o13, Mq2h2k1o8, Mq2h2k1o14, Mq2h2k1o15, Mq2h2k1o19, oC 3 [vI 9, vI 10], Mq2h2k1o61, Mq2h2k1o40, Mq2h2k1o62, oC 32 [vP 13 0], oC 3 [vI 1], oC 3 [vI 10], Mq2h2k1o63]
def Mq2h2k1v64 : List Value := [vP 7 0, vP 10 0, vS 11 0 2 3, vP 13 0, vP 14 0, vI 1, vI 3, vI 4, vX, vX, vI 2, vX]
def Mq2h2k1v65 : List Value := [vX, vX, vX, vX, vX, vI 1, vI 4, vB true, vI 1, vI 2, vS 11 0 2 3, vI 2]
def Mq2h2k1v66 : List Value := [vB true, vB true, kf 5, .int .u8 2, vB true, vB true, vB true, vI 1, vS 11 0 2 3, vI 2, vB false, vB false]
def Mq2h2k1v67 : List Value := [vX, vX, vX, vX, vX, vX, vP 13 0, vB false, vB false, vP 13 0, vP 7 0, vG [vI 1, vI 10, vU 0, vU 0]]
def Mq2h2k1l108 : List Value := Mq2h2k1v2 ++ (Mq2h2k1v64 ++ (Mq2h2k1v6 ++ (Mq2h2k1v21 ++ (Mq2h2k1v22 ++ (Mq2h2k1v30 ++ (Mq2h2k1v54 ++ (Mq2h2k1v55 ++ (Mq2h2k1v50 ++ (Mq2h2k1v51 ++ (Mq2h2k1v65 ++ (Mq2h2k1v66 ++ (Mq2h2k1v1 ++ (Mq2h2k1v67 ++ (Mq2h2k1v59 ++ (Mq2h2k1v1 ++ Mq2h2k1v1)))))))))))))))
def Mq2h2k1o68 : Obj := oC 111 [.complex .f32 1 0, vI 1, vI 10, vU 0, vU 0, vI 3]
def Mq2h2k1o69 : Obj := oC 85 [kf 9, vI 2, vF 128 [] [vP 18 0, vP 19 0], kf 23, vS 12 0 2 2, .complex .f32 15 5, vZ, vI 0, vI 2]
def Mq2h2k1o70 : Obj := .pending [vU 0, vU 0].toArray 40
def Mq2h2k1o71 : Obj := oC 139 [vF 127 [] [vP 16 0, vP 17 0]]
def Mq2h2k1h113 : List Obj := [Mq2h2k1o4, Mq2h2k1o31, Mq2h2k1o68, Mq2h2k1o10, Mq2h2k1o11, Mq2h2k1o12, oC 146 [vI 0, kf 9], Mq2h2k1o13, Mq2h2k1o8, Mq2h2k1o14, Mq2h2k1o15, Mq2h2k1o19, oC 3 [vI 9, vI 10], Mq2h2k1o69, Mq2h2k1o40, Mq2h2k1o70, oC 32 [vP 13 0], oC 3 [vI 0], oC 3 [vI 9], Mq2h2k1o71]
def Mq2h2k1v72 : List Value := [vP 7 0, vP 10 0, vS 11 0 2 3, vP 13 0, vP 14 0, vI 1, vI 5, vI 4, vX, vX, vI 3, vU 38654705664]
def Mq2h2k1v73 : List Value := [vB true, vX, vX, kf 1, kf 7, kf 8, kf 9, vG [kf 9, vI 2, vZ], vT [vP 7 0, vP 10 0], vG [kf 9, vI 2, vZ], vT [vP 7 0, vP 10 0], vP 7 0]
def Mq2h2k1v74 : List Value := [vX, vX, vX, vX, vX, vI 2, vI 4, vB true, vI 2, vI 3, vS 11 0 2 3, vI 2]
def Mq2h2k1v75 : List Value := [vB true, vB true, kf 5, .int .u8 2, vB true, vB true, vB true, vI 2, vS 11 0 2 3, vI 2, vB true, vB true]
def Mq2h2k1v76 : List Value := [vT [vU 38654705664, vB true], vT [vU 38654705664, vB true], vU 38654705664, vB true, vS 11 0 2 3, vI 2, vI 1, vI 3, vI 4, vP 7 0, vP 10 0, vS 11 0 2 3]
def Mq2h2k1v77 : List Value := [vI 1, vP 11 1, vI 10, vU 38654705664, vB true, vB false, vP 13 0, vB false, vB false, vP 13 0, vP 7 0, vG [vI 1, vI 9, vU 0, vU 0]]
def Mq2h2k1l120 : List Value := Mq2h2k1v2 ++ (Mq2h2k1v72 ++ (Mq2h2k1v73 ++ (Mq2h2k1v21 ++ (Mq2h2k1v22 ++ (Mq2h2k1v30 ++ (Mq2h2k1v54 ++ (Mq2h2k1v55 ++ (Mq2h2k1v50 ++ (Mq2h2k1v51 ++ (Mq2h2k1v74 ++ (Mq2h2k1v75 ++ (Mq2h2k1v76 ++ (Mq2h2k1v77 ++ (Mq2h2k1v59 ++ (Mq2h2k1v1 ++ Mq2h2k1v1)))))))))))))))
def Mq2h2k1o78 : Obj := oC 40 [vU 1, vU 0, vU 2, vU 0, vU 0, vU 0, vU 0, vU 0, vU 0, vU 0, vU 38654705664, vU 0, vU 0, vU 0, vU 0, vU 0, vU 0, vU 0, vU 0, vU 0, vU 0, vU 0, vU 0, vU 0, vU 0, vU 0, vU 0, vU 0, vU 0, vU 0, vU 0, vU 0, vU 0, vU 0, vU 0, vU 0, vU 0, vU 0, vU 0, vU 0, vU 0, vU 0, vU 0, vU 0, vU 0, vU 0, vU 0, vU 0, vU 0, vU 0, vU 0, vU 0, vU 0, vU 0, vU 0, vU 0, vU 0, vU 0, vU 0, vU 0, vU 0, vU 0, vU 0, vU 0, vU 0, vU 0, vU 0, vU 0, vU 0, vU 0, vU 0, vU 0, vU 0, vU 0, vU 0, vU 0, vU 0]
def Mq2h2k1o79 : Obj := oC 111 [.complex .f32 1 0, vI 1, vI 9, vU 0, vU 0, vI 5]
def Mq2h2k1o80 : Obj := oC 40 [vU 1, vU 0, vU 0, vU 0, vU 0, vU 0, vU 0, vU 0, vU 0, vU 0, vU 38654705664, vU 0, vU 0, vU 0, vU 0, vU 0, vU 0, vU 0, vU 0, vU 0, vU 0, vU 0, vU 0, vU 0, vU 0, vU 0, vU 0, vU 0, vU 0, vU 0, vU 0, vU 0, vU 0, vU 0, vU 0, vU 0, vU 0, vU 0, vU 0, vU 0, vU 0, vU 0, vU 0, vU 0, vU 0, vU 0, vU 0, vU 0, vU 0, vU 0, vU 0, vU 0, vU 0, vU 0, vU 0, vU 0, vU 0, vU 0, vU 0, vU 0, vU 0, vU 0, vU 0, vU 0, vU 0, vU 0, vU 0, vU 0, vU 0, vU 0, vU 0, vU 0, vU 0, vU 0, vU 0, vU 0, vU 0]
def Mq2h2k1o81 : Obj := oC 94 [.complex .f32 8 0, vI 2, vI 10, vU 0, vU 38654705664, vI 1]
def Mq2h2k1h125 : List Obj := [Mq2h2k1o4, Mq2h2k1o78, Mq2h2k1o79, Mq2h2k1o10, Mq2h2k1o11, Mq2h2k1o12, oC 146 [vI 0, kf 9], Mq2h2k1o13, Mq2h2k1o80, Mq2h2k1o81, Mq2h2k1o15, Mq2h2k1o19, oC 3 [vI 9, vI 10], Mq2h2k1o69, Mq2h2k1o40, Mq2h2k1o70, oC 32 [vP 13 0], oC 3 [vI 1], oC 3 [vI 10], Mq2h2k1o71]
def Mq2h2k1v82 : List Value := [vP 7 0, vP 10 0, vS 11 0 2 3, vP 13 0, vP 14 0, vI 1, vI 5, vI 4, vX, vX, vI 4, vU 38654705664]
def Mq2h2k1v83 : List Value := [vX, vX, vX, vX, vX, vI 3, vI 4, vB true, vI 3, vI 4, vS 11 0 2 3, vI 2]
def Mq2h2k1v84 : List Value := [vB true, vB true, kf 5, .int .u8 2, vB true, vB true, vB true, vI 3, vS 11 0 2 3, vI 2, vB false, vB false]
def Mq2h2k1v85 : List Value := [vI 1, vP 11 1, vI 10, vU 38654705664, vB true, vB false, vP 13 0, vB false, vB false, vP 13 0, vP 7 0, vG [vI 1, vI 10, vU 38654705664, vU 38654705664]]
def Mq2h2k1l130 : List Value := Mq2h2k1v2 ++ (Mq2h2k1v82 ++ (Mq2h2k1v73 ++ (Mq2h2k1v21 ++ (Mq2h2k1v22 ++ (Mq2h2k1v30 ++ (Mq2h2k1v54 ++ (Mq2h2k1v55 ++ (Mq2h2k1v50 ++ (Mq2h2k1v51 ++ (Mq2h2k1v83 ++ (Mq2h2k1v84 ++ (Mq2h2k1v76 ++ (Mq2h2k1v85 ++ (Mq2h2k1v59 ++ (Mq2h2k1v1 ++ Mq2h2k1v1)))))))))))))))
def Mq2h2k1o86 : Obj := oC 111 [.complex .f32 1 0, vI 1, vI 10, vU 38654705664, vU 38654705664, vI 6]
def Mq2h2k1o87 : Obj := oC 85 [kf 9, vI 2, vF 65 [] [vP 22 0, vP 23 0], kf 23, vS 12 0 2 2, .complex .f32 15 5, vZ, vI 0, vI 2]
def Mq2h2k1o88 : Obj := oC 166 [kf 9, vI 2, vF 134 [] [vP 19 0, vP 20 0, vP 21 0]]
def Mq2h2k1o89 : Obj := oC 1 [vF 68 [vP 18 0] []]
def Mq2h2k1o90 : Obj := oC 121 [.iface 135 (vP 18 0)]
def Mq2h2k1o91 : Obj := oC 1 [vF 131 [] [vP 17 0, vP 16 0]]
def Mq2h2k1h137 : List Obj := [Mq2h2k1o4, Mq2h2k1o78, Mq2h2k1o86, Mq2h2k1o10, Mq2h2k1o11, Mq2h2k1o12, oC 146 [vI 0, kf 9], Mq2h2k1o13, Mq2h2k1o80, Mq2h2k1o81, Mq2h2k1o15, Mq2h2k1o19, oC 3 [vI 9, vI 10], Mq2h2k1o87, Mq2h2k1o40, Mq2h2k1o70, oC 32 [vP 13 0], oC 44 [vI 5], Mq2h2k1o88, oC 3 [vI 2], oC 40 [vU 0], Mq2h2k1o89, Mq2h2k1o90, Mq2h2k1o91]
def Mq2h2k1v92 : List Value := [vX, vX, vX, vX, vX, vI 4, vI 4, vB false, vI 3, vI 4, vS 11 0 2 3, vI 2]
def Mq2h2k1l139 : List Value := Mq2h2k1v2 ++ (Mq2h2k1v82 ++ (Mq2h2k1v73 ++ (Mq2h2k1v21 ++ (Mq2h2k1v22 ++ (Mq2h2k1v30 ++ (Mq2h2k1v54 ++ (Mq2h2k1v55 ++ (Mq2h2k1v50 ++ (Mq2h2k1v51 ++ (Mq2h2k1v92 ++ (Mq2h2k1v84 ++ (Mq2h2k1v76 ++ (Mq2h2k1v85 ++ (Mq2h2k1v59 ++ (Mq2h2k1v1 ++ Mq2h2k1v1)))))))))))))))
def Mq2h2k1h140 : List Obj := [Mq2h2k1o4, Mq2h2k1o78, Mq2h2k1o86, Mq2h2k1o10, Mq2h2k1o11, Mq2h2k1o12, oC 146 [vI 0, kf 9], Mq2h2k1o13, Mq2h2k1o80, Mq2h2k1o81, Mq2h2k1o15, Mq2h2k1o19, oC 3 [vI 9, vI 10], Mq2h2k1o87, Mq2h2k1o40, Mq2h2k1o70, oC 32 [vP 13 0], oC 44 [vI 5], Mq2h2k1o88, oC 3 [vI 2], oC 40 [vU 0], Mq2h2k1o89, Mq2h2k1o90, Mq2h2k1o91]
def Mq2h2k1v93 : List Value := [vI 1, vB false, vB false, vP 13 0, vP 7 0, vG [vI 2, vI 2, vU 2, vU 0], vG [vI 2, vI 2, vU 2, vU 0], vB false, vB false, vP 13 0, vB true, vB false]
def Mq2h2k1v94 : List Value := [vB false, vX, vX, vX, vX, vX, vX, vX, vX, vX, vX, vX]
def Mq2h2k1l143 : List Value := Mq2h2k1v2 ++ (Mq2h2k1v82 ++ (Mq2h2k1v73 ++ (Mq2h2k1v21 ++ (Mq2h2k1v22 ++ (Mq2h2k1v30 ++ (Mq2h2k1v54 ++ (Mq2h2k1v55 ++ (Mq2h2k1v50 ++ (Mq2h2k1v51 ++ (Mq2h2k1v92 ++ (Mq2h2k1v84 ++ (Mq2h2k1v76 ++ (Mq2h2k1v85 ++ (Mq2h2k1v93 ++ (Mq2h2k1v94 ++ Mq2h2k1v1)))))))))))))))
def Mq2h2k1o95 : Obj := oC 111 [.complex .f32 1 0, vI 2, vI 2, vU 2, vU 0, vI 7]
def Mq2h2k1o96 : Obj := oC 85 [kf 9, vI 2, .nilFunc, kf 23, vS 12 0 2 2, .complex .f32 15 5, vZ, vI 0, vI 5]
def Mq2h2k1h146 : List Obj := [Mq2h2k1o4, Mq2h2k1o80, Mq2h2k1o95, Mq2h2k1o10, Mq2h2k1o11, Mq2h2k1o12, oC 146 [vI 0, kf 9], Mq2h2k1o13, Mq2h2k1o80, Mq2h2k1o81, Mq2h2k1o15, Mq2h2k1o19, oC 3 [vI 9, vI 10], Mq2h2k1o96, Mq2h2k1o40, Mq2h2k1o70]
def Mq2h2k1l147 : List Value := Mq2h2k1v2 ++ (Mq2h2k1v82 ++ (Mq2h2k1v73 ++ (Mq2h2k1v21 ++ (Mq2h2k1v22 ++ (Mq2h2k1v30 ++ (Mq2h2k1v54 ++ (Mq2h2k1v55 ++ (Mq2h2k1v50 ++ (Mq2h2k1v51 ++ (Mq2h2k1v92 ++ (Mq2h2k1v84 ++ (Mq2h2k1v76 ++ (Mq2h2k1v85 ++ (Mq2h2k1v93 ++ (Mq2h2k1v94 ++ Mq2h2k1v1)))))))))))))))
def Mq2h2k1h148 : List Obj := [Mq2h2k1o4, Mq2h2k1o80, Mq2h2k1o95, Mq2h2k1o10, Mq2h2k1o11, Mq2h2k1o12, oC 146 [vI 0, kf 9], Mq2h2k1o13, Mq2h2k1o80, Mq2h2k1o81, Mq2h2k1o15, Mq2h2k1o19, oC 3 [vI 9, vI 10], Mq2h2k1o96, Mq2h2k1o40, Mq2h2k1o70]
def Mq2h2k1v97 : List Value := [vB true, vI 0, vI 5, kf 1, kf 7, kf 8, kf 9, vG [kf 9, vI 2, vZ], vT [vP 7 0, vP 10 0], vG [kf 9, vI 2, vZ], vT [vP 7 0, vP 10 0], vP 7 0]
def Mq2h2k1v98 : List Value := [vB false, vT [vI 0, vI 5], vP 13 0, vT [vI 0, vI 5], vI 0, vI 5, vX, vX, vX, vX, vX, vX]
def Mq2h2k1l151 : List Value := Mq2h2k1v2 ++ (Mq2h2k1v82 ++ (Mq2h2k1v97 ++ (Mq2h2k1v21 ++ (Mq2h2k1v22 ++ (Mq2h2k1v30 ++ (Mq2h2k1v54 ++ (Mq2h2k1v55 ++ (Mq2h2k1v50 ++ (Mq2h2k1v51 ++ (Mq2h2k1v92 ++ (Mq2h2k1v84 ++ (Mq2h2k1v76 ++ (Mq2h2k1v85 ++ (Mq2h2k1v93 ++ (Mq2h2k1v98 ++ Mq2h2k1v1)))))))))))))))
def Mq2h2k1h152 : List Obj := [Mq2h2k1o4, Mq2h2k1o80, Mq2h2k1o95, Mq2h2k1o10, Mq2h2k1o11, Mq2h2k1o12, oC 146 [vI 0, kf 9], Mq2h2k1o13, Mq2h2k1o80, Mq2h2k1o81, Mq2h2k1o15, Mq2h2k1o19, oC 3 [vI 9, vI 10], Mq2h2k1o96, Mq2h2k1o40, Mq2h2k1o70]
def Mq2h2k1v99 : List Value := [kf 1, kf 2, kf 3, kf 5, kf 4, vX, vX, vX, vX, vX, vB true, vP 0 0]
def Mq2h2k1v100 : List Value := [vB false, vT [vI 0, vI 5], vP 13 0, vT [vI 0, vI 5], vI 0, vI 5, vI 0, vB true, vB true, vI 5, vI 5, vB true]
def Mq2h2k1v101 : List Value := [vB true, vB true, vP 7 0, vP 4 0, kf 9, vP 0 0, kf 9, vB true, vB true, vB true, vB true, vB true]
def Mq2h2k1l156 : List Value := Mq2h2k1v99 ++ (Mq2h2k1v82 ++ (Mq2h2k1v97 ++ (Mq2h2k1v21 ++ (Mq2h2k1v22 ++ (Mq2h2k1v30 ++ (Mq2h2k1v54 ++ (Mq2h2k1v55 ++ (Mq2h2k1v50 ++ (Mq2h2k1v51 ++ (Mq2h2k1v92 ++ (Mq2h2k1v84 ++ (Mq2h2k1v76 ++ (Mq2h2k1v85 ++ (Mq2h2k1v93 ++ (Mq2h2k1v100 ++ Mq2h2k1v101)))))))))))))))
def Mq2h2k1h157 : List Obj := [Mq2h2k1o4, Mq2h2k1o80, Mq2h2k1o95, Mq2h2k1o10, Mq2h2k1o11, Mq2h2k1o12, oC 146 [vI 0, kf 9], Mq2h2k1o13, Mq2h2k1o80, Mq2h2k1o81, Mq2h2k1o15, Mq2h2k1o19, oC 3 [vI 9, vI 10], Mq2h2k1o96, Mq2h2k1o40, Mq2h2k1o70]
def Mq2h2k1l158 : List Value := Mq2h2k1v99 ++ (Mq2h2k1v82 ++ (Mq2h2k1v97 ++ (Mq2h2k1v21 ++ (Mq2h2k1v22 ++ (Mq2h2k1v30 ++ (Mq2h2k1v54 ++ (Mq2h2k1v55 ++ (Mq2h2k1v50 ++ (Mq2h2k1v51 ++ (Mq2h2k1v92 ++ (Mq2h2k1v84 ++ (Mq2h2k1v76 ++ (Mq2h2k1v85 ++ (Mq2h2k1v93 ++ (Mq2h2k1v100 ++ Mq2h2k1v101)))))))))))))))
def Mq2h2k1h159 : List Obj := [Mq2h2k1o4, Mq2h2k1o80, Mq2h2k1o95, Mq2h2k1o10, Mq2h2k1o11, Mq2h2k1o12, oC 146 [vI 0, kf 9], Mq2h2k1o13, Mq2h2k1o80, Mq2h2k1o81, Mq2h2k1o15, Mq2h2k1o19, oC 3 [vI 9, vI 10], Mq2h2k1o96, Mq2h2k1o40, Mq2h2k1o70]
theorem Mq2h2k1p0 {σ : Nat → Value} (hσ : ∀ j, OneC (σ j)) {W0 : World} {H : Nat} (hO : OrcOK Tryz.prog σ W0 H (orcG Mq2h2k1e MqF noMk)) : Seg1 Tryz.prog σ W0 H 0 ([] : List Value).toArray (.code (seqL ((bodyOf Tryz.prog 3)))) { tmps := #[kf 1, kf 2, kf 3, kf 5, kf 4] ++ Array.replicate (204 - 5) undef, defers := [] } (baseWorld 0 []) .normal ([] : List Value).toArray (mkA Mq2h2k1l2) (mkW Mq2h2k1h3) :=
  seg1_ev (O := orcG Mq2h2k1e MqF noMk) (n := 20000) (m := []) hσ hO (by decide +kernel)
theorem Mq2h2k1p1 {σ : Nat → Value} (hσ : ∀ j, OneC (σ j)) {W0 : World} {H : Nat} (hO : OrcOK Tryz.prog σ W0 H (orcG Mq2h2k1e MqF noMk)) : Seg1 Tryz.prog σ W0 H 0 ([] : List Value).toArray (.code (seqL (seqR ((bodyOf Tryz.prog 3))))) (mkA Mq2h2k1l2) (mkW Mq2h2k1h3) .normal ([] : List Value).toArray (mkA Mq2h2k1l6) (mkW Mq2h2k1h8) :=
  seg1_ev (O := orcG Mq2h2k1e MqF noMk) (n := 20000) (m := [0]) hσ hO (by decide +kernel)
theorem Mq2h2k1p2 {σ : Nat → Value} (hσ : ∀ j, OneC (σ j)) {W0 : World} {H : Nat} (hO : OrcOK Tryz.prog σ W0 H (orcG Mq2h2k1e MqF noMk)) : Seg1 Tryz.prog σ W0 H 0 ([] : List Value).toArray (.code (seqL (seqR (seqR ((bodyOf Tryz.prog 3)))))) (mkA Mq2h2k1l6) (mkW Mq2h2k1h8) .normal ([] : List Value).toArray (mkA Mq2h2k1l12) (mkW Mq2h2k1h21) :=
  seg1_ev (O := orcG Mq2h2k1e MqF noMk) (n := 20000) (m := [0, 13, 14, 15, 16, 20, 22, 23, 30, 31, 32]) hσ hO (by decide +kernel)
theorem Mq2h2k1p3 {σ : Nat → Value} (hσ : ∀ j, OneC (σ j)) {W0 : World} {H : Nat} (hO : OrcOK Tryz.prog σ W0 H (orcG Mq2h2k1e MqF noMk)) : Seg1 Tryz.prog σ W0 H 0 ([] : List Value).toArray (.code (seqL (seqL (seqR (seqR (seqR ((bodyOf Tryz.prog 3)))))))) (mkA Mq2h2k1l12) (mkW Mq2h2k1h21) .normal ([] : List Value).toArray (mkA Mq2h2k1l23) (mkW Mq2h2k1h24) :=
  seg1_ev (O := orcG Mq2h2k1e MqF noMk) (n := 20000) (m := [0, 1, 2, 3, 4, 5, 6, 7, 8, 9, 10]) hσ hO (by decide +kernel)
theorem Mq2h2k1p4 {σ : Nat → Value} (hσ : ∀ j, OneC (σ j)) {W0 : World} {H : Nat} (hO : OrcOK Tryz.prog σ W0 H (orcG Mq2h2k1e MqF noMk)) : Seg1 Tryz.prog σ W0 H 0 ([] : List Value).toArray (.code (seqR (seqL (seqR (seqR (seqR ((bodyOf Tryz.prog 3)))))))) (mkA Mq2h2k1l23) (mkW Mq2h2k1h24) .normal ([] : List Value).toArray (mkA Mq2h2k1l25) (mkW Mq2h2k1h26) :=
  seg1_ev (O := orcG Mq2h2k1e MqF noMk) (n := 20000) (m := [0, 1, 2, 3, 4, 5, 6, 7, 8, 9, 10]) hσ hO (by decide +kernel)
theorem Mq2h2k1p5 {σ : Nat → Value} (hσ : ∀ j, OneC (σ j)) {W0 : World} {H : Nat} (hO : OrcOK Tryz.prog σ W0 H (orcG Mq2h2k1e MqF noMk)) : Seg1 Tryz.prog σ W0 H 0 ([] : List Value).toArray (.code (seqL (seqR (seqR (seqR (seqR ((bodyOf Tryz.prog 3)))))))) (mkA Mq2h2k1l25) (mkW Mq2h2k1h26) .normal ([] : List Value).toArray (mkA Mq2h2k1l29) (mkW Mq2h2k1h31) :=
  seg1_ev (O := orcG Mq2h2k1e MqF noMk) (n := 20000) (m := [0, 1, 2, 3, 4, 5, 6, 7, 8, 9, 10, 11]) hσ hO (by decide +kernel)
theorem Mq2h2k1p6 {σ : Nat → Value} (hσ : ∀ j, OneC (σ j)) {W0 : World} {H : Nat} (hO : OrcOK Tryz.prog σ W0 H (orcG Mq2h2k1e MqF noMk)) : Seg1 Tryz.prog σ W0 H 0 ([] : List Value).toArray (.code (seqL (seqR (seqR (seqR (seqR (seqR ((bodyOf Tryz.prog 3))))))))) (mkA Mq2h2k1l29) (mkW Mq2h2k1h31) .normal ([] : List Value).toArray (mkA Mq2h2k1l36) (mkW Mq2h2k1h42) :=
  seg1_ev (O := orcG Mq2h2k1e MqF noMk) (n := 20000) (m := [0, 1, 2, 3, 4, 5, 6, 7, 8, 9, 10, 11, 13, 40, 42, 43, 47, 48, 49, 50, 51, 52, 53, 54]) hσ hO (by decide +kernel)
theorem Mq2h2k1p7 {σ : Nat → Value} (hσ : ∀ j, OneC (σ j)) {W0 : World} {H : Nat} (hO : OrcOK Tryz.prog σ W0 H (orcG Mq2h2k1e MqF noMk)) : Seg1 Tryz.prog σ W0 H 0 ([] : List Value).toArray (.code (seqL (seqL (seqR (seqR (seqR (seqR (seqR (seqR ((bodyOf Tryz.prog 3))))))))))) (mkA Mq2h2k1l36) (mkW Mq2h2k1h42) .normal ([] : List Value).toArray (mkA Mq2h2k1l45) (mkW Mq2h2k1h51) :=
  seg1_ev (O := orcG Mq2h2k1e MqF noMk) (n := 20000) (m := [0, 1, 2, 3, 4, 5, 6, 7, 8, 9, 10, 11, 14, 15, 34, 35, 36]) hσ hO (by decide +kernel)
theorem Mq2h2k1p8 {σ : Nat → Value} (hσ : ∀ j, OneC (σ j)) {W0 : World} {H : Nat} (hO : OrcOK Tryz.prog σ W0 H (orcG Mq2h2k1e MqF noMk)) : Seg1 Tryz.prog σ W0 H 0 ([] : List Value).toArray (.code (seqR (seqL (seqR (seqR (seqR (seqR (seqR (seqR ((bodyOf Tryz.prog 3))))))))))) (mkA Mq2h2k1l45) (mkW Mq2h2k1h51) .normal ([] : List Value).toArray (mkA Mq2h2k1l52) (mkW Mq2h2k1h53) :=
  seg1_ev (O := orcG Mq2h2k1e MqF noMk) (n := 20000) (m := [0, 1, 2, 3, 4, 5, 6, 7, 8, 9, 10, 11, 12, 13, 14, 15, 16]) hσ hO (by decide +kernel)
theorem Mq2h2k1p9 {σ : Nat → Value} (hσ : ∀ j, OneC (σ j)) {W0 : World} {H : Nat} (hO : OrcOK Tryz.prog σ W0 H (orcG Mq2h2k1e MqF noMk)) : Seg1 Tryz.prog σ W0 H 0 ([] : List Value).toArray (.code (seqL (seqR (seqR (seqR (seqR (seqR (seqR (seqR ((bodyOf Tryz.prog 3))))))))))) (mkA Mq2h2k1l52) (mkW Mq2h2k1h53) .normal ([] : List Value).toArray (mkA Mq2h2k1l56) (mkW Mq2h2k1h60) :=
  seg1_ev (O := orcG Mq2h2k1e MqF noMk) (n := 20000) (m := [0, 1, 2, 3, 4, 5, 6, 7, 8, 9, 10, 11, 12, 13, 23, 24, 25, 26, 27]) hσ hO (by decide +kernel)
theorem Mq2h2k1p10 {σ : Nat → Value} (hσ : ∀ j, OneC (σ j)) {W0 : World} {H : Nat} (hO : OrcOK Tryz.prog σ W0 H (orcG Mq2h2k1e MqF noMk)) : Seg1 Tryz.prog σ W0 H 0 ([] : List Value).toArray (.code (seqL (seqL (seqR (seqR (seqR (seqR (seqR (seqR (seqR (seqR ((bodyOf Tryz.prog 3))))))))))))) (mkA Mq2h2k1l56) (mkW Mq2h2k1h60) .normal ([] : List Value).toArray (mkA Mq2h2k1l63) (mkW Mq2h2k1h64) :=
  seg1_ev (O := orcG Mq2h2k1e MqF noMk) (n := 20000) (m := [0, 1, 2, 3, 4, 5, 6, 7, 8, 9, 10, 11, 12, 13, 14, 15, 16, 17, 18]) hσ hO (by decide +kernel)
theorem Mq2h2k1p11 {σ : Nat → Value} (hσ : ∀ j, OneC (σ j)) {W0 : World} {H : Nat} (hO : OrcOK Tryz.prog σ W0 H (orcG Mq2h2k1e MqF noMk)) : Seg1 Tryz.prog σ W0 H 0 ([] : List Value).toArray (.code (seqR (seqL (seqR (seqR (seqR (seqR (seqR (seqR (seqR (seqR ((bodyOf Tryz.prog 3))))))))))))) (mkA Mq2h2k1l63) (mkW Mq2h2k1h64) .normal ([] : List Value).toArray (mkA Mq2h2k1l65) (mkW Mq2h2k1h66) :=
  seg1_ev (O := orcG Mq2h2k1e MqF noMk) (n := 20000) (m := [0, 1, 2, 3, 4, 5, 6, 7, 8, 9, 10, 11, 12, 13, 14, 15, 16, 17, 18]) hσ hO (by decide +kernel)
theorem Mq2h2k1p12 {σ : Nat → Value} (hσ : ∀ j, OneC (σ j)) {W0 : World} {H : Nat} (hO : OrcOK Tryz.prog σ W0 H (orcG Mq2h2k1e MqF noMk)) : Seg1 Tryz.prog σ W0 H 0 ([] : List Value).toArray (.code (seqL (seqR (seqR (seqR (seqR (seqR (seqR (seqR (seqR (seqR ((bodyOf Tryz.prog 3))))))))))))) (mkA Mq2h2k1l65) (mkW Mq2h2k1h66) .normal ([] : List Value).toArray (mkA Mq2h2k1l68) (mkW Mq2h2k1h69) :=
  seg1_ev (O := orcG Mq2h2k1e MqF noMk) (n := 20000) (m := [0, 1, 2, 3, 4, 5, 6, 7, 8, 9, 10, 11, 12, 13, 14, 15, 16, 17, 18]) hσ hO (by decide +kernel)
theorem Mq2h2k1p13 {σ : Nat → Value} (hσ : ∀ j, OneC (σ j)) {W0 : World} {H : Nat} (hO : OrcOK Tryz.prog σ W0 H (orcG Mq2h2k1e MqF noMk)) : Seg1 Tryz.prog σ W0 H 0 ([] : List Value).toArray (.code (seqL (seqL (seqR (seqR (seqR (seqR (seqR (seqR (seqR (seqR (seqR (seqR ((bodyOf Tryz.prog 3))))))))))))))) (mkA Mq2h2k1l68) (mkW Mq2h2k1h69) .normal ([] : List Value).toArray (mkA Mq2h2k1l71) (mkW Mq2h2k1h72) :=
  seg1_ev (O := orcG Mq2h2k1e MqF noMk) (n := 20000) (m := [0, 1, 2, 3, 4, 5, 6, 7, 8, 9, 10, 11, 12, 13, 14, 15, 16, 17, 18]) hσ hO (by decide +kernel)
theorem Mq2h2k1p14 {σ : Nat → Value} (hσ : ∀ j, OneC (σ j)) {W0 : World} {H : Nat} (hO : OrcOK Tryz.prog σ W0 H (orcG Mq2h2k1e MqF noMk)) : Seg1 Tryz.prog σ W0 H 0 ([] : List Value).toArray (.code (seqR (seqL (seqR (seqR (seqR (seqR (seqR (seqR (seqR (seqR (seqR (seqR ((bodyOf Tryz.prog 3))))))))))))))) (mkA Mq2h2k1l71) (mkW Mq2h2k1h72) .normal ([] : List Value).toArray (mkA Mq2h2k1l76) (mkW Mq2h2k1h77) :=
  seg1_ev (O := orcG Mq2h2k1e MqF noMk) (n := 20000) (m := [0, 1, 2, 3, 4, 5, 6, 7, 8, 9, 10, 11, 12, 13, 14, 15, 16, 17, 18]) hσ hO (by decide +kernel)
theorem Mq2h2k1p15 {σ : Nat → Value} (hσ : ∀ j, OneC (σ j)) {W0 : World} {H : Nat} (hO : OrcOK Tryz.prog σ W0 H (orcG Mq2h2k1e MqF noMk)) : Seg1 Tryz.prog σ W0 H 0 ([] : List Value).toArray (.code (seqL (seqR (seqR (seqR (seqR (seqR (seqR (seqR (seqR (seqR (seqR (seqR ((bodyOf Tryz.prog 3))))))))))))))) (mkA Mq2h2k1l76) (mkW Mq2h2k1h77) .normal ([] : List Value).toArray (mkA Mq2h2k1l80) (mkW Mq2h2k1h81) :=
  seg1_ev (O := orcG Mq2h2k1e MqF noMk) (n := 20000) (m := [0, 1, 2, 3, 4, 5, 6, 7, 8, 9, 10, 11, 12, 13, 14, 15, 16, 17, 18]) hσ hO (by decide +kernel)
theorem Mq2h2k1p16 {σ : Nat → Value} (hσ : ∀ j, OneC (σ j)) {W0 : World} {H : Nat} (hO : OrcOK Tryz.prog σ W0 H (orcG Mq2h2k1e MqF noMk)) : Seg1 Tryz.prog σ W0 H 0 ([] : List Value).toArray (.code (seqL (seqL (seqR (seqR (seqR (seqR (seqR (seqR (seqR (seqR (seqR (seqR (seqR (seqR ((bodyOf Tryz.prog 3))))))))))))))))) (mkA Mq2h2k1l80) (mkW Mq2h2k1h81) .normal ([] : List Value).toArray (mkA Mq2h2k1l84) (mkW Mq2h2k1h85) :=
  seg1_ev (O := orcG Mq2h2k1e MqF noMk) (n := 20000) (m := [0, 1, 2, 3, 4, 5, 6, 7, 8, 9, 10, 11, 12, 13, 14, 15, 16, 17, 18]) hσ hO (by decide +kernel)
theorem Mq2h2k1p17 {σ : Nat → Value} (hσ : ∀ j, OneC (σ j)) {W0 : World} {H : Nat} (hO : OrcOK Tryz.prog σ W0 H (orcG Mq2h2k1e MqF noMk)) : Seg1 Tryz.prog σ W0 H 0 ([] : List Value).toArray (.code (seqR (seqL (seqR (seqR (seqR (seqR (seqR (seqR (seqR (seqR (seqR (seqR (seqR (seqR ((bodyOf Tryz.prog 3))))))))))))))))) (mkA Mq2h2k1l84) (mkW Mq2h2k1h85) .normal ([] : List Value).toArray (mkA Mq2h2k1l86) (mkW Mq2h2k1h87) :=
  seg1_ev (O := orcG Mq2h2k1e MqF noMk) (n := 20000) (m := [0, 1, 2, 3, 4, 5, 6, 7, 8, 9, 10, 11, 12, 13, 14, 15, 16, 17, 18]) hσ hO (by decide +kernel)
theorem Mq2h2k1p18 {σ : Nat → Value} (hσ : ∀ j, OneC (σ j)) {W0 : World} {H : Nat} (hO : OrcOK Tryz.prog σ W0 H (orcG Mq2h2k1e MqF noMk)) : Seg1 Tryz.prog σ W0 H 0 ([] : List Value).toArray (.code (seqL (seqL (seqR (seqR (seqR (seqR (seqR (seqR (seqR (seqR (seqR (seqR (seqR (seqR (seqR ((bodyOf Tryz.prog 3)))))))))))))))))) (mkA Mq2h2k1l86) (mkW Mq2h2k1h87) .normal ([] : List Value).toArray (mkA Mq2h2k1l89) (mkW Mq2h2k1h90) :=
  seg1_ev (O := orcG Mq2h2k1e MqF noMk) (n := 20000) (m := [0, 1, 2, 3, 4, 5, 6, 7, 8, 9, 10, 11, 12, 13, 14, 15, 16, 17, 18]) hσ hO (by decide +kernel)
theorem Mq2h2k1p19 {σ : Nat → Value} (hσ : ∀ j, OneC (σ j)) {W0 : World} {H : Nat} (hO : OrcOK Tryz.prog σ W0 H (orcG Mq2h2k1e MqF noMk)) : Seg1 Tryz.prog σ W0 H 0 ([] : List Value).toArray (.code (inL (inB (seqR (seqL (seqR (seqR (seqR (seqR (seqR (seqR (seqR (seqR (seqR (seqR (seqR (seqR (seqR ((bodyOf Tryz.prog 3)))))))))))))))))))) (mkA Mq2h2k1l89) (mkW Mq2h2k1h90) .normal ([] : List Value).toArray (mkA Mq2h2k1l98) (mkW Mq2h2k1h103) :=
  seg1_ev (O := orcG Mq2h2k1e MqF noMk) (n := 20000) (m := [0, 1, 2, 3, 4, 5, 6, 7, 8, 9, 10, 11, 12, 13, 18, 24, 25, 26, 27, 28]) hσ hO (by decide +kernel)
theorem Mq2h2k1p20 {σ : Nat → Value} (hσ : ∀ j, OneC (σ j)) {W0 : World} {H : Nat} (hO : OrcOK Tryz.prog σ W0 H (orcG Mq2h2k1e MqF noMk)) : Seg1 Tryz.prog σ W0 H 0 ([] : List Value).toArray (.code (inL (inB (seqR (seqL (seqR (seqR (seqR (seqR (seqR (seqR (seqR (seqR (seqR (seqR (seqR (seqR (seqR ((bodyOf Tryz.prog 3)))))))))))))))))))) (mkA Mq2h2k1l98) (mkW Mq2h2k1h103) .normal ([] : List Value).toArray (mkA Mq2h2k1l108) (mkW Mq2h2k1h113) :=
  seg1_ev (O := orcG Mq2h2k1e MqF noMk) (n := 20000) (m := [0, 1, 2, 3, 4, 5, 6, 7, 8, 9, 10, 11, 12, 13, 14, 15, 27, 28, 29, 30]) hσ hO (by decide +kernel)
theorem Mq2h2k1p21 {σ : Nat → Value} (hσ : ∀ j, OneC (σ j)) {W0 : World} {H : Nat} (hO : OrcOK Tryz.prog σ W0 H (orcG Mq2h2k1e MqF noMk)) : Seg1 Tryz.prog σ W0 H 0 ([] : List Value).toArray (.code (inL (inB (seqR (seqL (seqR (seqR (seqR (seqR (seqR (seqR (seqR (seqR (seqR (seqR (seqR (seqR (seqR ((bodyOf Tryz.prog 3)))))))))))))))))))) (mkA Mq2h2k1l108) (mkW Mq2h2k1h113) .normal ([] : List Value).toArray (mkA Mq2h2k1l120) (mkW Mq2h2k1h125) :=
  seg1_ev (O := orcG Mq2h2k1e MqF noMk) (n := 20000) (m := [0, 1, 2, 3, 4, 5, 6, 7, 8, 9, 10, 11, 12, 13, 14, 15, 24, 25, 26, 27]) hσ hO (by decide +kernel)
theorem Mq2h2k1p22 {σ : Nat → Value} (hσ : ∀ j, OneC (σ j)) {W0 : World} {H : Nat} (hO : OrcOK Tryz.prog σ W0 H (orcG Mq2h2k1e MqF noMk)) : Seg1 Tryz.prog σ W0 H 0 ([] : List Value).toArray (.code (inL (inB (seqR (seqL (seqR (seqR (seqR (seqR (seqR (seqR (seqR (seqR (seqR (seqR (seqR (seqR (seqR ((bodyOf Tryz.prog 3)))))))))))))))))))) (mkA Mq2h2k1l120) (mkW Mq2h2k1h125) .normal ([] : List Value).toArray (mkA Mq2h2k1l130) (mkW Mq2h2k1h137) :=
  seg1_ev (O := orcG Mq2h2k1e MqF noMk) (n := 20000) (m := [0, 1, 2, 3, 4, 5, 6, 7, 8, 9, 10, 11, 12, 13, 14, 15, 24, 25, 28, 29, 30, 31, 32, 33]) hσ hO (by decide +kernel)
theorem Mq2h2k1p23 {σ : Nat → Value} (hσ : ∀ j, OneC (σ j)) {W0 : World} {H : Nat} (hO : OrcOK Tryz.prog σ W0 H (orcG Mq2h2k1e MqF noMk)) : Seg1 Tryz.prog σ W0 H 0 ([] : List Value).toArray (.code (inL (inB (seqR (seqL (seqR (seqR (seqR (seqR (seqR (seqR (seqR (seqR (seqR (seqR (seqR (seqR (seqR ((bodyOf Tryz.prog 3)))))))))))))))))))) (mkA Mq2h2k1l130) (mkW Mq2h2k1h137) (.exit 0) ([] : List Value).toArray (mkA Mq2h2k1l139) (mkW Mq2h2k1h140) :=
  seg1_ev (O := orcG Mq2h2k1e MqF noMk) (n := 20000) (m := [0, 1, 2, 3, 4, 5, 6, 7, 8, 9, 10, 11, 12, 13, 14, 15, 16, 17, 18, 19, 20, 21, 22, 23]) hσ hO (by decide +kernel)
theorem Mq2h2k1p24 {σ : Nat → Value} (hσ : ∀ j, OneC (σ j)) {W0 : World} {H : Nat} (hO : OrcOK Tryz.prog σ W0 H (orcG Mq2h2k1e MqF noMk)) : Seg1 Tryz.prog σ W0 H 0 ([] : List Value).toArray (.code (seqL (seqL (seqR (seqR (seqR (seqR (seqR (seqR (seqR (seqR (seqR (seqR (seqR (seqR (seqR (seqR ((bodyOf Tryz.prog 3))))))))))))))))))) (mkA Mq2h2k1l139) (mkW Mq2h2k1h140) .normal ([] : List Value).toArray (mkA Mq2h2k1l143) (mkW Mq2h2k1h146) :=
  seg1_ev (O := orcG Mq2h2k1e MqF noMk) (n := 20000) (m := [0, 1, 2, 3, 4, 5, 6, 7, 8, 9, 10, 11, 12, 13, 14, 15]) hσ hO (by decide +kernel)
theorem Mq2h2k1p25 {σ : Nat → Value} (hσ : ∀ j, OneC (σ j)) {W0 : World} {H : Nat} (hO : OrcOK Tryz.prog σ W0 H (orcG Mq2h2k1e MqF noMk)) : Seg1 Tryz.prog σ W0 H 0 ([] : List Value).toArray (.code (seqR (seqL (seqR (seqR (seqR (seqR (seqR (seqR (seqR (seqR (seqR (seqR (seqR (seqR (seqR (seqR ((bodyOf Tryz.prog 3))))))))))))))))))) (mkA Mq2h2k1l143) (mkW Mq2h2k1h146) .normal ([] : List Value).toArray (mkA Mq2h2k1l147) (mkW Mq2h2k1h148) :=
  seg1_ev (O := orcG Mq2h2k1e MqF noMk) (n := 20000) (m := [0, 1, 2, 3, 4, 5, 6, 7, 8, 9, 10, 11, 12, 13, 14, 15]) hσ hO (by decide +kernel)
theorem Mq2h2k1p26 {σ : Nat → Value} (hσ : ∀ j, OneC (σ j)) {W0 : World} {H : Nat} (hO : OrcOK Tryz.prog σ W0 H (orcG Mq2h2k1e MqF noMk)) : Seg1 Tryz.prog σ W0 H 0 ([] : List Value).toArray (.code (seqL (seqR (seqR (seqR (seqR (seqR (seqR (seqR (seqR (seqR (seqR (seqR (seqR (seqR (seqR (seqR ((bodyOf Tryz.prog 3))))))))))))))))))) (mkA Mq2h2k1l147) (mkW Mq2h2k1h148) .normal ([] : List Value).toArray (mkA Mq2h2k1l151) (mkW Mq2h2k1h152) :=
  seg1_ev (O := orcG Mq2h2k1e MqF noMk) (n := 20000) (m := [0, 1, 2, 3, 4, 5, 6, 7, 8, 9, 10, 11, 12, 13, 14, 15]) hσ hO (by decide +kernel)
theorem Mq2h2k1p27 {σ : Nat → Value} (hσ : ∀ j, OneC (σ j)) {W0 : World} {H : Nat} (hO : OrcOK Tryz.prog σ W0 H (orcG Mq2h2k1e MqF noMk)) : Seg1 Tryz.prog σ W0 H 0 ([] : List Value).toArray (.code (seqL (seqR (seqR (seqR (seqR (seqR (seqR (seqR (seqR (seqR (seqR (seqR (seqR (seqR (seqR (seqR (seqR ((bodyOf Tryz.prog 3)))))))))))))))))))) (mkA Mq2h2k1l151) (mkW Mq2h2k1h152) .normal ([] : List Value).toArray (mkA Mq2h2k1l156) (mkW Mq2h2k1h157) :=
  seg1_ev (O := orcG Mq2h2k1e MqF noMk) (n := 20000) (m := [0, 1, 2, 3, 4, 5, 6, 7, 8, 9, 10, 11, 12, 13, 14, 15]) hσ hO (by decide +kernel)
theorem Mq2h2k1p28 {σ : Nat → Value} (hσ : ∀ j, OneC (σ j)) {W0 : World} {H : Nat} (hO : OrcOK Tryz.prog σ W0 H (orcG Mq2h2k1e MqF noMk)) : Seg1 Tryz.prog σ W0 H 0 ([] : List Value).toArray (.code (seqR (seqR (seqR (seqR (seqR (seqR (seqR (seqR (seqR (seqR (seqR (seqR (seqR (seqR (seqR (seqR (seqR ((bodyOf Tryz.prog 3)))))))))))))))))))) (mkA Mq2h2k1l156) (mkW Mq2h2k1h157) .ret ([] : List Value).toArray (mkA Mq2h2k1l158) (mkW Mq2h2k1h159) :=
  seg1_ev (O := orcG Mq2h2k1e MqF noMk) (n := 20000) (m := [0, 1, 2, 3, 4, 5, 6, 7, 8, 9, 10, 11, 12, 13, 14, 15]) hσ hO (by decide +kernel)
set_option maxHeartbeats 1000000 in
theorem Mq2h2k1_any (pg n wh hw mn r q : Int) (w : World) (hpg : 0 ≤ pg ∧ pg < 256) (hn : 0 ≤ n ∧ n < 65536) (hwh : 0 ≤ wh ∧ wh < 256) (hmn : 0 ≤ mn ∧ mn < 256) (hhw : 0 ≤ hw ∧ hw < 256) (hr : Int.tmod pg 30 = r) (hr2 : 0 ≤ r ∧ r < 30) (hq : Int.tmod n (4096 - (1 + r)) = q) (hq2 : 0 ≤ q ∧ q < 4096 - (1 + r)) (hm : Int.tmod mn 4 = 2) (hk : Int.tmod wh 2 = 1) (hh : Int.tmod hw 3 = 2) : Calls Tryz.prog 3 #[.int .u8 pg, .int .u16 n, .int .u8 wh, .int .u8 hw, .int .u8 mn] w fun e w' => e = .returned (.bool true) ∧ Ext w w' := by
  have hE : AllOK Tryz.prog (sgV [.int .i64 (96 + 6 * (1 + r) + 2), .int .u8 pg, .int .u16 n, .int .u8 wh, .int .u8 mn, .int .u8 hw, .int .i64 mn, .int .i64 pg, .int .i64 r, .int .i64 (1 + r), .int .i64 wh, .int .i64 (5 * (1 + r)), .int .i64 (96 + (5 * (1 + r))), .int .i64 ((96 + (5 * (1 + r))) + (1 + r)), .int .i64 ((1 + r) + 64), .int .i64 (((1 + r) + 64) - 1), .int .i64 (((96 + (5 * (1 + r))) + (1 + r)) + 1), .int .i64 (8192 * (1 + r)), .int .i64 (6 * (1 + r)), .int .i64 ((1 + r) + 1), .int .i64 n, .int .i64 (4096 - (1 + r)), .int .i64 q, .int .i64 (((1 + r) + 1) + q), .int .u64 (((1 + r) + 1) + q), .int .u64 (1 + r)]) Mq2h2k1e := AllOK.cons (ent_conv Tryz.underlying5 Tryz.underlying3 rfl (by exact congrArg (Value.int .i64) (i64_in mn (by omega)).symm) rfl) (
    AllOK.cons (ent_rem (a := mn) (c := 4) rfl rfl (by omega) (by exact congrArg (Value.int .i64) hm.symm) rfl) (
    AllOK.cons (ent_conv Tryz.underlying5 Tryz.underlying3 rfl (by exact congrArg (Value.int .i64) (i64_in pg (by omega)).symm) rfl) (
    AllOK.cons (ent_rem (a := pg) (c := 30) rfl rfl (by omega) (by exact congrArg (Value.int .i64) hr.symm) rfl) (
    AllOK.cons (ent_add (a := 1) (c := r) rfl rfl (by exact congrArg (Value.int .i64) (i64_in _ (by omega)).symm) rfl) (
    AllOK.cons (ent_conv Tryz.underlying5 Tryz.underlying3 rfl (by exact congrArg (Value.int .i64) (i64_in wh (by omega)).symm) rfl) (
    AllOK.cons (ent_rem (a := wh) (c := 2) rfl rfl (by omega) (by exact congrArg (Value.int .i64) hk.symm) rfl) (
    AllOK.cons (ent_rem (a := hw) (c := 3) rfl rfl (by omega) (by exact congrArg (Value.int .u8) hh.symm) rfl) (
    AllOK.cons (ent_cmp (op := .geq) (a := 1 + r) (c := 1) rfl rfl (decide_eq_true (by omega)).symm) (
    AllOK.cons (ent_cmp (op := .leq) (a := 1 + r) (c := 4096) rfl rfl (decide_eq_true (by omega)).symm) (
    AllOK.cons (ent_mul (a := 5) (c := 1 + r) rfl rfl (by exact congrArg (Value.int .i64) ((i64_in (5 * (1 + r)) (by omega)).trans (show (5 * (1 + r) : Int) = 5 * (1 + r) by omega)).symm) rfl) (
    AllOK.cons (ent_add (a := 96) (c := 5 * (1 + r)) rfl rfl (by exact congrArg (Value.int .i64) ((i64_in (96 + (5 * (1 + r))) (by omega)).trans (show (96 + (5 * (1 + r)) : Int) = 96 + (5 * (1 + r)) by omega)).symm) rfl) (
    AllOK.cons (ent_add (a := 96 + (5 * (1 + r))) (c := 1 + r) rfl rfl (by exact congrArg (Value.int .i64) ((i64_in ((96 + (5 * (1 + r))) + (1 + r)) (by omega)).trans (show ((96 + (5 * (1 + r))) + (1 + r) : Int) = (96 + (5 * (1 + r))) + (1 + r) by omega)).symm) rfl) (
    AllOK.cons (ent_add (a := 1 + r) (c := 64) rfl rfl (by exact congrArg (Value.int .i64) ((i64_in ((1 + r) + 64) (by omega)).trans (show ((1 + r) + 64 : Int) = (1 + r) + 64 by omega)).symm) rfl) (
    AllOK.cons (ent_sub (a := (1 + r) + 64) (c := 1) rfl rfl (by exact congrArg (Value.int .i64) ((i64_in (((1 + r) + 64) - 1) (by omega)).trans (show (((1 + r) + 64) - 1 : Int) = ((1 + r) + 64) - 1 by omega)).symm) rfl) (
    AllOK.cons (ent_quo (a := ((1 + r) + 64) - 1) (c := 64) rfl rfl (by omega) (by exact congrArg (Value.int .i64) (quoC (a := ((1 + r) + 64) - 1) (c := 64) (q := 1) (by omega) (by omega) (by omega) (by omega) (by omega)).symm) rfl) (
    AllOK.cons (ent_add (a := (96 + (5 * (1 + r))) + (1 + r)) (c := 1) rfl rfl (by exact congrArg (Value.int .i64) ((i64_in (((96 + (5 * (1 + r))) + (1 + r)) + 1) (by omega)).trans (show (((96 + (5 * (1 + r))) + (1 + r)) + 1 : Int) = ((96 + (5 * (1 + r))) + (1 + r)) + 1 by omega)).symm) rfl) (
    AllOK.cons (ent_add (a := ((96 + (5 * (1 + r))) + (1 + r)) + 1) (c := 1) rfl rfl (by exact congrArg (Value.int .i64) ((i64_in ((((96 + (5 * (1 + r))) + (1 + r)) + 1) + 1) (by omega)).trans (show ((((96 + (5 * (1 + r))) + (1 + r)) + 1) + 1 : Int) = 96 + 6 * (1 + r) + 2 by omega)).symm) rfl) (
    AllOK.cons (ent_cmp (op := .lss) (a := 96 + 6 * (1 + r) + 2) (c := 1) rfl rfl (decide_eq_false (by omega)).symm) (
    AllOK.cons (ent_cmp (op := .gtr) (a := 96 + 6 * (1 + r) + 2) (c := 65536) rfl rfl (decide_eq_false (by omega)).symm) (
    AllOK.cons (ent_cmp (op := .geq) (a := 0) (c := 96 + 6 * (1 + r) + 2) rfl rfl (decide_eq_false (by omega)).symm) (
    AllOK.cons (ent_cmp (op := .lss) (a := 1 + r) (c := 1) rfl rfl (decide_eq_false (by omega)).symm) (
    AllOK.cons (ent_cmp (op := .gtr) (a := 1 + r) (c := 4096) rfl rfl (decide_eq_false (by omega)).symm) (
    AllOK.cons (ent_mul (a := 8192) (c := 1 + r) rfl rfl (by exact congrArg (Value.int .i64) ((i64_in (8192 * (1 + r)) (by omega)).trans (show (8192 * (1 + r) : Int) = 8192 * (1 + r) by omega)).symm) rfl) (
    AllOK.cons (ent_add (a := 8192 * (1 + r)) (c := 0) rfl rfl (by exact congrArg (Value.int .i64) ((i64_in ((8192 * (1 + r)) + 0) (by omega)).trans (show ((8192 * (1 + r)) + 0 : Int) = 8192 * (1 + r) by omega)).symm) rfl) (
    AllOK.cons (ent_add (a := 0) (c := 1 + r) rfl rfl (by exact congrArg (Value.int .i64) ((i64_in (0 + (1 + r)) (by omega)).trans (show (0 + (1 + r) : Int) = 1 + r by omega)).symm) rfl) (
    AllOK.cons (ent_mul (a := 6) (c := 1 + r) rfl rfl (by exact congrArg (Value.int .i64) ((i64_in (6 * (1 + r)) (by omega)).trans (show (6 * (1 + r) : Int) = 6 * (1 + r) by omega)).symm) rfl) (
    AllOK.cons (ent_add (a := 96) (c := 6 * (1 + r)) rfl rfl (by exact congrArg (Value.int .i64) ((i64_in (96 + (6 * (1 + r))) (by omega)).trans (show (96 + (6 * (1 + r)) : Int) = (96 + (5 * (1 + r))) + (1 + r) by omega)).symm) rfl) (
    AllOK.cons (ent_add (a := 1 + r) (c := 63) rfl rfl (by exact congrArg (Value.int .i64) ((i64_in ((1 + r) + 63) (by omega)).trans (show ((1 + r) + 63 : Int) = ((1 + r) + 64) - 1 by omega)).symm) rfl) (
    AllOK.cons (ent_add (a := (96 + (5 * (1 + r))) + (1 + r)) (c := 2) rfl rfl (by exact congrArg (Value.int .i64) ((i64_in (((96 + (5 * (1 + r))) + (1 + r)) + 2) (by omega)).trans (show (((96 + (5 * (1 + r))) + (1 + r)) + 2 : Int) = 96 + 6 * (1 + r) + 2 by omega)).symm) rfl) (
    AllOK.cons (ent_add (a := 1 + r) (c := 1) rfl rfl (by exact congrArg (Value.int .i64) ((i64_in ((1 + r) + 1) (by omega)).trans (show ((1 + r) + 1 : Int) = (1 + r) + 1 by omega)).symm) rfl) (
    AllOK.cons (ent_conv Tryz.underlying22 Tryz.underlying3 rfl (by exact congrArg (Value.int .i64) ((i64_in n (by omega)).trans (show (n : Int) = n by omega)).symm) rfl) (
    AllOK.cons (ent_sub (a := 4096) (c := 1 + r) rfl rfl (by exact congrArg (Value.int .i64) ((i64_in (4096 - (1 + r)) (by omega)).trans (show (4096 - (1 + r) : Int) = 4096 - (1 + r) by omega)).symm) rfl) (
    AllOK.cons (ent_rem (a := n) (c := 4096 - (1 + r)) rfl rfl (by omega) (by exact congrArg (Value.int .i64) hq.symm) rfl) (
    AllOK.cons (ent_add (a := (1 + r) + 1) (c := q) rfl rfl (by exact congrArg (Value.int .i64) ((i64_in (((1 + r) + 1) + q) (by omega)).trans (show (((1 + r) + 1) + q : Int) = ((1 + r) + 1) + q by omega)).symm) rfl) (
    AllOK.cons (ent_cmp (op := .lss) (a := ((1 + r) + 1) + q) (c := 1) rfl rfl (decide_eq_false (by omega)).symm) (
    AllOK.cons (ent_cmp (op := .gtr) (a := ((1 + r) + 1) + q) (c := 4096) rfl rfl (decide_eq_false (by omega)).symm) (
    AllOK.cons (ent_cmp (op := .lss) (a := 9) (c := 96 + 6 * (1 + r) + 2) rfl rfl (decide_eq_true (by omega)).symm) (
    AllOK.cons (ent_cmp (op := .lss) (a := 10) (c := 96 + 6 * (1 + r) + 2) rfl rfl (decide_eq_true (by omega)).symm) (
    AllOK.cons (lay_same (P := 1 + r) (T := 2) rfl) (
    AllOK.cons (ent_cmp (op := .geq) (a := 2) (c := 96 + 6 * (1 + r) + 2) rfl rfl (decide_eq_false (by omega)).symm) (
    AllOK.cons (ent_cmp (op := .gtr) (a := ((1 + r) + 1) + q) (c := 1 + r) rfl rfl (decide_eq_true (by omega)).symm) (
    AllOK.cons (ent_conv Tryz.underlying3 Tryz.underlying40 rfl (by exact congrArg (Value.int .u64) ((u64_in (((1 + r) + 1) + q) (by omega)).trans (show (((1 + r) + 1) + q : Int) = ((1 + r) + 1) + q by omega)).symm) rfl) (
    AllOK.cons (ent_conv Tryz.underlying3 Tryz.underlying40 rfl (by exact congrArg (Value.int .u64) ((u64_in (1 + r) (by omega)).trans (show (1 + r : Int) = 1 + r by omega)).symm) rfl) (
    AllOK.cons (ent_cmp (op := .neq) (a := 1 + r) (c := 1 + r) rfl rfl (by simp)) (
    AllOK.cons (ent_cmp (op := .geq) (a := 9) (c := 96 + 6 * (1 + r) + 2) rfl rfl (decide_eq_false (by omega)).symm) (
    AllOK.cons (ent_cmp (op := .geq) (a := 10) (c := 96 + 6 * (1 + r) + 2) rfl rfl (decide_eq_false (by omega)).symm) (
    AllOK.cons (ent_cmp (op := .eql) (a := 1 + r) (c := 1 + r) rfl rfl (by simp)) (
    AllOK.nil))))))))))))))))))))))))))))))))))))))))))))))))
  exact key_Mq rfl (seg_tokG (P := Tryz.prog) (l := [.int .i64 (96 + 6 * (1 + r) + 2), .int .u8 pg, .int .u16 n, .int .u8 wh, .int .u8 mn, .int .u8 hw, .int .i64 mn, .int .i64 pg, .int .i64 r, .int .i64 (1 + r), .int .i64 wh, .int .i64 (5 * (1 + r)), .int .i64 (96 + (5 * (1 + r))), .int .i64 ((96 + (5 * (1 + r))) + (1 + r)), .int .i64 ((1 + r) + 64), .int .i64 (((1 + r) + 64) - 1), .int .i64 (((96 + (5 * (1 + r))) + (1 + r)) + 1), .int .i64 (8192 * (1 + r)), .int .i64 (6 * (1 + r)), .int .i64 ((1 + r) + 1), .int .i64 n, .int .i64 (4096 - (1 + r)), .int .i64 q, .int .i64 (((1 + r) + 1) + q), .int .u64 (((1 + r) + 1) + q), .int .u64 (1 + r)]) (TokL.int (TokL.int (TokL.int (TokL.int (TokL.int (TokL.int (TokL.int (TokL.int (TokL.int (TokL.int (TokL.int (TokL.int (TokL.int (TokL.int (TokL.int (TokL.int (TokL.int (TokL.int (TokL.int (TokL.int (TokL.int (TokL.int (TokL.int (TokL.int (TokL.int (TokL.int TokL.nil)))))))))))))))))))))))))) (es := Mq2h2k1e) (fs := MqF) (w := w) hE (MqF_ok (r := r) rfl hr2 w) (L := 96 + 6 * (1 + r) + 2) rfl (by omega) (by omega) (G := 0) (tabs := []) (Nat.zero_le _) (tabR_nil w) (f := 3) (args := #[kf 1, kf 2, kf 3, kf 5, kf 4]) (v := .bool true) Tryz.func3 rfl rfl (by decide +kernel)
    (fun hσ hO => (show Seg1 _ _ _ _ _ #[] (.code (bodyOf Tryz.prog 3)) _ _ .ret #[] (mkA Mq2h2k1l158) (mkW Mq2h2k1h159) from (Seg1.seqP (by rfl) (Mq2h2k1p0 hσ hO) (Seg1.seqP (by rfl) (Mq2h2k1p1 hσ hO) (Seg1.seqP (by rfl) (Mq2h2k1p2 hσ hO) (Seg1.seqP (by rfl) (Seg1.seqP (by rfl) (Mq2h2k1p3 hσ hO) (Mq2h2k1p4 hσ hO)) (Seg1.seqP (by rfl) (Mq2h2k1p5 hσ hO) (Seg1.seqP (by rfl) (Mq2h2k1p6 hσ hO) (Seg1.seqP (by rfl) (Seg1.seqP (by rfl) (Mq2h2k1p7 hσ hO) (Mq2h2k1p8 hσ hO)) (Seg1.seqP (by rfl) (Mq2h2k1p9 hσ hO) (Seg1.seqP (by rfl) (Seg1.seqP (by rfl) (Mq2h2k1p10 hσ hO) (Mq2h2k1p11 hσ hO)) (Seg1.seqP (by rfl) (Mq2h2k1p12 hσ hO) (Seg1.seqP (by rfl) (Seg1.seqP (by rfl) (Mq2h2k1p13 hσ hO) (Mq2h2k1p14 hσ hO)) (Seg1.seqP (by rfl) (Mq2h2k1p15 hσ hO) (Seg1.seqP (by rfl) (Seg1.seqP (by rfl) (Mq2h2k1p16 hσ hO) (Mq2h2k1p17 hσ hO)) (Seg1.seqP (by rfl) (Seg1.seqP (by rfl) (Mq2h2k1p18 hσ hO) (Seg1.loopP (by rfl) (Seg1.loopNext (Mq2h2k1p19 hσ hO) (Seg1.loopNext (Mq2h2k1p20 hσ hO) (Seg1.loopNext (Mq2h2k1p21 hσ hO) (Seg1.loopNext (Mq2h2k1p22 hσ hO) (Seg1.loopExit (Mq2h2k1p23 hσ hO)))))))) (Seg1.seqP (by rfl) (Seg1.seqP (by rfl) (Mq2h2k1p24 hσ hO) (Mq2h2k1p25 hσ hO)) (Seg1.seqP (by rfl) (Mq2h2k1p26 hσ hO) (Seg1.seqP (by rfl) (Mq2h2k1p27 hσ hO) (Mq2h2k1p28 hσ hO)))))))))))))))))))) (by first | exact .inl rfl | exact .inr rfl) (retTrue_eq (by decide +kernel)))
end Go.Proofs.YthggcmhmjkmjnaaGreat
