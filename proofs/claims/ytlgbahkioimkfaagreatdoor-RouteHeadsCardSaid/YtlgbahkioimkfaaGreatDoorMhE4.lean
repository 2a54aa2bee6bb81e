/- dustpan/dustpanlaw18.RouteHeads: its runs (printed by gen_heads.py). -/
import Derived.Test.YtlgbahkioimkfaaGreatDoorMhE
namespace Go.Proofs.YtlgbahkioimkfaaGreatDoor
open Go.RowKit
set_option linter.unusedVariables false
set_option maxRecDepth 100000
def MheC6_100 : List Ent := (eGe 3 (kf 0) (vI 1)) ++ (eLe 3 (kf 0) (vI 4096)) ++ (eGe 3 (kf 1) (vI 1)) ++ (eLe 3 (kf 1) (vI 64)) ++ (eGe 3 (kf 3) (vI 1)) ++ [⟨.bin .and 3, [kf 3, vI 1], vI 0⟩] ++ [⟨.bin .rem 3, [kf 3, vI 2], vI 0⟩]
theorem MhtC6_100 : isTrue (evCall (ev Tryz.prog (orcL MheC6_100 (fsL MhF)) 2 900) Tryz.prog (orcL MheC6_100 (fsL MhF)) [] 3 #[vG [kf 0, kf 1], vI 6, kf 3, vB false] (baseWorld 2 tabA)) = true := by decide +kernel
def MheC6_101 : List Ent := (eGe 3 (kf 0) (vI 1)) ++ (eLe 3 (kf 0) (vI 4096)) ++ (eGe 3 (kf 1) (vI 1)) ++ (eLe 3 (kf 1) (vI 64)) ++ (eGe 3 (kf 3) (vI 1)) ++ [⟨.bin .and 3, [kf 3, vI 1], vI 0⟩] ++ [⟨.bin .rem 3, [kf 3, vI 2], vI 0⟩]
theorem MhtC6_101 : isTrue (evCall (ev Tryz.prog (orcL MheC6_101 (fsL MhF)) 2 900) Tryz.prog (orcL MheC6_101 (fsL MhF)) [] 3 #[vG [kf 0, kf 1], vI 6, kf 3, vB true] (baseWorld 2 tabA)) = true := by decide +kernel
def MheC6_110 : List Ent := (eGe 3 (kf 0) (vI 1)) ++ (eLe 3 (kf 0) (vI 4096)) ++ (eGe 3 (kf 1) (vI 1)) ++ (eLe 3 (kf 1) (vI 64)) ++ (eGe 3 (kf 3) (vI 1)) ++ [⟨.bin .and 3, [kf 3, vI 1], vI 1⟩] ++ [⟨.bin .rem 3, [kf 3, vI 2], vI 1⟩]
theorem MhtC6_110 : isTrue (evCall (ev Tryz.prog (orcL MheC6_110 (fsL MhF)) 2 900) Tryz.prog (orcL MheC6_110 (fsL MhF)) [] 3 #[vG [kf 0, kf 1], vI 6, kf 3, vB false] (baseWorld 2 tabA)) = true := by decide +kernel
def MheC6_111 : List Ent := (eGe 3 (kf 0) (vI 1)) ++ (eLe 3 (kf 0) (vI 4096)) ++ (eGe 3 (kf 1) (vI 1)) ++ (eLe 3 (kf 1) (vI 64)) ++ (eGe 3 (kf 3) (vI 1)) ++ [⟨.bin .and 3, [kf 3, vI 1], vI 1⟩] ++ [⟨.bin .rem 3, [kf 3, vI 2], vI 1⟩]
theorem MhtC6_111 : isTrue (evCall (ev Tryz.prog (orcL MheC6_111 (fsL MhF)) 2 900) Tryz.prog (orcL MheC6_111 (fsL MhF)) [] 3 #[vG [kf 0, kf 1], vI 6, kf 3, vB true] (baseWorld 2 tabA)) = true := by decide +kernel
def MheC6_000 : List Ent := (eGe 3 (kf 0) (vI 1)) ++ (eLe 3 (kf 0) (vI 4096)) ++ (eGe 3 (kf 1) (vI 1)) ++ (eLe 3 (kf 1) (vI 64)) ++ (eLt 3 (kf 3) (vI 1)) ++ [⟨.bin .and 3, [kf 3, vI 1], vI 0⟩]
theorem MhtC6_000 : isTrue (evCall (ev Tryz.prog (orcL MheC6_000 (fsL MhF)) 2 900) Tryz.prog (orcL MheC6_000 (fsL MhF)) [] 3 #[vG [kf 0, kf 1], vI 6, kf 3, vB false] (baseWorld 2 tabA)) = true := by decide +kernel
def MheC6_001 : List Ent := (eGe 3 (kf 0) (vI 1)) ++ (eLe 3 (kf 0) (vI 4096)) ++ (eGe 3 (kf 1) (vI 1)) ++ (eLe 3 (kf 1) (vI 64)) ++ (eLt 3 (kf 3) (vI 1)) ++ [⟨.bin .and 3, [kf 3, vI 1], vI 0⟩]
theorem MhtC6_001 : isTrue (evCall (ev Tryz.prog (orcL MheC6_001 (fsL MhF)) 2 900) Tryz.prog (orcL MheC6_001 (fsL MhF)) [] 3 #[vG [kf 0, kf 1], vI 6, kf 3, vB true] (baseWorld 2 tabA)) = true := by decide +kernel
def MheC6_010 : List Ent := (eGe 3 (kf 0) (vI 1)) ++ (eLe 3 (kf 0) (vI 4096)) ++ (eGe 3 (kf 1) (vI 1)) ++ (eLe 3 (kf 1) (vI 64)) ++ (eLt 3 (kf 3) (vI 1)) ++ [⟨.bin .and 3, [kf 3, vI 1], vI 1⟩]
theorem MhtC6_010 : isTrue (evCall (ev Tryz.prog (orcL MheC6_010 (fsL MhF)) 2 900) Tryz.prog (orcL MheC6_010 (fsL MhF)) [] 3 #[vG [kf 0, kf 1], vI 6, kf 3, vB false] (baseWorld 2 tabA)) = true := by decide +kernel
def MheC6_011 : List Ent := (eGe 3 (kf 0) (vI 1)) ++ (eLe 3 (kf 0) (vI 4096)) ++ (eGe 3 (kf 1) (vI 1)) ++ (eLe 3 (kf 1) (vI 64)) ++ (eLt 3 (kf 3) (vI 1)) ++ [⟨.bin .and 3, [kf 3, vI 1], vI 1⟩]
theorem MhtC6_011 : isTrue (evCall (ev Tryz.prog (orcL MheC6_011 (fsL MhF)) 2 900) Tryz.prog (orcL MheC6_011 (fsL MhF)) [] 3 #[vG [kf 0, kf 1], vI 6, kf 3, vB true] (baseWorld 2 tabA)) = true := by decide +kernel
def MheC7_100 : List Ent := (eGe 3 (kf 0) (vI 1)) ++ (eLe 3 (kf 0) (vI 4096)) ++ (eGe 3 (kf 1) (vI 1)) ++ (eLe 3 (kf 1) (vI 64)) ++ (eGe 3 (kf 3) (vI 1)) ++ [⟨.bin .and 3, [kf 3, vI 1], vI 0⟩] ++ [⟨.bin .rem 3, [kf 3, vI 2], vI 0⟩]
theorem MhtC7_100 : isTrue (evCall (ev Tryz.prog (orcL MheC7_100 (fsL MhF)) 2 900) Tryz.prog (orcL MheC7_100 (fsL MhF)) [] 3 #[vG [kf 0, kf 1], vI 7, kf 3, vB false] (baseWorld 2 tabA)) = true := by decide +kernel
def MheC7_101 : List Ent := (eGe 3 (kf 0) (vI 1)) ++ (eLe 3 (kf 0) (vI 4096)) ++ (eGe 3 (kf 1) (vI 1)) ++ (eLe 3 (kf 1) (vI 64)) ++ (eGe 3 (kf 3) (vI 1)) ++ [⟨.bin .and 3, [kf 3, vI 1], vI 0⟩] ++ [⟨.bin .rem 3, [kf 3, vI 2], vI 0⟩]
theorem MhtC7_101 : isTrue (evCall (ev Tryz.prog (orcL MheC7_101 (fsL MhF)) 2 900) Tryz.prog (orcL MheC7_101 (fsL MhF)) [] 3 #[vG [kf 0, kf 1], vI 7, kf 3, vB true] (baseWorld 2 tabA)) = true := by decide +kernel
def MheC7_110 : List Ent := (eGe 3 (kf 0) (vI 1)) ++ (eLe 3 (kf 0) (vI 4096)) ++ (eGe 3 (kf 1) (vI 1)) ++ (eLe 3 (kf 1) (vI 64)) ++ (eGe 3 (kf 3) (vI 1)) ++ [⟨.bin .and 3, [kf 3, vI 1], vI 1⟩] ++ [⟨.bin .rem 3, [kf 3, vI 2], vI 1⟩]
theorem MhtC7_110 : isTrue (evCall (ev Tryz.prog (orcL MheC7_110 (fsL MhF)) 2 900) Tryz.prog (orcL MheC7_110 (fsL MhF)) [] 3 #[vG [kf 0, kf 1], vI 7, kf 3, vB false] (baseWorld 2 tabA)) = true := by decide +kernel
def MheC7_111 : List Ent := (eGe 3 (kf 0) (vI 1)) ++ (eLe 3 (kf 0) (vI 4096)) ++ (eGe 3 (kf 1) (vI 1)) ++ (eLe 3 (kf 1) (vI 64)) ++ (eGe 3 (kf 3) (vI 1)) ++ [⟨.bin .and 3, [kf 3, vI 1], vI 1⟩] ++ [⟨.bin .rem 3, [kf 3, vI 2], vI 1⟩]
theorem MhtC7_111 : isTrue (evCall (ev Tryz.prog (orcL MheC7_111 (fsL MhF)) 2 900) Tryz.prog (orcL MheC7_111 (fsL MhF)) [] 3 #[vG [kf 0, kf 1], vI 7, kf 3, vB true] (baseWorld 2 tabA)) = true := by decide +kernel
def MheC7_000 : List Ent := (eGe 3 (kf 0) (vI 1)) ++ (eLe 3 (kf 0) (vI 4096)) ++ (eGe 3 (kf 1) (vI 1)) ++ (eLe 3 (kf 1) (vI 64)) ++ (eLt 3 (kf 3) (vI 1)) ++ [⟨.bin .and 3, [kf 3, vI 1], vI 0⟩]
theorem MhtC7_000 : isTrue (evCall (ev Tryz.prog (orcL MheC7_000 (fsL MhF)) 2 900) Tryz.prog (orcL MheC7_000 (fsL MhF)) [] 3 #[vG [kf 0, kf 1], vI 7, kf 3, vB false] (baseWorld 2 tabA)) = true := by decide +kernel
def MheC7_001 : List Ent := (eGe 3 (kf 0) (vI 1)) ++ (eLe 3 (kf 0) (vI 4096)) ++ (eGe 3 (kf 1) (vI 1)) ++ (eLe 3 (kf 1) (vI 64)) ++ (eLt 3 (kf 3) (vI 1)) ++ [⟨.bin .and 3, [kf 3, vI 1], vI 0⟩]
theorem MhtC7_001 : isTrue (evCall (ev Tryz.prog (orcL MheC7_001 (fsL MhF)) 2 900) Tryz.prog (orcL MheC7_001 (fsL MhF)) [] 3 #[vG [kf 0, kf 1], vI 7, kf 3, vB true] (baseWorld 2 tabA)) = true := by decide +kernel
def MheC7_010 : List Ent := (eGe 3 (kf 0) (vI 1)) ++ (eLe 3 (kf 0) (vI 4096)) ++ (eGe 3 (kf 1) (vI 1)) ++ (eLe 3 (kf 1) (vI 64)) ++ (eLt 3 (kf 3) (vI 1)) ++ [⟨.bin .and 3, [kf 3, vI 1], vI 1⟩]
theorem MhtC7_010 : isTrue (evCall (ev Tryz.prog (orcL MheC7_010 (fsL MhF)) 2 900) Tryz.prog (orcL MheC7_010 (fsL MhF)) [] 3 #[vG [kf 0, kf 1], vI 7, kf 3, vB false] (baseWorld 2 tabA)) = true := by decide +kernel
def MheC7_011 : List Ent := (eGe 3 (kf 0) (vI 1)) ++ (eLe 3 (kf 0) (vI 4096)) ++ (eGe 3 (kf 1) (vI 1)) ++ (eLe 3 (kf 1) (vI 64)) ++ (eLt 3 (kf 3) (vI 1)) ++ [⟨.bin .and 3, [kf 3, vI 1], vI 1⟩]
theorem MhtC7_011 : isTrue (evCall (ev Tryz.prog (orcL MheC7_011 (fsL MhF)) 2 900) Tryz.prog (orcL MheC7_011 (fsL MhF)) [] 3 #[vG [kf 0, kf 1], vI 7, kf 3, vB true] (baseWorld 2 tabA)) = true := by decide +kernel
def MheC8_100 : List Ent := (eGe 3 (kf 0) (vI 1)) ++ (eLe 3 (kf 0) (vI 4096)) ++ (eGe 3 (kf 1) (vI 1)) ++ (eLe 3 (kf 1) (vI 64)) ++ (eGe 3 (kf 3) (vI 1)) ++ [⟨.bin .and 3, [kf 3, vI 1], vI 0⟩] ++ [⟨.bin .rem 3, [kf 3, vI 2], vI 0⟩]
theorem MhtC8_100 : isTrue (evCall (ev Tryz.prog (orcL MheC8_100 (fsL MhF)) 2 900) Tryz.prog (orcL MheC8_100 (fsL MhF)) [] 3 #[vG [kf 0, kf 1], vI 8, kf 3, vB false] (baseWorld 2 tabA)) = true := by decide +kernel
def MheC8_101 : List Ent := (eGe 3 (kf 0) (vI 1)) ++ (eLe 3 (kf 0) (vI 4096)) ++ (eGe 3 (kf 1) (vI 1)) ++ (eLe 3 (kf 1) (vI 64)) ++ (eGe 3 (kf 3) (vI 1)) ++ [⟨.bin .and 3, [kf 3, vI 1], vI 0⟩] ++ [⟨.bin .rem 3, [kf 3, vI 2], vI 0⟩]
theorem MhtC8_101 : isTrue (evCall (ev Tryz.prog (orcL MheC8_101 (fsL MhF)) 2 900) Tryz.prog (orcL MheC8_101 (fsL MhF)) [] 3 #[vG [kf 0, kf 1], vI 8, kf 3, vB true] (baseWorld 2 tabA)) = true := by decide +kernel
def MheC8_110 : List Ent := (eGe 3 (kf 0) (vI 1)) ++ (eLe 3 (kf 0) (vI 4096)) ++ (eGe 3 (kf 1) (vI 1)) ++ (eLe 3 (kf 1) (vI 64)) ++ (eGe 3 (kf 3) (vI 1)) ++ [⟨.bin .and 3, [kf 3, vI 1], vI 1⟩] ++ [⟨.bin .rem 3, [kf 3, vI 2], vI 1⟩]
theorem MhtC8_110 : isTrue (evCall (ev Tryz.prog (orcL MheC8_110 (fsL MhF)) 2 900) Tryz.prog (orcL MheC8_110 (fsL MhF)) [] 3 #[vG [kf 0, kf 1], vI 8, kf 3, vB false] (baseWorld 2 tabA)) = true := by decide +kernel
def MheC8_111 : List Ent := (eGe 3 (kf 0) (vI 1)) ++ (eLe 3 (kf 0) (vI 4096)) ++ (eGe 3 (kf 1) (vI 1)) ++ (eLe 3 (kf 1) (vI 64)) ++ (eGe 3 (kf 3) (vI 1)) ++ [⟨.bin .and 3, [kf 3, vI 1], vI 1⟩] ++ [⟨.bin .rem 3, [kf 3, vI 2], vI 1⟩]
theorem MhtC8_111 : isTrue (evCall (ev Tryz.prog (orcL MheC8_111 (fsL MhF)) 2 900) Tryz.prog (orcL MheC8_111 (fsL MhF)) [] 3 #[vG [kf 0, kf 1], vI 8, kf 3, vB true] (baseWorld 2 tabA)) = true := by decide +kernel
def MheC8_000 : List Ent := (eGe 3 (kf 0) (vI 1)) ++ (eLe 3 (kf 0) (vI 4096)) ++ (eGe 3 (kf 1) (vI 1)) ++ (eLe 3 (kf 1) (vI 64)) ++ (eLt 3 (kf 3) (vI 1)) ++ [⟨.bin .and 3, [kf 3, vI 1], vI 0⟩]
theorem MhtC8_000 : isTrue (evCall (ev Tryz.prog (orcL MheC8_000 (fsL MhF)) 2 900) Tryz.prog (orcL MheC8_000 (fsL MhF)) [] 3 #[vG [kf 0, kf 1], vI 8, kf 3, vB false] (baseWorld 2 tabA)) = true := by decide +kernel
def MheC8_001 : List Ent := (eGe 3 (kf 0) (vI 1)) ++ (eLe 3 (kf 0) (vI 4096)) ++ (eGe 3 (kf 1) (vI 1)) ++ (eLe 3 (kf 1) (vI 64)) ++ (eLt 3 (kf 3) (vI 1)) ++ [⟨.bin .and 3, [kf 3, vI 1], vI 0⟩]
theorem MhtC8_001 : isTrue (evCall (ev Tryz.prog (orcL MheC8_001 (fsL MhF)) 2 900) Tryz.prog (orcL MheC8_001 (fsL MhF)) [] 3 #[vG [kf 0, kf 1], vI 8, kf 3, vB true] (baseWorld 2 tabA)) = true := by decide +kernel
def MheC8_010 : List Ent := (eGe 3 (kf 0) (vI 1)) ++ (eLe 3 (kf 0) (vI 4096)) ++ (eGe 3 (kf 1) (vI 1)) ++ (eLe 3 (kf 1) (vI 64)) ++ (eLt 3 (kf 3) (vI 1)) ++ [⟨.bin .and 3, [kf 3, vI 1], vI 1⟩]
theorem MhtC8_010 : isTrue (evCall (ev Tryz.prog (orcL MheC8_010 (fsL MhF)) 2 900) Tryz.prog (orcL MheC8_010 (fsL MhF)) [] 3 #[vG [kf 0, kf 1], vI 8, kf 3, vB false] (baseWorld 2 tabA)) = true := by decide +kernel
def MheC8_011 : List Ent := (eGe 3 (kf 0) (vI 1)) ++ (eLe 3 (kf 0) (vI 4096)) ++ (eGe 3 (kf 1) (vI 1)) ++ (eLe 3 (kf 1) (vI 64)) ++ (eLt 3 (kf 3) (vI 1)) ++ [⟨.bin .and 3, [kf 3, vI 1], vI 1⟩]
theorem MhtC8_011 : isTrue (evCall (ev Tryz.prog (orcL MheC8_011 (fsL MhF)) 2 900) Tryz.prog (orcL MheC8_011 (fsL MhF)) [] 3 #[vG [kf 0, kf 1], vI 8, kf 3, vB true] (baseWorld 2 tabA)) = true := by decide +kernel
end Go.Proofs.YtlgbahkioimkfaaGreatDoor
