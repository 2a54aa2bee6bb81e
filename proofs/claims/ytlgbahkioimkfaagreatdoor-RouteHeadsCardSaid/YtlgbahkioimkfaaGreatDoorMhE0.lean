/- dustpan/dustpanlaw18.RouteHeads: its runs (printed by gen_heads.py). -/
import Derived.Test.YtlgbahkioimkfaaGreatDoorMhE
namespace Go.Proofs.YtlgbahkioimkfaaGreatDoor
open Go.RowKit
set_option linter.unusedVariables false
set_option maxRecDepth 100000
def MheL0_100 : List Ent := (eLt 3 (kf 0) (vI 1)) ++ (eGe 3 (kf 3) (vI 1)) ++ [⟨.bin .and 3, [kf 3, vI 1], vI 0⟩] ++ [⟨.bin .rem 3, [kf 3, vI 2], vI 0⟩]
theorem MhtL0_100 : isTrue (evCall (ev Tryz.prog (orcL MheL0_100 (fsL MhF)) 2 900) Tryz.prog (orcL MheL0_100 (fsL MhF)) [] 3 #[vG [kf 0, kf 1], kf 2, kf 3, vB false] (baseWorld 2 tabA)) = true := by decide +kernel
def MheL0_101 : List Ent := (eLt 3 (kf 0) (vI 1)) ++ (eGe 3 (kf 3) (vI 1)) ++ [⟨.bin .and 3, [kf 3, vI 1], vI 0⟩] ++ [⟨.bin .rem 3, [kf 3, vI 2], vI 0⟩]
theorem MhtL0_101 : isTrue (evCall (ev Tryz.prog (orcL MheL0_101 (fsL MhF)) 2 900) Tryz.prog (orcL MheL0_101 (fsL MhF)) [] 3 #[vG [kf 0, kf 1], kf 2, kf 3, vB true] (baseWorld 2 tabA)) = true := by decide +kernel
def MheL0_110 : List Ent := (eLt 3 (kf 0) (vI 1)) ++ (eGe 3 (kf 3) (vI 1)) ++ [⟨.bin .and 3, [kf 3, vI 1], vI 1⟩] ++ [⟨.bin .rem 3, [kf 3, vI 2], vI 1⟩]
theorem MhtL0_110 : isTrue (evCall (ev Tryz.prog (orcL MheL0_110 (fsL MhF)) 2 900) Tryz.prog (orcL MheL0_110 (fsL MhF)) [] 3 #[vG [kf 0, kf 1], kf 2, kf 3, vB false] (baseWorld 2 tabA)) = true := by decide +kernel
def MheL0_111 : List Ent := (eLt 3 (kf 0) (vI 1)) ++ (eGe 3 (kf 3) (vI 1)) ++ [⟨.bin .and 3, [kf 3, vI 1], vI 1⟩] ++ [⟨.bin .rem 3, [kf 3, vI 2], vI 1⟩]
theorem MhtL0_111 : isTrue (evCall (ev Tryz.prog (orcL MheL0_111 (fsL MhF)) 2 900) Tryz.prog (orcL MheL0_111 (fsL MhF)) [] 3 #[vG [kf 0, kf 1], kf 2, kf 3, vB true] (baseWorld 2 tabA)) = true := by decide +kernel
def MheL0_000 : List Ent := (eLt 3 (kf 0) (vI 1)) ++ (eLt 3 (kf 3) (vI 1)) ++ [⟨.bin .and 3, [kf 3, vI 1], vI 0⟩]
theorem MhtL0_000 : isTrue (evCall (ev Tryz.prog (orcL MheL0_000 (fsL MhF)) 2 900) Tryz.prog (orcL MheL0_000 (fsL MhF)) [] 3 #[vG [kf 0, kf 1], kf 2, kf 3, vB false] (baseWorld 2 tabA)) = true := by decide +kernel
def MheL0_001 : List Ent := (eLt 3 (kf 0) (vI 1)) ++ (eLt 3 (kf 3) (vI 1)) ++ [⟨.bin .and 3, [kf 3, vI 1], vI 0⟩]
theorem MhtL0_001 : isTrue (evCall (ev Tryz.prog (orcL MheL0_001 (fsL MhF)) 2 900) Tryz.prog (orcL MheL0_001 (fsL MhF)) [] 3 #[vG [kf 0, kf 1], kf 2, kf 3, vB true] (baseWorld 2 tabA)) = true := by decide +kernel
def MheL0_010 : List Ent := (eLt 3 (kf 0) (vI 1)) ++ (eLt 3 (kf 3) (vI 1)) ++ [⟨.bin .and 3, [kf 3, vI 1], vI 1⟩]
theorem MhtL0_010 : isTrue (evCall (ev Tryz.prog (orcL MheL0_010 (fsL MhF)) 2 900) Tryz.prog (orcL MheL0_010 (fsL MhF)) [] 3 #[vG [kf 0, kf 1], kf 2, kf 3, vB false] (baseWorld 2 tabA)) = true := by decide +kernel
def MheL0_011 : List Ent := (eLt 3 (kf 0) (vI 1)) ++ (eLt 3 (kf 3) (vI 1)) ++ [⟨.bin .and 3, [kf 3, vI 1], vI 1⟩]
theorem MhtL0_011 : isTrue (evCall (ev Tryz.prog (orcL MheL0_011 (fsL MhF)) 2 900) Tryz.prog (orcL MheL0_011 (fsL MhF)) [] 3 #[vG [kf 0, kf 1], kf 2, kf 3, vB true] (baseWorld 2 tabA)) = true := by decide +kernel
def MheL1_100 : List Ent := (eGe 3 (kf 0) (vI 1)) ++ (eGt 3 (kf 0) (vI 4096)) ++ (eGe 3 (kf 3) (vI 1)) ++ [⟨.bin .and 3, [kf 3, vI 1], vI 0⟩] ++ [⟨.bin .rem 3, [kf 3, vI 2], vI 0⟩]
theorem MhtL1_100 : isTrue (evCall (ev Tryz.prog (orcL MheL1_100 (fsL MhF)) 2 900) Tryz.prog (orcL MheL1_100 (fsL MhF)) [] 3 #[vG [kf 0, kf 1], kf 2, kf 3, vB false] (baseWorld 2 tabA)) = true := by decide +kernel
def MheL1_101 : List Ent := (eGe 3 (kf 0) (vI 1)) ++ (eGt 3 (kf 0) (vI 4096)) ++ (eGe 3 (kf 3) (vI 1)) ++ [⟨.bin .and 3, [kf 3, vI 1], vI 0⟩] ++ [⟨.bin .rem 3, [kf 3, vI 2], vI 0⟩]
theorem MhtL1_101 : isTrue (evCall (ev Tryz.prog (orcL MheL1_101 (fsL MhF)) 2 900) Tryz.prog (orcL MheL1_101 (fsL MhF)) [] 3 #[vG [kf 0, kf 1], kf 2, kf 3, vB true] (baseWorld 2 tabA)) = true := by decide +kernel
def MheL1_110 : List Ent := (eGe 3 (kf 0) (vI 1)) ++ (eGt 3 (kf 0) (vI 4096)) ++ (eGe 3 (kf 3) (vI 1)) ++ [⟨.bin .and 3, [kf 3, vI 1], vI 1⟩] ++ [⟨.bin .rem 3, [kf 3, vI 2], vI 1⟩]
theorem MhtL1_110 : isTrue (evCall (ev Tryz.prog (orcL MheL1_110 (fsL MhF)) 2 900) Tryz.prog (orcL MheL1_110 (fsL MhF)) [] 3 #[vG [kf 0, kf 1], kf 2, kf 3, vB false] (baseWorld 2 tabA)) = true := by decide +kernel
def MheL1_111 : List Ent := (eGe 3 (kf 0) (vI 1)) ++ (eGt 3 (kf 0) (vI 4096)) ++ (eGe 3 (kf 3) (vI 1)) ++ [⟨.bin .and 3, [kf 3, vI 1], vI 1⟩] ++ [⟨.bin .rem 3, [kf 3, vI 2], vI 1⟩]
theorem MhtL1_111 : isTrue (evCall (ev Tryz.prog (orcL MheL1_111 (fsL MhF)) 2 900) Tryz.prog (orcL MheL1_111 (fsL MhF)) [] 3 #[vG [kf 0, kf 1], kf 2, kf 3, vB true] (baseWorld 2 tabA)) = true := by decide +kernel
def MheL1_000 : List Ent := (eGe 3 (kf 0) (vI 1)) ++ (eGt 3 (kf 0) (vI 4096)) ++ (eLt 3 (kf 3) (vI 1)) ++ [⟨.bin .and 3, [kf 3, vI 1], vI 0⟩]
theorem MhtL1_000 : isTrue (evCall (ev Tryz.prog (orcL MheL1_000 (fsL MhF)) 2 900) Tryz.prog (orcL MheL1_000 (fsL MhF)) [] 3 #[vG [kf 0, kf 1], kf 2, kf 3, vB false] (baseWorld 2 tabA)) = true := by decide +kernel
def MheL1_001 : List Ent := (eGe 3 (kf 0) (vI 1)) ++ (eGt 3 (kf 0) (vI 4096)) ++ (eLt 3 (kf 3) (vI 1)) ++ [⟨.bin .and 3, [kf 3, vI 1], vI 0⟩]
theorem MhtL1_001 : isTrue (evCall (ev Tryz.prog (orcL MheL1_001 (fsL MhF)) 2 900) Tryz.prog (orcL MheL1_001 (fsL MhF)) [] 3 #[vG [kf 0, kf 1], kf 2, kf 3, vB true] (baseWorld 2 tabA)) = true := by decide +kernel
def MheL1_010 : List Ent := (eGe 3 (kf 0) (vI 1)) ++ (eGt 3 (kf 0) (vI 4096)) ++ (eLt 3 (kf 3) (vI 1)) ++ [⟨.bin .and 3, [kf 3, vI 1], vI 1⟩]
theorem MhtL1_010 : isTrue (evCall (ev Tryz.prog (orcL MheL1_010 (fsL MhF)) 2 900) Tryz.prog (orcL MheL1_010 (fsL MhF)) [] 3 #[vG [kf 0, kf 1], kf 2, kf 3, vB false] (baseWorld 2 tabA)) = true := by decide +kernel
def MheL1_011 : List Ent := (eGe 3 (kf 0) (vI 1)) ++ (eGt 3 (kf 0) (vI 4096)) ++ (eLt 3 (kf 3) (vI 1)) ++ [⟨.bin .and 3, [kf 3, vI 1], vI 1⟩]
theorem MhtL1_011 : isTrue (evCall (ev Tryz.prog (orcL MheL1_011 (fsL MhF)) 2 900) Tryz.prog (orcL MheL1_011 (fsL MhF)) [] 3 #[vG [kf 0, kf 1], kf 2, kf 3, vB true] (baseWorld 2 tabA)) = true := by decide +kernel
def MheL2_100 : List Ent := (eGe 3 (kf 0) (vI 1)) ++ (eLe 3 (kf 0) (vI 4096)) ++ (eLt 3 (kf 1) (vI 1)) ++ (eGe 3 (kf 3) (vI 1)) ++ [⟨.bin .and 3, [kf 3, vI 1], vI 0⟩] ++ [⟨.bin .rem 3, [kf 3, vI 2], vI 0⟩]
theorem MhtL2_100 : isTrue (evCall (ev Tryz.prog (orcL MheL2_100 (fsL MhF)) 2 900) Tryz.prog (orcL MheL2_100 (fsL MhF)) [] 3 #[vG [kf 0, kf 1], kf 2, kf 3, vB false] (baseWorld 2 tabA)) = true := by decide +kernel
def MheL2_101 : List Ent := (eGe 3 (kf 0) (vI 1)) ++ (eLe 3 (kf 0) (vI 4096)) ++ (eLt 3 (kf 1) (vI 1)) ++ (eGe 3 (kf 3) (vI 1)) ++ [⟨.bin .and 3, [kf 3, vI 1], vI 0⟩] ++ [⟨.bin .rem 3, [kf 3, vI 2], vI 0⟩]
theorem MhtL2_101 : isTrue (evCall (ev Tryz.prog (orcL MheL2_101 (fsL MhF)) 2 900) Tryz.prog (orcL MheL2_101 (fsL MhF)) [] 3 #[vG [kf 0, kf 1], kf 2, kf 3, vB true] (baseWorld 2 tabA)) = true := by decide +kernel
def MheL2_110 : List Ent := (eGe 3 (kf 0) (vI 1)) ++ (eLe 3 (kf 0) (vI 4096)) ++ (eLt 3 (kf 1) (vI 1)) ++ (eGe 3 (kf 3) (vI 1)) ++ [⟨.bin .and 3, [kf 3, vI 1], vI 1⟩] ++ [⟨.bin .rem 3, [kf 3, vI 2], vI 1⟩]
theorem MhtL2_110 : isTrue (evCall (ev Tryz.prog (orcL MheL2_110 (fsL MhF)) 2 900) Tryz.prog (orcL MheL2_110 (fsL MhF)) [] 3 #[vG [kf 0, kf 1], kf 2, kf 3, vB false] (baseWorld 2 tabA)) = true := by decide +kernel
def MheL2_111 : List Ent := (eGe 3 (kf 0) (vI 1)) ++ (eLe 3 (kf 0) (vI 4096)) ++ (eLt 3 (kf 1) (vI 1)) ++ (eGe 3 (kf 3) (vI 1)) ++ [⟨.bin .and 3, [kf 3, vI 1], vI 1⟩] ++ [⟨.bin .rem 3, [kf 3, vI 2], vI 1⟩]
theorem MhtL2_111 : isTrue (evCall (ev Tryz.prog (orcL MheL2_111 (fsL MhF)) 2 900) Tryz.prog (orcL MheL2_111 (fsL MhF)) [] 3 #[vG [kf 0, kf 1], kf 2, kf 3, vB true] (baseWorld 2 tabA)) = true := by decide +kernel
def MheL2_000 : List Ent := (eGe 3 (kf 0) (vI 1)) ++ (eLe 3 (kf 0) (vI 4096)) ++ (eLt 3 (kf 1) (vI 1)) ++ (eLt 3 (kf 3) (vI 1)) ++ [⟨.bin .and 3, [kf 3, vI 1], vI 0⟩]
theorem MhtL2_000 : isTrue (evCall (ev Tryz.prog (orcL MheL2_000 (fsL MhF)) 2 900) Tryz.prog (orcL MheL2_000 (fsL MhF)) [] 3 #[vG [kf 0, kf 1], kf 2, kf 3, vB false] (baseWorld 2 tabA)) = true := by decide +kernel
def MheL2_001 : List Ent := (eGe 3 (kf 0) (vI 1)) ++ (eLe 3 (kf 0) (vI 4096)) ++ (eLt 3 (kf 1) (vI 1)) ++ (eLt 3 (kf 3) (vI 1)) ++ [⟨.bin .and 3, [kf 3, vI 1], vI 0⟩]
theorem MhtL2_001 : isTrue (evCall (ev Tryz.prog (orcL MheL2_001 (fsL MhF)) 2 900) Tryz.prog (orcL MheL2_001 (fsL MhF)) [] 3 #[vG [kf 0, kf 1], kf 2, kf 3, vB true] (baseWorld 2 tabA)) = true := by decide +kernel
def MheL2_010 : List Ent := (eGe 3 (kf 0) (vI 1)) ++ (eLe 3 (kf 0) (vI 4096)) ++ (eLt 3 (kf 1) (vI 1)) ++ (eLt 3 (kf 3) (vI 1)) ++ [⟨.bin .and 3, [kf 3, vI 1], vI 1⟩]
theorem MhtL2_010 : isTrue (evCall (ev Tryz.prog (orcL MheL2_010 (fsL MhF)) 2 900) Tryz.prog (orcL MheL2_010 (fsL MhF)) [] 3 #[vG [kf 0, kf 1], kf 2, kf 3, vB false] (baseWorld 2 tabA)) = true := by decide +kernel
def MheL2_011 : List Ent := (eGe 3 (kf 0) (vI 1)) ++ (eLe 3 (kf 0) (vI 4096)) ++ (eLt 3 (kf 1) (vI 1)) ++ (eLt 3 (kf 3) (vI 1)) ++ [⟨.bin .and 3, [kf 3, vI 1], vI 1⟩]
theorem MhtL2_011 : isTrue (evCall (ev Tryz.prog (orcL MheL2_011 (fsL MhF)) 2 900) Tryz.prog (orcL MheL2_011 (fsL MhF)) [] 3 #[vG [kf 0, kf 1], kf 2, kf 3, vB true] (baseWorld 2 tabA)) = true := by decide +kernel
end Go.Proofs.YtlgbahkioimkfaaGreatDoor
