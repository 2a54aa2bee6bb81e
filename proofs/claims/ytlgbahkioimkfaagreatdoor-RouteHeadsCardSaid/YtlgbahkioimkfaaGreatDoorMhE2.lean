/- dustpan/dustpanlaw18.RouteHeads: its runs (printed by gen_heads.py). -/
import Derived.Test.YtlgbahkioimkfaaGreatDoorMhE
namespace Go.Proofs.YtlgbahkioimkfaaGreatDoor
open Go.RowKit
set_option linter.unusedVariables false
set_option maxRecDepth 100000
def MheC0_100 : List Ent := (eGe 3 (kf 0) (vI 1)) ++ (eLe 3 (kf 0) (vI 4096)) ++ (eGe 3 (kf 1) (vI 1)) ++ (eLe 3 (kf 1) (vI 64)) ++ (eGe 3 (kf 3) (vI 1)) ++ [⟨.bin .and 3, [kf 3, vI 1], vI 0⟩] ++ [⟨.bin .rem 3, [kf 3, vI 2], vI 0⟩]
theorem MhtC0_100 : isTrue (evCall (ev Tryz.prog (orcL MheC0_100 (fsL MhF)) 2 900) Tryz.prog (orcL MheC0_100 (fsL MhF)) [] 3 #[vG [kf 0, kf 1], vI 0, kf 3, vB false] (baseWorld 2 tabA)) = true := by decide +kernel
def MheC0_101 : List Ent := (eGe 3 (kf 0) (vI 1)) ++ (eLe 3 (kf 0) (vI 4096)) ++ (eGe 3 (kf 1) (vI 1)) ++ (eLe 3 (kf 1) (vI 64)) ++ (eGe 3 (kf 3) (vI 1)) ++ [⟨.bin .and 3, [kf 3, vI 1], vI 0⟩] ++ [⟨.bin .rem 3, [kf 3, vI 2], vI 0⟩]
theorem MhtC0_101 : isTrue (evCall (ev Tryz.prog (orcL MheC0_101 (fsL MhF)) 2 900) Tryz.prog (orcL MheC0_101 (fsL MhF)) [] 3 #[vG [kf 0, kf 1], vI 0, kf 3, vB true] (baseWorld 2 tabA)) = true := by decide +kernel
def MheC0_110 : List Ent := (eGe 3 (kf 0) (vI 1)) ++ (eLe 3 (kf 0) (vI 4096)) ++ (eGe 3 (kf 1) (vI 1)) ++ (eLe 3 (kf 1) (vI 64)) ++ (eGe 3 (kf 3) (vI 1)) ++ [⟨.bin .and 3, [kf 3, vI 1], vI 1⟩] ++ [⟨.bin .rem 3, [kf 3, vI 2], vI 1⟩]
theorem MhtC0_110 : isTrue (evCall (ev Tryz.prog (orcL MheC0_110 (fsL MhF)) 2 900) Tryz.prog (orcL MheC0_110 (fsL MhF)) [] 3 #[vG [kf 0, kf 1], vI 0, kf 3, vB false] (baseWorld 2 tabA)) = true := by decide +kernel
def MheC0_111 : List Ent := (eGe 3 (kf 0) (vI 1)) ++ (eLe 3 (kf 0) (vI 4096)) ++ (eGe 3 (kf 1) (vI 1)) ++ (eLe 3 (kf 1) (vI 64)) ++ (eGe 3 (kf 3) (vI 1)) ++ [⟨.bin .and 3, [kf 3, vI 1], vI 1⟩] ++ [⟨.bin .rem 3, [kf 3, vI 2], vI 1⟩]
theorem MhtC0_111 : isTrue (evCall (ev Tryz.prog (orcL MheC0_111 (fsL MhF)) 2 900) Tryz.prog (orcL MheC0_111 (fsL MhF)) [] 3 #[vG [kf 0, kf 1], vI 0, kf 3, vB true] (baseWorld 2 tabA)) = true := by decide +kernel
def MheC0_000 : List Ent := (eGe 3 (kf 0) (vI 1)) ++ (eLe 3 (kf 0) (vI 4096)) ++ (eGe 3 (kf 1) (vI 1)) ++ (eLe 3 (kf 1) (vI 64)) ++ (eLt 3 (kf 3) (vI 1)) ++ [⟨.bin .and 3, [kf 3, vI 1], vI 0⟩]
theorem MhtC0_000 : isTrue (evCall (ev Tryz.prog (orcL MheC0_000 (fsL MhF)) 2 900) Tryz.prog (orcL MheC0_000 (fsL MhF)) [] 3 #[vG [kf 0, kf 1], vI 0, kf 3, vB false] (baseWorld 2 tabA)) = true := by decide +kernel
def MheC0_001 : List Ent := (eGe 3 (kf 0) (vI 1)) ++ (eLe 3 (kf 0) (vI 4096)) ++ (eGe 3 (kf 1) (vI 1)) ++ (eLe 3 (kf 1) (vI 64)) ++ (eLt 3 (kf 3) (vI 1)) ++ [⟨.bin .and 3, [kf 3, vI 1], vI 0⟩]
theorem MhtC0_001 : isTrue (evCall (ev Tryz.prog (orcL MheC0_001 (fsL MhF)) 2 900) Tryz.prog (orcL MheC0_001 (fsL MhF)) [] 3 #[vG [kf 0, kf 1], vI 0, kf 3, vB true] (baseWorld 2 tabA)) = true := by decide +kernel
def MheC0_010 : List Ent := (eGe 3 (kf 0) (vI 1)) ++ (eLe 3 (kf 0) (vI 4096)) ++ (eGe 3 (kf 1) (vI 1)) ++ (eLe 3 (kf 1) (vI 64)) ++ (eLt 3 (kf 3) (vI 1)) ++ [⟨.bin .and 3, [kf 3, vI 1], vI 1⟩]
theorem MhtC0_010 : isTrue (evCall (ev Tryz.prog (orcL MheC0_010 (fsL MhF)) 2 900) Tryz.prog (orcL MheC0_010 (fsL MhF)) [] 3 #[vG [kf 0, kf 1], vI 0, kf 3, vB false] (baseWorld 2 tabA)) = true := by decide +kernel
def MheC0_011 : List Ent := (eGe 3 (kf 0) (vI 1)) ++ (eLe 3 (kf 0) (vI 4096)) ++ (eGe 3 (kf 1) (vI 1)) ++ (eLe 3 (kf 1) (vI 64)) ++ (eLt 3 (kf 3) (vI 1)) ++ [⟨.bin .and 3, [kf 3, vI 1], vI 1⟩]
theorem MhtC0_011 : isTrue (evCall (ev Tryz.prog (orcL MheC0_011 (fsL MhF)) 2 900) Tryz.prog (orcL MheC0_011 (fsL MhF)) [] 3 #[vG [kf 0, kf 1], vI 0, kf 3, vB true] (baseWorld 2 tabA)) = true := by decide +kernel
def MheC1_100 : List Ent := (eGe 3 (kf 0) (vI 1)) ++ (eLe 3 (kf 0) (vI 4096)) ++ (eGe 3 (kf 1) (vI 1)) ++ (eLe 3 (kf 1) (vI 64)) ++ (eGe 3 (kf 3) (vI 1)) ++ [⟨.bin .and 3, [kf 3, vI 1], vI 0⟩] ++ [⟨.bin .rem 3, [kf 3, vI 2], vI 0⟩]
theorem MhtC1_100 : isTrue (evCall (ev Tryz.prog (orcL MheC1_100 (fsL MhF)) 2 900) Tryz.prog (orcL MheC1_100 (fsL MhF)) [] 3 #[vG [kf 0, kf 1], vI 1, kf 3, vB false] (baseWorld 2 tabA)) = true := by decide +kernel
def MheC1_101 : List Ent := (eGe 3 (kf 0) (vI 1)) ++ (eLe 3 (kf 0) (vI 4096)) ++ (eGe 3 (kf 1) (vI 1)) ++ (eLe 3 (kf 1) (vI 64)) ++ (eGe 3 (kf 3) (vI 1)) ++ [⟨.bin .and 3, [kf 3, vI 1], vI 0⟩] ++ [⟨.bin .rem 3, [kf 3, vI 2], vI 0⟩]
theorem MhtC1_101 : isTrue (evCall (ev Tryz.prog (orcL MheC1_101 (fsL MhF)) 2 900) Tryz.prog (orcL MheC1_101 (fsL MhF)) [] 3 #[vG [kf 0, kf 1], vI 1, kf 3, vB true] (baseWorld 2 tabA)) = true := by decide +kernel
def MheC1_110 : List Ent := (eGe 3 (kf 0) (vI 1)) ++ (eLe 3 (kf 0) (vI 4096)) ++ (eGe 3 (kf 1) (vI 1)) ++ (eLe 3 (kf 1) (vI 64)) ++ (eGe 3 (kf 3) (vI 1)) ++ [⟨.bin .and 3, [kf 3, vI 1], vI 1⟩] ++ [⟨.bin .rem 3, [kf 3, vI 2], vI 1⟩]
theorem MhtC1_110 : isTrue (evCall (ev Tryz.prog (orcL MheC1_110 (fsL MhF)) 2 900) Tryz.prog (orcL MheC1_110 (fsL MhF)) [] 3 #[vG [kf 0, kf 1], vI 1, kf 3, vB false] (baseWorld 2 tabA)) = true := by decide +kernel
def MheC1_111 : List Ent := (eGe 3 (kf 0) (vI 1)) ++ (eLe 3 (kf 0) (vI 4096)) ++ (eGe 3 (kf 1) (vI 1)) ++ (eLe 3 (kf 1) (vI 64)) ++ (eGe 3 (kf 3) (vI 1)) ++ [⟨.bin .and 3, [kf 3, vI 1], vI 1⟩] ++ [⟨.bin .rem 3, [kf 3, vI 2], vI 1⟩]
theorem MhtC1_111 : isTrue (evCall (ev Tryz.prog (orcL MheC1_111 (fsL MhF)) 2 900) Tryz.prog (orcL MheC1_111 (fsL MhF)) [] 3 #[vG [kf 0, kf 1], vI 1, kf 3, vB true] (baseWorld 2 tabA)) = true := by decide +kernel
def MheC1_000 : List Ent := (eGe 3 (kf 0) (vI 1)) ++ (eLe 3 (kf 0) (vI 4096)) ++ (eGe 3 (kf 1) (vI 1)) ++ (eLe 3 (kf 1) (vI 64)) ++ (eLt 3 (kf 3) (vI 1)) ++ [⟨.bin .and 3, [kf 3, vI 1], vI 0⟩]
theorem MhtC1_000 : isTrue (evCall (ev Tryz.prog (orcL MheC1_000 (fsL MhF)) 2 900) Tryz.prog (orcL MheC1_000 (fsL MhF)) [] 3 #[vG [kf 0, kf 1], vI 1, kf 3, vB false] (baseWorld 2 tabA)) = true := by decide +kernel
def MheC1_001 : List Ent := (eGe 3 (kf 0) (vI 1)) ++ (eLe 3 (kf 0) (vI 4096)) ++ (eGe 3 (kf 1) (vI 1)) ++ (eLe 3 (kf 1) (vI 64)) ++ (eLt 3 (kf 3) (vI 1)) ++ [⟨.bin .and 3, [kf 3, vI 1], vI 0⟩]
theorem MhtC1_001 : isTrue (evCall (ev Tryz.prog (orcL MheC1_001 (fsL MhF)) 2 900) Tryz.prog (orcL MheC1_001 (fsL MhF)) [] 3 #[vG [kf 0, kf 1], vI 1, kf 3, vB true] (baseWorld 2 tabA)) = true := by decide +kernel
def MheC1_010 : List Ent := (eGe 3 (kf 0) (vI 1)) ++ (eLe 3 (kf 0) (vI 4096)) ++ (eGe 3 (kf 1) (vI 1)) ++ (eLe 3 (kf 1) (vI 64)) ++ (eLt 3 (kf 3) (vI 1)) ++ [⟨.bin .and 3, [kf 3, vI 1], vI 1⟩]
theorem MhtC1_010 : isTrue (evCall (ev Tryz.prog (orcL MheC1_010 (fsL MhF)) 2 900) Tryz.prog (orcL MheC1_010 (fsL MhF)) [] 3 #[vG [kf 0, kf 1], vI 1, kf 3, vB false] (baseWorld 2 tabA)) = true := by decide +kernel
def MheC1_011 : List Ent := (eGe 3 (kf 0) (vI 1)) ++ (eLe 3 (kf 0) (vI 4096)) ++ (eGe 3 (kf 1) (vI 1)) ++ (eLe 3 (kf 1) (vI 64)) ++ (eLt 3 (kf 3) (vI 1)) ++ [⟨.bin .and 3, [kf 3, vI 1], vI 1⟩]
theorem MhtC1_011 : isTrue (evCall (ev Tryz.prog (orcL MheC1_011 (fsL MhF)) 2 900) Tryz.prog (orcL MheC1_011 (fsL MhF)) [] 3 #[vG [kf 0, kf 1], vI 1, kf 3, vB true] (baseWorld 2 tabA)) = true := by decide +kernel
def MheC2_100 : List Ent := (eGe 3 (kf 0) (vI 1)) ++ (eLe 3 (kf 0) (vI 4096)) ++ (eGe 3 (kf 1) (vI 1)) ++ (eLe 3 (kf 1) (vI 64)) ++ (eGe 3 (kf 3) (vI 1)) ++ [⟨.bin .and 3, [kf 3, vI 1], vI 0⟩] ++ [⟨.bin .rem 3, [kf 3, vI 2], vI 0⟩]
theorem MhtC2_100 : isTrue (evCall (ev Tryz.prog (orcL MheC2_100 (fsL MhF)) 2 900) Tryz.prog (orcL MheC2_100 (fsL MhF)) [] 3 #[vG [kf 0, kf 1], vI 2, kf 3, vB false] (baseWorld 2 tabA)) = true := by decide +kernel
def MheC2_101 : List Ent := (eGe 3 (kf 0) (vI 1)) ++ (eLe 3 (kf 0) (vI 4096)) ++ (eGe 3 (kf 1) (vI 1)) ++ (eLe 3 (kf 1) (vI 64)) ++ (eGe 3 (kf 3) (vI 1)) ++ [⟨.bin .and 3, [kf 3, vI 1], vI 0⟩] ++ [⟨.bin .rem 3, [kf 3, vI 2], vI 0⟩]
theorem MhtC2_101 : isTrue (evCall (ev Tryz.prog (orcL MheC2_101 (fsL MhF)) 2 900) Tryz.prog (orcL MheC2_101 (fsL MhF)) [] 3 #[vG [kf 0, kf 1], vI 2, kf 3, vB true] (baseWorld 2 tabA)) = true := by decide +kernel
def MheC2_110 : List Ent := (eGe 3 (kf 0) (vI 1)) ++ (eLe 3 (kf 0) (vI 4096)) ++ (eGe 3 (kf 1) (vI 1)) ++ (eLe 3 (kf 1) (vI 64)) ++ (eGe 3 (kf 3) (vI 1)) ++ [⟨.bin .and 3, [kf 3, vI 1], vI 1⟩] ++ [⟨.bin .rem 3, [kf 3, vI 2], vI 1⟩]
theorem MhtC2_110 : isTrue (evCall (ev Tryz.prog (orcL MheC2_110 (fsL MhF)) 2 900) Tryz.prog (orcL MheC2_110 (fsL MhF)) [] 3 #[vG [kf 0, kf 1], vI 2, kf 3, vB false] (baseWorld 2 tabA)) = true := by decide +kernel
def MheC2_111 : List Ent := (eGe 3 (kf 0) (vI 1)) ++ (eLe 3 (kf 0) (vI 4096)) ++ (eGe 3 (kf 1) (vI 1)) ++ (eLe 3 (kf 1) (vI 64)) ++ (eGe 3 (kf 3) (vI 1)) ++ [⟨.bin .and 3, [kf 3, vI 1], vI 1⟩] ++ [⟨.bin .rem 3, [kf 3, vI 2], vI 1⟩]
theorem MhtC2_111 : isTrue (evCall (ev Tryz.prog (orcL MheC2_111 (fsL MhF)) 2 900) Tryz.prog (orcL MheC2_111 (fsL MhF)) [] 3 #[vG [kf 0, kf 1], vI 2, kf 3, vB true] (baseWorld 2 tabA)) = true := by decide +kernel
def MheC2_000 : List Ent := (eGe 3 (kf 0) (vI 1)) ++ (eLe 3 (kf 0) (vI 4096)) ++ (eGe 3 (kf 1) (vI 1)) ++ (eLe 3 (kf 1) (vI 64)) ++ (eLt 3 (kf 3) (vI 1)) ++ [⟨.bin .and 3, [kf 3, vI 1], vI 0⟩]
theorem MhtC2_000 : isTrue (evCall (ev Tryz.prog (orcL MheC2_000 (fsL MhF)) 2 900) Tryz.prog (orcL MheC2_000 (fsL MhF)) [] 3 #[vG [kf 0, kf 1], vI 2, kf 3, vB false] (baseWorld 2 tabA)) = true := by decide +kernel
def MheC2_001 : List Ent := (eGe 3 (kf 0) (vI 1)) ++ (eLe 3 (kf 0) (vI 4096)) ++ (eGe 3 (kf 1) (vI 1)) ++ (eLe 3 (kf 1) (vI 64)) ++ (eLt 3 (kf 3) (vI 1)) ++ [⟨.bin .and 3, [kf 3, vI 1], vI 0⟩]
theorem MhtC2_001 : isTrue (evCall (ev Tryz.prog (orcL MheC2_001 (fsL MhF)) 2 900) Tryz.prog (orcL MheC2_001 (fsL MhF)) [] 3 #[vG [kf 0, kf 1], vI 2, kf 3, vB true] (baseWorld 2 tabA)) = true := by decide +kernel
def MheC2_010 : List Ent := (eGe 3 (kf 0) (vI 1)) ++ (eLe 3 (kf 0) (vI 4096)) ++ (eGe 3 (kf 1) (vI 1)) ++ (eLe 3 (kf 1) (vI 64)) ++ (eLt 3 (kf 3) (vI 1)) ++ [⟨.bin .and 3, [kf 3, vI 1], vI 1⟩]
theorem MhtC2_010 : isTrue (evCall (ev Tryz.prog (orcL MheC2_010 (fsL MhF)) 2 900) Tryz.prog (orcL MheC2_010 (fsL MhF)) [] 3 #[vG [kf 0, kf 1], vI 2, kf 3, vB false] (baseWorld 2 tabA)) = true := by decide +kernel
def MheC2_011 : List Ent := (eGe 3 (kf 0) (vI 1)) ++ (eLe 3 (kf 0) (vI 4096)) ++ (eGe 3 (kf 1) (vI 1)) ++ (eLe 3 (kf 1) (vI 64)) ++ (eLt 3 (kf 3) (vI 1)) ++ [⟨.bin .and 3, [kf 3, vI 1], vI 1⟩]
theorem MhtC2_011 : isTrue (evCall (ev Tryz.prog (orcL MheC2_011 (fsL MhF)) 2 900) Tryz.prog (orcL MheC2_011 (fsL MhF)) [] 3 #[vG [kf 0, kf 1], vI 2, kf 3, vB true] (baseWorld 2 tabA)) = true := by decide +kernel
end Go.Proofs.YtlgbahkioimkfaaGreatDoor
