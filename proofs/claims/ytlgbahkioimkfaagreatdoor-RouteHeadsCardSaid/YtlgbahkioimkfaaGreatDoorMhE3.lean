/- dustpan/dustpanlaw18.RouteHeads: its runs (printed by gen_heads.py). -/
import Derived.Test.YtlgbahkioimkfaaGreatDoorMhE
namespace Go.Proofs.YtlgbahkioimkfaaGreatDoor
open Go.RowKit
set_option linter.unusedVariables false
set_option maxRecDepth 100000
def MheC3_100 : List Ent := (eGe 3 (kf 0) (vI 1)) ++ (eLe 3 (kf 0) (vI 4096)) ++ (eGe 3 (kf 1) (vI 1)) ++ (eLe 3 (kf 1) (vI 64)) ++ (eGe 3 (kf 3) (vI 1)) ++ [⟨.bin .and 3, [kf 3, vI 1], vI 0⟩] ++ [⟨.bin .rem 3, [kf 3, vI 2], vI 0⟩]
theorem MhtC3_100 : isTrue (evCall (ev Tryz.prog (orcL MheC3_100 (fsL MhF)) 2 900) Tryz.prog (orcL MheC3_100 (fsL MhF)) [] 3 #[vG [kf 0, kf 1], vI 3, kf 3, vB false] (baseWorld 2 tabA)) = true := by decide +kernel
def MheC3_101 : List Ent := (eGe 3 (kf 0) (vI 1)) ++ (eLe 3 (kf 0) (vI 4096)) ++ (eGe 3 (kf 1) (vI 1)) ++ (eLe 3 (kf 1) (vI 64)) ++ (eGe 3 (kf 3) (vI 1)) ++ [⟨.bin .and 3, [kf 3, vI 1], vI 0⟩] ++ [⟨.bin .rem 3, [kf 3, vI 2], vI 0⟩]
theorem MhtC3_101 : isTrue (evCall (ev Tryz.prog (orcL MheC3_101 (fsL MhF)) 2 900) Tryz.prog (orcL MheC3_101 (fsL MhF)) [] 3 #[vG [kf 0, kf 1], vI 3, kf 3, vB true] (baseWorld 2 tabA)) = true := by decide +kernel
def MheC3_110 : List Ent := (eGe 3 (kf 0) (vI 1)) ++ (eLe 3 (kf 0) (vI 4096)) ++ (eGe 3 (kf 1) (vI 1)) ++ (eLe 3 (kf 1) (vI 64)) ++ (eGe 3 (kf 3) (vI 1)) ++ [⟨.bin .and 3, [kf 3, vI 1], vI 1⟩] ++ [⟨.bin .rem 3, [kf 3, vI 2], vI 1⟩]
theorem MhtC3_110 : isTrue (evCall (ev Tryz.prog (orcL MheC3_110 (fsL MhF)) 2 900) Tryz.prog (orcL MheC3_110 (fsL MhF)) [] 3 #[vG [kf 0, kf 1], vI 3, kf 3, vB false] (baseWorld 2 tabA)) = true := by decide +kernel
def MheC3_111 : List Ent := (eGe 3 (kf 0) (vI 1)) ++ (eLe 3 (kf 0) (vI 4096)) ++ (eGe 3 (kf 1) (vI 1)) ++ (eLe 3 (kf 1) (vI 64)) ++ (eGe 3 (kf 3) (vI 1)) ++ [⟨.bin .and 3, [kf 3, vI 1], vI 1⟩] ++ [⟨.bin .rem 3, [kf 3, vI 2], vI 1⟩]
theorem MhtC3_111 : isTrue (evCall (ev Tryz.prog (orcL MheC3_111 (fsL MhF)) 2 900) Tryz.prog (orcL MheC3_111 (fsL MhF)) [] 3 #[vG [kf 0, kf 1], vI 3, kf 3, vB true] (baseWorld 2 tabA)) = true := by decide +kernel
def MheC3_000 : List Ent := (eGe 3 (kf 0) (vI 1)) ++ (eLe 3 (kf 0) (vI 4096)) ++ (eGe 3 (kf 1) (vI 1)) ++ (eLe 3 (kf 1) (vI 64)) ++ (eLt 3 (kf 3) (vI 1)) ++ [⟨.bin .and 3, [kf 3, vI 1], vI 0⟩]
theorem MhtC3_000 : isTrue (evCall (ev Tryz.prog (orcL MheC3_000 (fsL MhF)) 2 900) Tryz.prog (orcL MheC3_000 (fsL MhF)) [] 3 #[vG [kf 0, kf 1], vI 3, kf 3, vB false] (baseWorld 2 tabA)) = true := by decide +kernel
def MheC3_001 : List Ent := (eGe 3 (kf 0) (vI 1)) ++ (eLe 3 (kf 0) (vI 4096)) ++ (eGe 3 (kf 1) (vI 1)) ++ (eLe 3 (kf 1) (vI 64)) ++ (eLt 3 (kf 3) (vI 1)) ++ [⟨.bin .and 3, [kf 3, vI 1], vI 0⟩]
theorem MhtC3_001 : isTrue (evCall (ev Tryz.prog (orcL MheC3_001 (fsL MhF)) 2 900) Tryz.prog (orcL MheC3_001 (fsL MhF)) [] 3 #[vG [kf 0, kf 1], vI 3, kf 3, vB true] (baseWorld 2 tabA)) = true := by decide +kernel
def MheC3_010 : List Ent := (eGe 3 (kf 0) (vI 1)) ++ (eLe 3 (kf 0) (vI 4096)) ++ (eGe 3 (kf 1) (vI 1)) ++ (eLe 3 (kf 1) (vI 64)) ++ (eLt 3 (kf 3) (vI 1)) ++ [⟨.bin .and 3, [kf 3, vI 1], vI 1⟩]
theorem MhtC3_010 : isTrue (evCall (ev Tryz.prog (orcL MheC3_010 (fsL MhF)) 2 900) Tryz.prog (orcL MheC3_010 (fsL MhF)) [] 3 #[vG [kf 0, kf 1], vI 3, kf 3, vB false] (baseWorld 2 tabA)) = true := by decide +kernel
def MheC3_011 : List Ent := (eGe 3 (kf 0) (vI 1)) ++ (eLe 3 (kf 0) (vI 4096)) ++ (eGe 3 (kf 1) (vI 1)) ++ (eLe 3 (kf 1) (vI 64)) ++ (eLt 3 (kf 3) (vI 1)) ++ [⟨.bin .and 3, [kf 3, vI 1], vI 1⟩]
theorem MhtC3_011 : isTrue (evCall (ev Tryz.prog (orcL MheC3_011 (fsL MhF)) 2 900) Tryz.prog (orcL MheC3_011 (fsL MhF)) [] 3 #[vG [kf 0, kf 1], vI 3, kf 3, vB true] (baseWorld 2 tabA)) = true := by decide +kernel
def MheC4_100 : List Ent := (eGe 3 (kf 0) (vI 1)) ++ (eLe 3 (kf 0) (vI 4096)) ++ (eGe 3 (kf 1) (vI 1)) ++ (eLe 3 (kf 1) (vI 64)) ++ (eGe 3 (kf 3) (vI 1)) ++ [⟨.bin .and 3, [kf 3, vI 1], vI 0⟩] ++ [⟨.bin .rem 3, [kf 3, vI 2], vI 0⟩]
theorem MhtC4_100 : isTrue (evCall (ev Tryz.prog (orcL MheC4_100 (fsL MhF)) 2 900) Tryz.prog (orcL MheC4_100 (fsL MhF)) [] 3 #[vG [kf 0, kf 1], vI 4, kf 3, vB false] (baseWorld 2 tabA)) = true := by decide +kernel
def MheC4_101 : List Ent := (eGe 3 (kf 0) (vI 1)) ++ (eLe 3 (kf 0) (vI 4096)) ++ (eGe 3 (kf 1) (vI 1)) ++ (eLe 3 (kf 1) (vI 64)) ++ (eGe 3 (kf 3) (vI 1)) ++ [⟨.bin .and 3, [kf 3, vI 1], vI 0⟩] ++ [⟨.bin .rem 3, [kf 3, vI 2], vI 0⟩]
theorem MhtC4_101 : isTrue (evCall (ev Tryz.prog (orcL MheC4_101 (fsL MhF)) 2 900) Tryz.prog (orcL MheC4_101 (fsL MhF)) [] 3 #[vG [kf 0, kf 1], vI 4, kf 3, vB true] (baseWorld 2 tabA)) = true := by decide +kernel
def MheC4_110 : List Ent := (eGe 3 (kf 0) (vI 1)) ++ (eLe 3 (kf 0) (vI 4096)) ++ (eGe 3 (kf 1) (vI 1)) ++ (eLe 3 (kf 1) (vI 64)) ++ (eGe 3 (kf 3) (vI 1)) ++ [⟨.bin .and 3, [kf 3, vI 1], vI 1⟩] ++ [⟨.bin .rem 3, [kf 3, vI 2], vI 1⟩]
theorem MhtC4_110 : isTrue (evCall (ev Tryz.prog (orcL MheC4_110 (fsL MhF)) 2 900) Tryz.prog (orcL MheC4_110 (fsL MhF)) [] 3 #[vG [kf 0, kf 1], vI 4, kf 3, vB false] (baseWorld 2 tabA)) = true := by decide +kernel
def MheC4_111 : List Ent := (eGe 3 (kf 0) (vI 1)) ++ (eLe 3 (kf 0) (vI 4096)) ++ (eGe 3 (kf 1) (vI 1)) ++ (eLe 3 (kf 1) (vI 64)) ++ (eGe 3 (kf 3) (vI 1)) ++ [⟨.bin .and 3, [kf 3, vI 1], vI 1⟩] ++ [⟨.bin .rem 3, [kf 3, vI 2], vI 1⟩]
theorem MhtC4_111 : isTrue (evCall (ev Tryz.prog (orcL MheC4_111 (fsL MhF)) 2 900) Tryz.prog (orcL MheC4_111 (fsL MhF)) [] 3 #[vG [kf 0, kf 1], vI 4, kf 3, vB true] (baseWorld 2 tabA)) = true := by decide +kernel
def MheC4_000 : List Ent := (eGe 3 (kf 0) (vI 1)) ++ (eLe 3 (kf 0) (vI 4096)) ++ (eGe 3 (kf 1) (vI 1)) ++ (eLe 3 (kf 1) (vI 64)) ++ (eLt 3 (kf 3) (vI 1)) ++ [⟨.bin .and 3, [kf 3, vI 1], vI 0⟩]
theorem MhtC4_000 : isTrue (evCall (ev Tryz.prog (orcL MheC4_000 (fsL MhF)) 2 900) Tryz.prog (orcL MheC4_000 (fsL MhF)) [] 3 #[vG [kf 0, kf 1], vI 4, kf 3, vB false] (baseWorld 2 tabA)) = true := by decide +kernel
def MheC4_001 : List Ent := (eGe 3 (kf 0) (vI 1)) ++ (eLe 3 (kf 0) (vI 4096)) ++ (eGe 3 (kf 1) (vI 1)) ++ (eLe 3 (kf 1) (vI 64)) ++ (eLt 3 (kf 3) (vI 1)) ++ [⟨.bin .and 3, [kf 3, vI 1], vI 0⟩]
theorem MhtC4_001 : isTrue (evCall (ev Tryz.prog (orcL MheC4_001 (fsL MhF)) 2 900) Tryz.prog (orcL MheC4_001 (fsL MhF)) [] 3 #[vG [kf 0, kf 1], vI 4, kf 3, vB true] (baseWorld 2 tabA)) = true := by decide +kernel
def MheC4_010 : List Ent := (eGe 3 (kf 0) (vI 1)) ++ (eLe 3 (kf 0) (vI 4096)) ++ (eGe 3 (kf 1) (vI 1)) ++ (eLe 3 (kf 1) (vI 64)) ++ (eLt 3 (kf 3) (vI 1)) ++ [⟨.bin .and 3, [kf 3, vI 1], vI 1⟩]
theorem MhtC4_010 : isTrue (evCall (ev Tryz.prog (orcL MheC4_010 (fsL MhF)) 2 900) Tryz.prog (orcL MheC4_010 (fsL MhF)) [] 3 #[vG [kf 0, kf 1], vI 4, kf 3, vB false] (baseWorld 2 tabA)) = true := by decide +kernel
def MheC4_011 : List Ent := (eGe 3 (kf 0) (vI 1)) ++ (eLe 3 (kf 0) (vI 4096)) ++ (eGe 3 (kf 1) (vI 1)) ++ (eLe 3 (kf 1) (vI 64)) ++ (eLt 3 (kf 3) (vI 1)) ++ [⟨.bin .and 3, [kf 3, vI 1], vI 1⟩]
theorem MhtC4_011 : isTrue (evCall (ev Tryz.prog (orcL MheC4_011 (fsL MhF)) 2 900) Tryz.prog (orcL MheC4_011 (fsL MhF)) [] 3 #[vG [kf 0, kf 1], vI 4, kf 3, vB true] (baseWorld 2 tabA)) = true := by decide +kernel
def MheC5_100 : List Ent := (eGe 3 (kf 0) (vI 1)) ++ (eLe 3 (kf 0) (vI 4096)) ++ (eGe 3 (kf 1) (vI 1)) ++ (eLe 3 (kf 1) (vI 64)) ++ (eGe 3 (kf 3) (vI 1)) ++ [⟨.bin .and 3, [kf 3, vI 1], vI 0⟩] ++ [⟨.bin .rem 3, [kf 3, vI 2], vI 0⟩]
theorem MhtC5_100 : isTrue (evCall (ev Tryz.prog (orcL MheC5_100 (fsL MhF)) 2 900) Tryz.prog (orcL MheC5_100 (fsL MhF)) [] 3 #[vG [kf 0, kf 1], vI 5, kf 3, vB false] (baseWorld 2 tabA)) = true := by decide +kernel
def MheC5_101 : List Ent := (eGe 3 (kf 0) (vI 1)) ++ (eLe 3 (kf 0) (vI 4096)) ++ (eGe 3 (kf 1) (vI 1)) ++ (eLe 3 (kf 1) (vI 64)) ++ (eGe 3 (kf 3) (vI 1)) ++ [⟨.bin .and 3, [kf 3, vI 1], vI 0⟩] ++ [⟨.bin .rem 3, [kf 3, vI 2], vI 0⟩]
theorem MhtC5_101 : isTrue (evCall (ev Tryz.prog (orcL MheC5_101 (fsL MhF)) 2 900) Tryz.prog (orcL MheC5_101 (fsL MhF)) [] 3 #[vG [kf 0, kf 1], vI 5, kf 3, vB true] (baseWorld 2 tabA)) = true := by decide +kernel
def MheC5_110 : List Ent := (eGe 3 (kf 0) (vI 1)) ++ (eLe 3 (kf 0) (vI 4096)) ++ (eGe 3 (kf 1) (vI 1)) ++ (eLe 3 (kf 1) (vI 64)) ++ (eGe 3 (kf 3) (vI 1)) ++ [⟨.bin .and 3, [kf 3, vI 1], vI 1⟩] ++ [⟨.bin .rem 3, [kf 3, vI 2], vI 1⟩]
theorem MhtC5_110 : isTrue (evCall (ev Tryz.prog (orcL MheC5_110 (fsL MhF)) 2 900) Tryz.prog (orcL MheC5_110 (fsL MhF)) [] 3 #[vG [kf 0, kf 1], vI 5, kf 3, vB false] (baseWorld 2 tabA)) = true := by decide +kernel
def MheC5_111 : List Ent := (eGe 3 (kf 0) (vI 1)) ++ (eLe 3 (kf 0) (vI 4096)) ++ (eGe 3 (kf 1) (vI 1)) ++ (eLe 3 (kf 1) (vI 64)) ++ (eGe 3 (kf 3) (vI 1)) ++ [⟨.bin .and 3, [kf 3, vI 1], vI 1⟩] ++ [⟨.bin .rem 3, [kf 3, vI 2], vI 1⟩]
theorem MhtC5_111 : isTrue (evCall (ev Tryz.prog (orcL MheC5_111 (fsL MhF)) 2 900) Tryz.prog (orcL MheC5_111 (fsL MhF)) [] 3 #[vG [kf 0, kf 1], vI 5, kf 3, vB true] (baseWorld 2 tabA)) = true := by decide +kernel
def MheC5_000 : List Ent := (eGe 3 (kf 0) (vI 1)) ++ (eLe 3 (kf 0) (vI 4096)) ++ (eGe 3 (kf 1) (vI 1)) ++ (eLe 3 (kf 1) (vI 64)) ++ (eLt 3 (kf 3) (vI 1)) ++ [⟨.bin .and 3, [kf 3, vI 1], vI 0⟩]
theorem MhtC5_000 : isTrue (evCall (ev Tryz.prog (orcL MheC5_000 (fsL MhF)) 2 900) Tryz.prog (orcL MheC5_000 (fsL MhF)) [] 3 #[vG [kf 0, kf 1], vI 5, kf 3, vB false] (baseWorld 2 tabA)) = true := by decide +kernel
def MheC5_001 : List Ent := (eGe 3 (kf 0) (vI 1)) ++ (eLe 3 (kf 0) (vI 4096)) ++ (eGe 3 (kf 1) (vI 1)) ++ (eLe 3 (kf 1) (vI 64)) ++ (eLt 3 (kf 3) (vI 1)) ++ [⟨.bin .and 3, [kf 3, vI 1], vI 0⟩]
theorem MhtC5_001 : isTrue (evCall (ev Tryz.prog (orcL MheC5_001 (fsL MhF)) 2 900) Tryz.prog (orcL MheC5_001 (fsL MhF)) [] 3 #[vG [kf 0, kf 1], vI 5, kf 3, vB true] (baseWorld 2 tabA)) = true := by decide +kernel
def MheC5_010 : List Ent := (eGe 3 (kf 0) (vI 1)) ++ (eLe 3 (kf 0) (vI 4096)) ++ (eGe 3 (kf 1) (vI 1)) ++ (eLe 3 (kf 1) (vI 64)) ++ (eLt 3 (kf 3) (vI 1)) ++ [⟨.bin .and 3, [kf 3, vI 1], vI 1⟩]
theorem MhtC5_010 : isTrue (evCall (ev Tryz.prog (orcL MheC5_010 (fsL MhF)) 2 900) Tryz.prog (orcL MheC5_010 (fsL MhF)) [] 3 #[vG [kf 0, kf 1], vI 5, kf 3, vB false] (baseWorld 2 tabA)) = true := by decide +kernel
def MheC5_011 : List Ent := (eGe 3 (kf 0) (vI 1)) ++ (eLe 3 (kf 0) (vI 4096)) ++ (eGe 3 (kf 1) (vI 1)) ++ (eLe 3 (kf 1) (vI 64)) ++ (eLt 3 (kf 3) (vI 1)) ++ [⟨.bin .and 3, [kf 3, vI 1], vI 1⟩]
theorem MhtC5_011 : isTrue (evCall (ev Tryz.prog (orcL MheC5_011 (fsL MhF)) 2 900) Tryz.prog (orcL MheC5_011 (fsL MhF)) [] 3 #[vG [kf 0, kf 1], vI 5, kf 3, vB true] (baseWorld 2 tabA)) = true := by decide +kernel
end Go.Proofs.YtlgbahkioimkfaaGreatDoor
