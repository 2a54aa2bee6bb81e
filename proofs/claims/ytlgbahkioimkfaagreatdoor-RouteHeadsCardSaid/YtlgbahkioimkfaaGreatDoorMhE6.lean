/- dustpan/dustpanlaw18.RouteHeads: its runs (printed by gen_heads.py). -/
import Derived.Test.YtlgbahkioimkfaaGreatDoorMhE
namespace Go.Proofs.YtlgbahkioimkfaaGreatDoor
open Go.RowKit
set_option linter.unusedVariables false
set_option maxRecDepth 100000
def MheC12_100 : List Ent := (eGe 3 (kf 0) (vI 1)) ++ (eLe 3 (kf 0) (vI 4096)) ++ (eGe 3 (kf 1) (vI 1)) ++ (eLe 3 (kf 1) (vI 64)) ++ (eGe 3 (kf 3) (vI 1)) ++ [⟨.bin .and 3, [kf 3, vI 1], vI 0⟩] ++ [⟨.bin .rem 3, [kf 3, vI 2], vI 0⟩]
theorem MhtC12_100 : isTrue (evCall (ev Tryz.prog (orcL MheC12_100 (fsL MhF)) 2 900) Tryz.prog (orcL MheC12_100 (fsL MhF)) [] 3 #[vG [kf 0, kf 1], vI 12, kf 3, vB false] (baseWorld 2 tabA)) = true := by decide +kernel
def MheC12_101 : List Ent := (eGe 3 (kf 0) (vI 1)) ++ (eLe 3 (kf 0) (vI 4096)) ++ (eGe 3 (kf 1) (vI 1)) ++ (eLe 3 (kf 1) (vI 64)) ++ (eGe 3 (kf 3) (vI 1)) ++ [⟨.bin .and 3, [kf 3, vI 1], vI 0⟩] ++ [⟨.bin .rem 3, [kf 3, vI 2], vI 0⟩]
theorem MhtC12_101 : isTrue (evCall (ev Tryz.prog (orcL MheC12_101 (fsL MhF)) 2 900) Tryz.prog (orcL MheC12_101 (fsL MhF)) [] 3 #[vG [kf 0, kf 1], vI 12, kf 3, vB true] (baseWorld 2 tabA)) = true := by decide +kernel
def MheC12_110 : List Ent := (eGe 3 (kf 0) (vI 1)) ++ (eLe 3 (kf 0) (vI 4096)) ++ (eGe 3 (kf 1) (vI 1)) ++ (eLe 3 (kf 1) (vI 64)) ++ (eGe 3 (kf 3) (vI 1)) ++ [⟨.bin .and 3, [kf 3, vI 1], vI 1⟩] ++ [⟨.bin .rem 3, [kf 3, vI 2], vI 1⟩]
theorem MhtC12_110 : isTrue (evCall (ev Tryz.prog (orcL MheC12_110 (fsL MhF)) 2 900) Tryz.prog (orcL MheC12_110 (fsL MhF)) [] 3 #[vG [kf 0, kf 1], vI 12, kf 3, vB false] (baseWorld 2 tabA)) = true := by decide +kernel
def MheC12_111 : List Ent := (eGe 3 (kf 0) (vI 1)) ++ (eLe 3 (kf 0) (vI 4096)) ++ (eGe 3 (kf 1) (vI 1)) ++ (eLe 3 (kf 1) (vI 64)) ++ (eGe 3 (kf 3) (vI 1)) ++ [⟨.bin .and 3, [kf 3, vI 1], vI 1⟩] ++ [⟨.bin .rem 3, [kf 3, vI 2], vI 1⟩]
theorem MhtC12_111 : isTrue (evCall (ev Tryz.prog (orcL MheC12_111 (fsL MhF)) 2 900) Tryz.prog (orcL MheC12_111 (fsL MhF)) [] 3 #[vG [kf 0, kf 1], vI 12, kf 3, vB true] (baseWorld 2 tabA)) = true := by decide +kernel
def MheC12_000 : List Ent := (eGe 3 (kf 0) (vI 1)) ++ (eLe 3 (kf 0) (vI 4096)) ++ (eGe 3 (kf 1) (vI 1)) ++ (eLe 3 (kf 1) (vI 64)) ++ (eLt 3 (kf 3) (vI 1)) ++ [⟨.bin .and 3, [kf 3, vI 1], vI 0⟩]
theorem MhtC12_000 : isTrue (evCall (ev Tryz.prog (orcL MheC12_000 (fsL MhF)) 2 900) Tryz.prog (orcL MheC12_000 (fsL MhF)) [] 3 #[vG [kf 0, kf 1], vI 12, kf 3, vB false] (baseWorld 2 tabA)) = true := by decide +kernel
def MheC12_001 : List Ent := (eGe 3 (kf 0) (vI 1)) ++ (eLe 3 (kf 0) (vI 4096)) ++ (eGe 3 (kf 1) (vI 1)) ++ (eLe 3 (kf 1) (vI 64)) ++ (eLt 3 (kf 3) (vI 1)) ++ [⟨.bin .and 3, [kf 3, vI 1], vI 0⟩]
theorem MhtC12_001 : isTrue (evCall (ev Tryz.prog (orcL MheC12_001 (fsL MhF)) 2 900) Tryz.prog (orcL MheC12_001 (fsL MhF)) [] 3 #[vG [kf 0, kf 1], vI 12, kf 3, vB true] (baseWorld 2 tabA)) = true := by decide +kernel
def MheC12_010 : List Ent := (eGe 3 (kf 0) (vI 1)) ++ (eLe 3 (kf 0) (vI 4096)) ++ (eGe 3 (kf 1) (vI 1)) ++ (eLe 3 (kf 1) (vI 64)) ++ (eLt 3 (kf 3) (vI 1)) ++ [⟨.bin .and 3, [kf 3, vI 1], vI 1⟩]
theorem MhtC12_010 : isTrue (evCall (ev Tryz.prog (orcL MheC12_010 (fsL MhF)) 2 900) Tryz.prog (orcL MheC12_010 (fsL MhF)) [] 3 #[vG [kf 0, kf 1], vI 12, kf 3, vB false] (baseWorld 2 tabA)) = true := by decide +kernel
def MheC12_011 : List Ent := (eGe 3 (kf 0) (vI 1)) ++ (eLe 3 (kf 0) (vI 4096)) ++ (eGe 3 (kf 1) (vI 1)) ++ (eLe 3 (kf 1) (vI 64)) ++ (eLt 3 (kf 3) (vI 1)) ++ [⟨.bin .and 3, [kf 3, vI 1], vI 1⟩]
theorem MhtC12_011 : isTrue (evCall (ev Tryz.prog (orcL MheC12_011 (fsL MhF)) 2 900) Tryz.prog (orcL MheC12_011 (fsL MhF)) [] 3 #[vG [kf 0, kf 1], vI 12, kf 3, vB true] (baseWorld 2 tabA)) = true := by decide +kernel
def MheC13_100 : List Ent := (eGe 3 (kf 0) (vI 1)) ++ (eLe 3 (kf 0) (vI 4096)) ++ (eGe 3 (kf 1) (vI 1)) ++ (eLe 3 (kf 1) (vI 64)) ++ (eGe 3 (kf 3) (vI 1)) ++ [⟨.bin .and 3, [kf 3, vI 1], vI 0⟩] ++ [⟨.bin .rem 3, [kf 3, vI 2], vI 0⟩]
theorem MhtC13_100 : isTrue (evCall (ev Tryz.prog (orcL MheC13_100 (fsL MhF)) 2 900) Tryz.prog (orcL MheC13_100 (fsL MhF)) [] 3 #[vG [kf 0, kf 1], vI 13, kf 3, vB false] (baseWorld 2 tabA)) = true := by decide +kernel
def MheC13_101 : List Ent := (eGe 3 (kf 0) (vI 1)) ++ (eLe 3 (kf 0) (vI 4096)) ++ (eGe 3 (kf 1) (vI 1)) ++ (eLe 3 (kf 1) (vI 64)) ++ (eGe 3 (kf 3) (vI 1)) ++ [⟨.bin .and 3, [kf 3, vI 1], vI 0⟩] ++ [⟨.bin .rem 3, [kf 3, vI 2], vI 0⟩]
theorem MhtC13_101 : isTrue (evCall (ev Tryz.prog (orcL MheC13_101 (fsL MhF)) 2 900) Tryz.prog (orcL MheC13_101 (fsL MhF)) [] 3 #[vG [kf 0, kf 1], vI 13, kf 3, vB true] (baseWorld 2 tabA)) = true := by decide +kernel
def MheC13_110 : List Ent := (eGe 3 (kf 0) (vI 1)) ++ (eLe 3 (kf 0) (vI 4096)) ++ (eGe 3 (kf 1) (vI 1)) ++ (eLe 3 (kf 1) (vI 64)) ++ (eGe 3 (kf 3) (vI 1)) ++ [⟨.bin .and 3, [kf 3, vI 1], vI 1⟩] ++ [⟨.bin .rem 3, [kf 3, vI 2], vI 1⟩]
theorem MhtC13_110 : isTrue (evCall (ev Tryz.prog (orcL MheC13_110 (fsL MhF)) 2 900) Tryz.prog (orcL MheC13_110 (fsL MhF)) [] 3 #[vG [kf 0, kf 1], vI 13, kf 3, vB false] (baseWorld 2 tabA)) = true := by decide +kernel
def MheC13_111 : List Ent := (eGe 3 (kf 0) (vI 1)) ++ (eLe 3 (kf 0) (vI 4096)) ++ (eGe 3 (kf 1) (vI 1)) ++ (eLe 3 (kf 1) (vI 64)) ++ (eGe 3 (kf 3) (vI 1)) ++ [⟨.bin .and 3, [kf 3, vI 1], vI 1⟩] ++ [⟨.bin .rem 3, [kf 3, vI 2], vI 1⟩]
theorem MhtC13_111 : isTrue (evCall (ev Tryz.prog (orcL MheC13_111 (fsL MhF)) 2 900) Tryz.prog (orcL MheC13_111 (fsL MhF)) [] 3 #[vG [kf 0, kf 1], vI 13, kf 3, vB true] (baseWorld 2 tabA)) = true := by decide +kernel
def MheC13_000 : List Ent := (eGe 3 (kf 0) (vI 1)) ++ (eLe 3 (kf 0) (vI 4096)) ++ (eGe 3 (kf 1) (vI 1)) ++ (eLe 3 (kf 1) (vI 64)) ++ (eLt 3 (kf 3) (vI 1)) ++ [⟨.bin .and 3, [kf 3, vI 1], vI 0⟩]
theorem MhtC13_000 : isTrue (evCall (ev Tryz.prog (orcL MheC13_000 (fsL MhF)) 2 900) Tryz.prog (orcL MheC13_000 (fsL MhF)) [] 3 #[vG [kf 0, kf 1], vI 13, kf 3, vB false] (baseWorld 2 tabA)) = true := by decide +kernel
def MheC13_001 : List Ent := (eGe 3 (kf 0) (vI 1)) ++ (eLe 3 (kf 0) (vI 4096)) ++ (eGe 3 (kf 1) (vI 1)) ++ (eLe 3 (kf 1) (vI 64)) ++ (eLt 3 (kf 3) (vI 1)) ++ [⟨.bin .and 3, [kf 3, vI 1], vI 0⟩]
theorem MhtC13_001 : isTrue (evCall (ev Tryz.prog (orcL MheC13_001 (fsL MhF)) 2 900) Tryz.prog (orcL MheC13_001 (fsL MhF)) [] 3 #[vG [kf 0, kf 1], vI 13, kf 3, vB true] (baseWorld 2 tabA)) = true := by decide +kernel
def MheC13_010 : List Ent := (eGe 3 (kf 0) (vI 1)) ++ (eLe 3 (kf 0) (vI 4096)) ++ (eGe 3 (kf 1) (vI 1)) ++ (eLe 3 (kf 1) (vI 64)) ++ (eLt 3 (kf 3) (vI 1)) ++ [⟨.bin .and 3, [kf 3, vI 1], vI 1⟩]
theorem MhtC13_010 : isTrue (evCall (ev Tryz.prog (orcL MheC13_010 (fsL MhF)) 2 900) Tryz.prog (orcL MheC13_010 (fsL MhF)) [] 3 #[vG [kf 0, kf 1], vI 13, kf 3, vB false] (baseWorld 2 tabA)) = true := by decide +kernel
def MheC13_011 : List Ent := (eGe 3 (kf 0) (vI 1)) ++ (eLe 3 (kf 0) (vI 4096)) ++ (eGe 3 (kf 1) (vI 1)) ++ (eLe 3 (kf 1) (vI 64)) ++ (eLt 3 (kf 3) (vI 1)) ++ [⟨.bin .and 3, [kf 3, vI 1], vI 1⟩]
theorem MhtC13_011 : isTrue (evCall (ev Tryz.prog (orcL MheC13_011 (fsL MhF)) 2 900) Tryz.prog (orcL MheC13_011 (fsL MhF)) [] 3 #[vG [kf 0, kf 1], vI 13, kf 3, vB true] (baseWorld 2 tabA)) = true := by decide +kernel
def MheC14_100 : List Ent := (eGe 3 (kf 0) (vI 1)) ++ (eLe 3 (kf 0) (vI 4096)) ++ (eGe 3 (kf 1) (vI 1)) ++ (eLe 3 (kf 1) (vI 64)) ++ (eGe 3 (kf 3) (vI 1)) ++ [⟨.bin .and 3, [kf 3, vI 1], vI 0⟩] ++ [⟨.bin .rem 3, [kf 3, vI 2], vI 0⟩]
theorem MhtC14_100 : isTrue (evCall (ev Tryz.prog (orcL MheC14_100 (fsL MhF)) 2 900) Tryz.prog (orcL MheC14_100 (fsL MhF)) [] 3 #[vG [kf 0, kf 1], vI 14, kf 3, vB false] (baseWorld 2 tabA)) = true := by decide +kernel
def MheC14_101 : List Ent := (eGe 3 (kf 0) (vI 1)) ++ (eLe 3 (kf 0) (vI 4096)) ++ (eGe 3 (kf 1) (vI 1)) ++ (eLe 3 (kf 1) (vI 64)) ++ (eGe 3 (kf 3) (vI 1)) ++ [⟨.bin .and 3, [kf 3, vI 1], vI 0⟩] ++ [⟨.bin .rem 3, [kf 3, vI 2], vI 0⟩]
theorem MhtC14_101 : isTrue (evCall (ev Tryz.prog (orcL MheC14_101 (fsL MhF)) 2 900) Tryz.prog (orcL MheC14_101 (fsL MhF)) [] 3 #[vG [kf 0, kf 1], vI 14, kf 3, vB true] (baseWorld 2 tabA)) = true := by decide +kernel
def MheC14_110 : List Ent := (eGe 3 (kf 0) (vI 1)) ++ (eLe 3 (kf 0) (vI 4096)) ++ (eGe 3 (kf 1) (vI 1)) ++ (eLe 3 (kf 1) (vI 64)) ++ (eGe 3 (kf 3) (vI 1)) ++ [⟨.bin .and 3, [kf 3, vI 1], vI 1⟩] ++ [⟨.bin .rem 3, [kf 3, vI 2], vI 1⟩]
theorem MhtC14_110 : isTrue (evCall (ev Tryz.prog (orcL MheC14_110 (fsL MhF)) 2 900) Tryz.prog (orcL MheC14_110 (fsL MhF)) [] 3 #[vG [kf 0, kf 1], vI 14, kf 3, vB false] (baseWorld 2 tabA)) = true := by decide +kernel
def MheC14_111 : List Ent := (eGe 3 (kf 0) (vI 1)) ++ (eLe 3 (kf 0) (vI 4096)) ++ (eGe 3 (kf 1) (vI 1)) ++ (eLe 3 (kf 1) (vI 64)) ++ (eGe 3 (kf 3) (vI 1)) ++ [⟨.bin .and 3, [kf 3, vI 1], vI 1⟩] ++ [⟨.bin .rem 3, [kf 3, vI 2], vI 1⟩]
theorem MhtC14_111 : isTrue (evCall (ev Tryz.prog (orcL MheC14_111 (fsL MhF)) 2 900) Tryz.prog (orcL MheC14_111 (fsL MhF)) [] 3 #[vG [kf 0, kf 1], vI 14, kf 3, vB true] (baseWorld 2 tabA)) = true := by decide +kernel
def MheC14_000 : List Ent := (eGe 3 (kf 0) (vI 1)) ++ (eLe 3 (kf 0) (vI 4096)) ++ (eGe 3 (kf 1) (vI 1)) ++ (eLe 3 (kf 1) (vI 64)) ++ (eLt 3 (kf 3) (vI 1)) ++ [⟨.bin .and 3, [kf 3, vI 1], vI 0⟩]
theorem MhtC14_000 : isTrue (evCall (ev Tryz.prog (orcL MheC14_000 (fsL MhF)) 2 900) Tryz.prog (orcL MheC14_000 (fsL MhF)) [] 3 #[vG [kf 0, kf 1], vI 14, kf 3, vB false] (baseWorld 2 tabA)) = true := by decide +kernel
def MheC14_001 : List Ent := (eGe 3 (kf 0) (vI 1)) ++ (eLe 3 (kf 0) (vI 4096)) ++ (eGe 3 (kf 1) (vI 1)) ++ (eLe 3 (kf 1) (vI 64)) ++ (eLt 3 (kf 3) (vI 1)) ++ [⟨.bin .and 3, [kf 3, vI 1], vI 0⟩]
theorem MhtC14_001 : isTrue (evCall (ev Tryz.prog (orcL MheC14_001 (fsL MhF)) 2 900) Tryz.prog (orcL MheC14_001 (fsL MhF)) [] 3 #[vG [kf 0, kf 1], vI 14, kf 3, vB true] (baseWorld 2 tabA)) = true := by decide +kernel
def MheC14_010 : List Ent := (eGe 3 (kf 0) (vI 1)) ++ (eLe 3 (kf 0) (vI 4096)) ++ (eGe 3 (kf 1) (vI 1)) ++ (eLe 3 (kf 1) (vI 64)) ++ (eLt 3 (kf 3) (vI 1)) ++ [⟨.bin .and 3, [kf 3, vI 1], vI 1⟩]
theorem MhtC14_010 : isTrue (evCall (ev Tryz.prog (orcL MheC14_010 (fsL MhF)) 2 900) Tryz.prog (orcL MheC14_010 (fsL MhF)) [] 3 #[vG [kf 0, kf 1], vI 14, kf 3, vB false] (baseWorld 2 tabA)) = true := by decide +kernel
def MheC14_011 : List Ent := (eGe 3 (kf 0) (vI 1)) ++ (eLe 3 (kf 0) (vI 4096)) ++ (eGe 3 (kf 1) (vI 1)) ++ (eLe 3 (kf 1) (vI 64)) ++ (eLt 3 (kf 3) (vI 1)) ++ [⟨.bin .and 3, [kf 3, vI 1], vI 1⟩]
theorem MhtC14_011 : isTrue (evCall (ev Tryz.prog (orcL MheC14_011 (fsL MhF)) 2 900) Tryz.prog (orcL MheC14_011 (fsL MhF)) [] 3 #[vG [kf 0, kf 1], vI 14, kf 3, vB true] (baseWorld 2 tabA)) = true := by decide +kernel
end Go.Proofs.YtlgbahkioimkfaaGreatDoor
