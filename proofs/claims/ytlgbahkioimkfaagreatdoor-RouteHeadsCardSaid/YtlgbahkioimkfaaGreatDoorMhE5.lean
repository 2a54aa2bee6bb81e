/- dustpan/dustpanlaw18.RouteHeads: its runs (printed by gen_heads.py). -/
import Derived.Test.YtlgbahkioimkfaaGreatDoorMhE
namespace Go.Proofs.YtlgbahkioimkfaaGreatDoor
open Go.RowKit
set_option linter.unusedVariables false
set_option maxRecDepth 100000
def MheC9_100 : List Ent := (eGe 3 (kf 0) (vI 1)) ++ (eLe 3 (kf 0) (vI 4096)) ++ (eGe 3 (kf 1) (vI 1)) ++ (eLe 3 (kf 1) (vI 64)) ++ (eGe 3 (kf 3) (vI 1)) ++ [⟨.bin .and 3, [kf 3, vI 1], vI 0⟩] ++ [⟨.bin .rem 3, [kf 3, vI 2], vI 0⟩]
theorem MhtC9_100 : isTrue (evCall (ev Tryz.prog (orcL MheC9_100 (fsL MhF)) 2 900) Tryz.prog (orcL MheC9_100 (fsL MhF)) [] 3 #[vG [kf 0, kf 1], vI 9, kf 3, vB false] (baseWorld 2 tabA)) = true := by decide +kernel
def MheC9_101 : List Ent := (eGe 3 (kf 0) (vI 1)) ++ (eLe 3 (kf 0) (vI 4096)) ++ (eGe 3 (kf 1) (vI 1)) ++ (eLe 3 (kf 1) (vI 64)) ++ (eGe 3 (kf 3) (vI 1)) ++ [⟨.bin .and 3, [kf 3, vI 1], vI 0⟩] ++ [⟨.bin .rem 3, [kf 3, vI 2], vI 0⟩]
theorem MhtC9_101 : isTrue (evCall (ev Tryz.prog (orcL MheC9_101 (fsL MhF)) 2 900) Tryz.prog (orcL MheC9_101 (fsL MhF)) [] 3 #[vG [kf 0, kf 1], vI 9, kf 3, vB true] (baseWorld 2 tabA)) = true := by decide +kernel
def MheC9_110 : List Ent := (eGe 3 (kf 0) (vI 1)) ++ (eLe 3 (kf 0) (vI 4096)) ++ (eGe 3 (kf 1) (vI 1)) ++ (eLe 3 (kf 1) (vI 64)) ++ (eGe 3 (kf 3) (vI 1)) ++ [⟨.bin .and 3, [kf 3, vI 1], vI 1⟩] ++ [⟨.bin .rem 3, [kf 3, vI 2], vI 1⟩]
theorem MhtC9_110 : isTrue (evCall (ev Tryz.prog (orcL MheC9_110 (fsL MhF)) 2 900) Tryz.prog (orcL MheC9_110 (fsL MhF)) [] 3 #[vG [kf 0, kf 1], vI 9, kf 3, vB false] (baseWorld 2 tabA)) = true := by decide +kernel
def MheC9_111 : List Ent := (eGe 3 (kf 0) (vI 1)) ++ (eLe 3 (kf 0) (vI 4096)) ++ (eGe 3 (kf 1) (vI 1)) ++ (eLe 3 (kf 1) (vI 64)) ++ (eGe 3 (kf 3) (vI 1)) ++ [⟨.bin .and 3, [kf 3, vI 1], vI 1⟩] ++ [⟨.bin .rem 3, [kf 3, vI 2], vI 1⟩]
theorem MhtC9_111 : isTrue (evCall (ev Tryz.prog (orcL MheC9_111 (fsL MhF)) 2 900) Tryz.prog (orcL MheC9_111 (fsL MhF)) [] 3 #[vG [kf 0, kf 1], vI 9, kf 3, vB true] (baseWorld 2 tabA)) = true := by decide +kernel
def MheC9_000 : List Ent := (eGe 3 (kf 0) (vI 1)) ++ (eLe 3 (kf 0) (vI 4096)) ++ (eGe 3 (kf 1) (vI 1)) ++ (eLe 3 (kf 1) (vI 64)) ++ (eLt 3 (kf 3) (vI 1)) ++ [⟨.bin .and 3, [kf 3, vI 1], vI 0⟩]
theorem MhtC9_000 : isTrue (evCall (ev Tryz.prog (orcL MheC9_000 (fsL MhF)) 2 900) Tryz.prog (orcL MheC9_000 (fsL MhF)) [] 3 #[vG [kf 0, kf 1], vI 9, kf 3, vB false] (baseWorld 2 tabA)) = true := by decide +kernel
def MheC9_001 : List Ent := (eGe 3 (kf 0) (vI 1)) ++ (eLe 3 (kf 0) (vI 4096)) ++ (eGe 3 (kf 1) (vI 1)) ++ (eLe 3 (kf 1) (vI 64)) ++ (eLt 3 (kf 3) (vI 1)) ++ [⟨.bin .and 3, [kf 3, vI 1], vI 0⟩]
theorem MhtC9_001 : isTrue (evCall (ev Tryz.prog (orcL MheC9_001 (fsL MhF)) 2 900) Tryz.prog (orcL MheC9_001 (fsL MhF)) [] 3 #[vG [kf 0, kf 1], vI 9, kf 3, vB true] (baseWorld 2 tabA)) = true := by decide +kernel
def MheC9_010 : List Ent := (eGe 3 (kf 0) (vI 1)) ++ (eLe 3 (kf 0) (vI 4096)) ++ (eGe 3 (kf 1) (vI 1)) ++ (eLe 3 (kf 1) (vI 64)) ++ (eLt 3 (kf 3) (vI 1)) ++ [⟨.bin .and 3, [kf 3, vI 1], vI 1⟩]
theorem MhtC9_010 : isTrue (evCall (ev Tryz.prog (orcL MheC9_010 (fsL MhF)) 2 900) Tryz.prog (orcL MheC9_010 (fsL MhF)) [] 3 #[vG [kf 0, kf 1], vI 9, kf 3, vB false] (baseWorld 2 tabA)) = true := by decide +kernel
def MheC9_011 : List Ent := (eGe 3 (kf 0) (vI 1)) ++ (eLe 3 (kf 0) (vI 4096)) ++ (eGe 3 (kf 1) (vI 1)) ++ (eLe 3 (kf 1) (vI 64)) ++ (eLt 3 (kf 3) (vI 1)) ++ [⟨.bin .and 3, [kf 3, vI 1], vI 1⟩]
theorem MhtC9_011 : isTrue (evCall (ev Tryz.prog (orcL MheC9_011 (fsL MhF)) 2 900) Tryz.prog (orcL MheC9_011 (fsL MhF)) [] 3 #[vG [kf 0, kf 1], vI 9, kf 3, vB true] (baseWorld 2 tabA)) = true := by decide +kernel
def MheC10_100 : List Ent := (eGe 3 (kf 0) (vI 1)) ++ (eLe 3 (kf 0) (vI 4096)) ++ (eGe 3 (kf 1) (vI 1)) ++ (eLe 3 (kf 1) (vI 64)) ++ (eGe 3 (kf 3) (vI 1)) ++ [⟨.bin .and 3, [kf 3, vI 1], vI 0⟩] ++ [⟨.bin .rem 3, [kf 3, vI 2], vI 0⟩]
theorem MhtC10_100 : isTrue (evCall (ev Tryz.prog (orcL MheC10_100 (fsL MhF)) 2 900) Tryz.prog (orcL MheC10_100 (fsL MhF)) [] 3 #[vG [kf 0, kf 1], vI 10, kf 3, vB false] (baseWorld 2 tabA)) = true := by decide +kernel
def MheC10_101 : List Ent := (eGe 3 (kf 0) (vI 1)) ++ (eLe 3 (kf 0) (vI 4096)) ++ (eGe 3 (kf 1) (vI 1)) ++ (eLe 3 (kf 1) (vI 64)) ++ (eGe 3 (kf 3) (vI 1)) ++ [⟨.bin .and 3, [kf 3, vI 1], vI 0⟩] ++ [⟨.bin .rem 3, [kf 3, vI 2], vI 0⟩]
theorem MhtC10_101 : isTrue (evCall (ev Tryz.prog (orcL MheC10_101 (fsL MhF)) 2 900) Tryz.prog (orcL MheC10_101 (fsL MhF)) [] 3 #[vG [kf 0, kf 1], vI 10, kf 3, vB true] (baseWorld 2 tabA)) = true := by decide +kernel
def MheC10_110 : List Ent := (eGe 3 (kf 0) (vI 1)) ++ (eLe 3 (kf 0) (vI 4096)) ++ (eGe 3 (kf 1) (vI 1)) ++ (eLe 3 (kf 1) (vI 64)) ++ (eGe 3 (kf 3) (vI 1)) ++ [⟨.bin .and 3, [kf 3, vI 1], vI 1⟩] ++ [⟨.bin .rem 3, [kf 3, vI 2], vI 1⟩]
theorem MhtC10_110 : isTrue (evCall (ev Tryz.prog (orcL MheC10_110 (fsL MhF)) 2 900) Tryz.prog (orcL MheC10_110 (fsL MhF)) [] 3 #[vG [kf 0, kf 1], vI 10, kf 3, vB false] (baseWorld 2 tabA)) = true := by decide +kernel
def MheC10_111 : List Ent := (eGe 3 (kf 0) (vI 1)) ++ (eLe 3 (kf 0) (vI 4096)) ++ (eGe 3 (kf 1) (vI 1)) ++ (eLe 3 (kf 1) (vI 64)) ++ (eGe 3 (kf 3) (vI 1)) ++ [⟨.bin .and 3, [kf 3, vI 1], vI 1⟩] ++ [⟨.bin .rem 3, [kf 3, vI 2], vI 1⟩]
theorem MhtC10_111 : isTrue (evCall (ev Tryz.prog (orcL MheC10_111 (fsL MhF)) 2 900) Tryz.prog (orcL MheC10_111 (fsL MhF)) [] 3 #[vG [kf 0, kf 1], vI 10, kf 3, vB true] (baseWorld 2 tabA)) = true := by decide +kernel
def MheC10_000 : List Ent := (eGe 3 (kf 0) (vI 1)) ++ (eLe 3 (kf 0) (vI 4096)) ++ (eGe 3 (kf 1) (vI 1)) ++ (eLe 3 (kf 1) (vI 64)) ++ (eLt 3 (kf 3) (vI 1)) ++ [⟨.bin .and 3, [kf 3, vI 1], vI 0⟩]
theorem MhtC10_000 : isTrue (evCall (ev Tryz.prog (orcL MheC10_000 (fsL MhF)) 2 900) Tryz.prog (orcL MheC10_000 (fsL MhF)) [] 3 #[vG [kf 0, kf 1], vI 10, kf 3, vB false] (baseWorld 2 tabA)) = true := by decide +kernel
def MheC10_001 : List Ent := (eGe 3 (kf 0) (vI 1)) ++ (eLe 3 (kf 0) (vI 4096)) ++ (eGe 3 (kf 1) (vI 1)) ++ (eLe 3 (kf 1) (vI 64)) ++ (eLt 3 (kf 3) (vI 1)) ++ [⟨.bin .and 3, [kf 3, vI 1], vI 0⟩]
theorem MhtC10_001 : isTrue (evCall (ev Tryz.prog (orcL MheC10_001 (fsL MhF)) 2 900) Tryz.prog (orcL MheC10_001 (fsL MhF)) [] 3 #[vG [kf 0, kf 1], vI 10, kf 3, vB true] (baseWorld 2 tabA)) = true := by decide +kernel
def MheC10_010 : List Ent := (eGe 3 (kf 0) (vI 1)) ++ (eLe 3 (kf 0) (vI 4096)) ++ (eGe 3 (kf 1) (vI 1)) ++ (eLe 3 (kf 1) (vI 64)) ++ (eLt 3 (kf 3) (vI 1)) ++ [⟨.bin .and 3, [kf 3, vI 1], vI 1⟩]
theorem MhtC10_010 : isTrue (evCall (ev Tryz.prog (orcL MheC10_010 (fsL MhF)) 2 900) Tryz.prog (orcL MheC10_010 (fsL MhF)) [] 3 #[vG [kf 0, kf 1], vI 10, kf 3, vB false] (baseWorld 2 tabA)) = true := by decide +kernel
def MheC10_011 : List Ent := (eGe 3 (kf 0) (vI 1)) ++ (eLe 3 (kf 0) (vI 4096)) ++ (eGe 3 (kf 1) (vI 1)) ++ (eLe 3 (kf 1) (vI 64)) ++ (eLt 3 (kf 3) (vI 1)) ++ [⟨.bin .and 3, [kf 3, vI 1], vI 1⟩]
theorem MhtC10_011 : isTrue (evCall (ev Tryz.prog (orcL MheC10_011 (fsL MhF)) 2 900) Tryz.prog (orcL MheC10_011 (fsL MhF)) [] 3 #[vG [kf 0, kf 1], vI 10, kf 3, vB true] (baseWorld 2 tabA)) = true := by decide +kernel
def MheC11_100 : List Ent := (eGe 3 (kf 0) (vI 1)) ++ (eLe 3 (kf 0) (vI 4096)) ++ (eGe 3 (kf 1) (vI 1)) ++ (eLe 3 (kf 1) (vI 64)) ++ (eGe 3 (kf 3) (vI 1)) ++ [⟨.bin .and 3, [kf 3, vI 1], vI 0⟩] ++ [⟨.bin .rem 3, [kf 3, vI 2], vI 0⟩]
theorem MhtC11_100 : isTrue (evCall (ev Tryz.prog (orcL MheC11_100 (fsL MhF)) 2 900) Tryz.prog (orcL MheC11_100 (fsL MhF)) [] 3 #[vG [kf 0, kf 1], vI 11, kf 3, vB false] (baseWorld 2 tabA)) = true := by decide +kernel
def MheC11_101 : List Ent := (eGe 3 (kf 0) (vI 1)) ++ (eLe 3 (kf 0) (vI 4096)) ++ (eGe 3 (kf 1) (vI 1)) ++ (eLe 3 (kf 1) (vI 64)) ++ (eGe 3 (kf 3) (vI 1)) ++ [⟨.bin .and 3, [kf 3, vI 1], vI 0⟩] ++ [⟨.bin .rem 3, [kf 3, vI 2], vI 0⟩]
theorem MhtC11_101 : isTrue (evCall (ev Tryz.prog (orcL MheC11_101 (fsL MhF)) 2 900) Tryz.prog (orcL MheC11_101 (fsL MhF)) [] 3 #[vG [kf 0, kf 1], vI 11, kf 3, vB true] (baseWorld 2 tabA)) = true := by decide +kernel
def MheC11_110 : List Ent := (eGe 3 (kf 0) (vI 1)) ++ (eLe 3 (kf 0) (vI 4096)) ++ (eGe 3 (kf 1) (vI 1)) ++ (eLe 3 (kf 1) (vI 64)) ++ (eGe 3 (kf 3) (vI 1)) ++ [⟨.bin .and 3, [kf 3, vI 1], vI 1⟩] ++ [⟨.bin .rem 3, [kf 3, vI 2], vI 1⟩]
theorem MhtC11_110 : isTrue (evCall (ev Tryz.prog (orcL MheC11_110 (fsL MhF)) 2 900) Tryz.prog (orcL MheC11_110 (fsL MhF)) [] 3 #[vG [kf 0, kf 1], vI 11, kf 3, vB false] (baseWorld 2 tabA)) = true := by decide +kernel
def MheC11_111 : List Ent := (eGe 3 (kf 0) (vI 1)) ++ (eLe 3 (kf 0) (vI 4096)) ++ (eGe 3 (kf 1) (vI 1)) ++ (eLe 3 (kf 1) (vI 64)) ++ (eGe 3 (kf 3) (vI 1)) ++ [⟨.bin .and 3, [kf 3, vI 1], vI 1⟩] ++ [⟨.bin .rem 3, [kf 3, vI 2], vI 1⟩]
theorem MhtC11_111 : isTrue (evCall (ev Tryz.prog (orcL MheC11_111 (fsL MhF)) 2 900) Tryz.prog (orcL MheC11_111 (fsL MhF)) [] 3 #[vG [kf 0, kf 1], vI 11, kf 3, vB true] (baseWorld 2 tabA)) = true := by decide +kernel
def MheC11_000 : List Ent := (eGe 3 (kf 0) (vI 1)) ++ (eLe 3 (kf 0) (vI 4096)) ++ (eGe 3 (kf 1) (vI 1)) ++ (eLe 3 (kf 1) (vI 64)) ++ (eLt 3 (kf 3) (vI 1)) ++ [⟨.bin .and 3, [kf 3, vI 1], vI 0⟩]
theorem MhtC11_000 : isTrue (evCall (ev Tryz.prog (orcL MheC11_000 (fsL MhF)) 2 900) Tryz.prog (orcL MheC11_000 (fsL MhF)) [] 3 #[vG [kf 0, kf 1], vI 11, kf 3, vB false] (baseWorld 2 tabA)) = true := by decide +kernel
def MheC11_001 : List Ent := (eGe 3 (kf 0) (vI 1)) ++ (eLe 3 (kf 0) (vI 4096)) ++ (eGe 3 (kf 1) (vI 1)) ++ (eLe 3 (kf 1) (vI 64)) ++ (eLt 3 (kf 3) (vI 1)) ++ [⟨.bin .and 3, [kf 3, vI 1], vI 0⟩]
theorem MhtC11_001 : isTrue (evCall (ev Tryz.prog (orcL MheC11_001 (fsL MhF)) 2 900) Tryz.prog (orcL MheC11_001 (fsL MhF)) [] 3 #[vG [kf 0, kf 1], vI 11, kf 3, vB true] (baseWorld 2 tabA)) = true := by decide +kernel
def MheC11_010 : List Ent := (eGe 3 (kf 0) (vI 1)) ++ (eLe 3 (kf 0) (vI 4096)) ++ (eGe 3 (kf 1) (vI 1)) ++ (eLe 3 (kf 1) (vI 64)) ++ (eLt 3 (kf 3) (vI 1)) ++ [⟨.bin .and 3, [kf 3, vI 1], vI 1⟩]
theorem MhtC11_010 : isTrue (evCall (ev Tryz.prog (orcL MheC11_010 (fsL MhF)) 2 900) Tryz.prog (orcL MheC11_010 (fsL MhF)) [] 3 #[vG [kf 0, kf 1], vI 11, kf 3, vB false] (baseWorld 2 tabA)) = true := by decide +kernel
def MheC11_011 : List Ent := (eGe 3 (kf 0) (vI 1)) ++ (eLe 3 (kf 0) (vI 4096)) ++ (eGe 3 (kf 1) (vI 1)) ++ (eLe 3 (kf 1) (vI 64)) ++ (eLt 3 (kf 3) (vI 1)) ++ [⟨.bin .and 3, [kf 3, vI 1], vI 1⟩]
theorem MhtC11_011 : isTrue (evCall (ev Tryz.prog (orcL MheC11_011 (fsL MhF)) 2 900) Tryz.prog (orcL MheC11_011 (fsL MhF)) [] 3 #[vG [kf 0, kf 1], vI 11, kf 3, vB true] (baseWorld 2 tabA)) = true := by decide +kernel
end Go.Proofs.YtlgbahkioimkfaaGreatDoor
