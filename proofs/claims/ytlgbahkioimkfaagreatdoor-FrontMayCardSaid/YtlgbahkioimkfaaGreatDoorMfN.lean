/- dustpan/dustpanlaw21.FrontMay: where no machine is made (printed by gen_may.py). -/
import Derived.Test.YtlgbahkioimkfaaGreatDoorTabM
import Derived.Test.YtlgbahkioimkfaaGreatDoorRefl20
import Derived.Test.YtlgbahkioimkfaaGreatDoorMfO
namespace Go.Proofs.YtlgbahkioimkfaaGreatDoor
open Go.RowKit
set_option linter.unusedVariables false
set_option maxRecDepth 100000
theorem key_Mf {f : FuncId} {args args' : Array Value} {w : World} {R : Ending → World → Prop} (e : args = args') (h : Calls Tryz.prog f args w R) : Calls Tryz.prog f args' w R := e ▸ h
def Mfe0 : List Ent := (eLt 3 (kf 0) (vI 1)) ++ (eLt 3 (kf 3) (vI 0))
def Mff0 : List FnEnt := []
theorem Mfn0 : isNil (evCall (ev Tryz.prog (orcL Mfe0 (fsL Mff0)) 2 600) Tryz.prog (orcL Mfe0 (fsL Mff0)) [] 31 #[vG [kf 0, kf 1], kf 2, kf 3] (baseWorld 2 [])) = true := by decide +kernel
theorem Mfr0 : isFalse (evCall (ev Tryz.prog (orcL Mfe0 (fsL Mff0)) 2 600) Tryz.prog (orcL Mfe0 (fsL Mff0)) [] 14 #[vG [vI 17, kf 0, kf 1, kf 2, vI 0, vI 0, vI 0, vI 0, vI 0, kf 3, vI 0, vU 0, vB false, vZ, vZ, vB false, vI 0, vB false, vN, vI 0, vI 0, vU 0, vU 0, vI 0, vI 0, vI 0, vI 0, vU 0, vZ, vZ, vI 0, vI 0]] (baseWorld 2 [])) = true := by decide +kernel
def Mfe1 : List Ent := (eLt 3 (kf 0) (vI 1)) ++ (eGe 3 (kf 3) (vI 0))
def Mff1 : List FnEnt := [⟨74, [kf 3], .tuple [kf 4, kf 5, vB true].toArray⟩]
theorem Mfn1 : isNil (evCall (ev Tryz.prog (orcL Mfe1 (fsL Mff1)) 2 600) Tryz.prog (orcL Mfe1 (fsL Mff1)) [] 31 #[vG [kf 0, kf 1], kf 2, kf 3] (baseWorld 2 [])) = true := by decide +kernel
theorem Mfr1 : isFalse (evCall (ev Tryz.prog (orcL Mfe1 (fsL Mff1)) 2 600) Tryz.prog (orcL Mfe1 (fsL Mff1)) [] 14 #[vG [vI 17, kf 0, kf 1, kf 2, vI 0, vI 0, vI 0, vI 0, vI 0, kf 3, vI 0, vU 0, vB false, vZ, vZ, vB false, vI 0, vB false, vN, vI 0, vI 0, vU 0, vU 0, vI 0, vI 0, vI 0, vI 0, vU 0, vZ, vZ, vI 0, vI 0]] (baseWorld 2 [])) = true := by decide +kernel
def Mfe2 : List Ent := (eGe 3 (kf 0) (vI 1)) ++ (eGt 3 (kf 0) (vI 4096)) ++ (eLt 3 (kf 3) (vI 0))
def Mff2 : List FnEnt := []
theorem Mfn2 : isNil (evCall (ev Tryz.prog (orcL Mfe2 (fsL Mff2)) 2 600) Tryz.prog (orcL Mfe2 (fsL Mff2)) [] 31 #[vG [kf 0, kf 1], kf 2, kf 3] (baseWorld 2 [])) = true := by decide +kernel
theorem Mfr2 : isFalse (evCall (ev Tryz.prog (orcL Mfe2 (fsL Mff2)) 2 600) Tryz.prog (orcL Mfe2 (fsL Mff2)) [] 14 #[vG [vI 17, kf 0, kf 1, kf 2, vI 0, vI 0, vI 0, vI 0, vI 0, kf 3, vI 0, vU 0, vB false, vZ, vZ, vB false, vI 0, vB false, vN, vI 0, vI 0, vU 0, vU 0, vI 0, vI 0, vI 0, vI 0, vU 0, vZ, vZ, vI 0, vI 0]] (baseWorld 2 [])) = true := by decide +kernel
def Mfe3 : List Ent := (eGe 3 (kf 0) (vI 1)) ++ (eGt 3 (kf 0) (vI 4096)) ++ (eGe 3 (kf 3) (vI 0))
def Mff3 : List FnEnt := [⟨74, [kf 3], .tuple [kf 4, kf 5, vB true].toArray⟩]
theorem Mfn3 : isNil (evCall (ev Tryz.prog (orcL Mfe3 (fsL Mff3)) 2 600) Tryz.prog (orcL Mfe3 (fsL Mff3)) [] 31 #[vG [kf 0, kf 1], kf 2, kf 3] (baseWorld 2 [])) = true := by decide +kernel
theorem Mfr3 : isFalse (evCall (ev Tryz.prog (orcL Mfe3 (fsL Mff3)) 2 600) Tryz.prog (orcL Mfe3 (fsL Mff3)) [] 14 #[vG [vI 17, kf 0, kf 1, kf 2, vI 0, vI 0, vI 0, vI 0, vI 0, kf 3, vI 0, vU 0, vB false, vZ, vZ, vB false, vI 0, vB false, vN, vI 0, vI 0, vU 0, vU 0, vI 0, vI 0, vI 0, vI 0, vU 0, vZ, vZ, vI 0, vI 0]] (baseWorld 2 [])) = true := by decide +kernel
def Mfe4 : List Ent := (eGe 3 (kf 0) (vI 1)) ++ (eLe 3 (kf 0) (vI 4096)) ++ (eLt 3 (kf 1) (vI 1)) ++ (eLt 3 (kf 3) (vI 0))
def Mff4 : List FnEnt := []
theorem Mfn4 : isNil (evCall (ev Tryz.prog (orcL Mfe4 (fsL Mff4)) 2 600) Tryz.prog (orcL Mfe4 (fsL Mff4)) [] 31 #[vG [kf 0, kf 1], kf 2, kf 3] (baseWorld 2 [])) = true := by decide +kernel
theorem Mfr4 : isFalse (evCall (ev Tryz.prog (orcL Mfe4 (fsL Mff4)) 2 600) Tryz.prog (orcL Mfe4 (fsL Mff4)) [] 14 #[vG [vI 17, kf 0, kf 1, kf 2, vI 0, vI 0, vI 0, vI 0, vI 0, kf 3, vI 0, vU 0, vB false, vZ, vZ, vB false, vI 0, vB false, vN, vI 0, vI 0, vU 0, vU 0, vI 0, vI 0, vI 0, vI 0, vU 0, vZ, vZ, vI 0, vI 0]] (baseWorld 2 [])) = true := by decide +kernel
def Mfe5 : List Ent := (eGe 3 (kf 0) (vI 1)) ++ (eLe 3 (kf 0) (vI 4096)) ++ (eLt 3 (kf 1) (vI 1)) ++ (eGe 3 (kf 3) (vI 0))
def Mff5 : List FnEnt := [⟨74, [kf 3], .tuple [kf 4, kf 5, vB true].toArray⟩]
theorem Mfn5 : isNil (evCall (ev Tryz.prog (orcL Mfe5 (fsL Mff5)) 2 600) Tryz.prog (orcL Mfe5 (fsL Mff5)) [] 31 #[vG [kf 0, kf 1], kf 2, kf 3] (baseWorld 2 [])) = true := by decide +kernel
theorem Mfr5 : isFalse (evCall (ev Tryz.prog (orcL Mfe5 (fsL Mff5)) 2 600) Tryz.prog (orcL Mfe5 (fsL Mff5)) [] 14 #[vG [vI 17, kf 0, kf 1, kf 2, vI 0, vI 0, vI 0, vI 0, vI 0, kf 3, vI 0, vU 0, vB false, vZ, vZ, vB false, vI 0, vB false, vN, vI 0, vI 0, vU 0, vU 0, vI 0, vI 0, vI 0, vI 0, vU 0, vZ, vZ, vI 0, vI 0]] (baseWorld 2 [])) = true := by decide +kernel
def Mfe6 : List Ent := (eGe 3 (kf 0) (vI 1)) ++ (eLe 3 (kf 0) (vI 4096)) ++ (eGe 3 (kf 1) (vI 1)) ++ (eGt 3 (kf 1) (vI 64)) ++ (eLt 3 (kf 3) (vI 0))
def Mff6 : List FnEnt := []
theorem Mfn6 : isNil (evCall (ev Tryz.prog (orcL Mfe6 (fsL Mff6)) 2 600) Tryz.prog (orcL Mfe6 (fsL Mff6)) [] 31 #[vG [kf 0, kf 1], kf 2, kf 3] (baseWorld 2 [])) = true := by decide +kernel
theorem Mfr6 : isFalse (evCall (ev Tryz.prog (orcL Mfe6 (fsL Mff6)) 2 600) Tryz.prog (orcL Mfe6 (fsL Mff6)) [] 14 #[vG [vI 17, kf 0, kf 1, kf 2, vI 0, vI 0, vI 0, vI 0, vI 0, kf 3, vI 0, vU 0, vB false, vZ, vZ, vB false, vI 0, vB false, vN, vI 0, vI 0, vU 0, vU 0, vI 0, vI 0, vI 0, vI 0, vU 0, vZ, vZ, vI 0, vI 0]] (baseWorld 2 [])) = true := by decide +kernel
def Mfe7 : List Ent := (eGe 3 (kf 0) (vI 1)) ++ (eLe 3 (kf 0) (vI 4096)) ++ (eGe 3 (kf 1) (vI 1)) ++ (eGt 3 (kf 1) (vI 64)) ++ (eGe 3 (kf 3) (vI 0))
def Mff7 : List FnEnt := [⟨74, [kf 3], .tuple [kf 4, kf 5, vB true].toArray⟩]
theorem Mfn7 : isNil (evCall (ev Tryz.prog (orcL Mfe7 (fsL Mff7)) 2 600) Tryz.prog (orcL Mfe7 (fsL Mff7)) [] 31 #[vG [kf 0, kf 1], kf 2, kf 3] (baseWorld 2 [])) = true := by decide +kernel
theorem Mfr7 : isFalse (evCall (ev Tryz.prog (orcL Mfe7 (fsL Mff7)) 2 600) Tryz.prog (orcL Mfe7 (fsL Mff7)) [] 14 #[vG [vI 17, kf 0, kf 1, kf 2, vI 0, vI 0, vI 0, vI 0, vI 0, kf 3, vI 0, vU 0, vB false, vZ, vZ, vB false, vI 0, vB false, vN, vI 0, vI 0, vU 0, vU 0, vI 0, vI 0, vI 0, vI 0, vU 0, vZ, vZ, vI 0, vI 0]] (baseWorld 2 [])) = true := by decide +kernel
def Mfe8 : List Ent := (eGe 3 (kf 0) (vI 1)) ++ (eLe 3 (kf 0) (vI 4096)) ++ (eGe 3 (kf 1) (vI 1)) ++ (eLe 3 (kf 1) (vI 64)) ++ (eLt 3 (kf 2) (vI 0)) ++ (eLt 3 (kf 3) (vI 0)) ++ (eLt 3 (vI 0) (kf 0))
def Mff8 : List FnEnt := []
theorem Mfn8 : isNil (evCall (ev Tryz.prog (orcL Mfe8 (fsL Mff8)) 2 600) Tryz.prog (orcL Mfe8 (fsL Mff8)) [] 31 #[vG [kf 0, kf 1], kf 2, kf 3] (baseWorld 2 [])) = true := by decide +kernel
theorem Mfr8 : isFalse (evCall (ev Tryz.prog (orcL Mfe8 (fsL Mff8)) 2 600) Tryz.prog (orcL Mfe8 (fsL Mff8)) [] 14 #[vG [vI 17, kf 0, kf 1, kf 2, vI 0, vI 0, vI 0, vI 0, vI 0, kf 3, vI 0, vU 0, vB false, vZ, vZ, vB false, vI 0, vB false, vN, vI 0, vI 0, vU 0, vU 0, vI 0, vI 0, vI 0, vI 0, vU 0, vZ, vZ, vI 0, vI 0]] (baseWorld 2 [])) = true := by decide +kernel
def Mfe9 : List Ent := (eGe 3 (kf 0) (vI 1)) ++ (eLe 3 (kf 0) (vI 4096)) ++ (eGe 3 (kf 1) (vI 1)) ++ (eLe 3 (kf 1) (vI 64)) ++ (eLt 3 (kf 2) (vI 0)) ++ (eGe 3 (kf 3) (vI 0)) ++ (eLt 3 (vI 0) (kf 0))
def Mff9 : List FnEnt := [⟨74, [kf 3], .tuple [kf 4, kf 5, vB true].toArray⟩]
theorem Mfn9 : isNil (evCall (ev Tryz.prog (orcL Mfe9 (fsL Mff9)) 2 600) Tryz.prog (orcL Mfe9 (fsL Mff9)) [] 31 #[vG [kf 0, kf 1], kf 2, kf 3] (baseWorld 2 [])) = true := by decide +kernel
theorem Mfr9 : isFalse (evCall (ev Tryz.prog (orcL Mfe9 (fsL Mff9)) 2 600) Tryz.prog (orcL Mfe9 (fsL Mff9)) [] 14 #[vG [vI 17, kf 0, kf 1, kf 2, vI 0, vI 0, vI 0, vI 0, vI 0, kf 3, vI 0, vU 0, vB false, vZ, vZ, vB false, vI 0, vB false, vN, vI 0, vI 0, vU 0, vU 0, vI 0, vI 0, vI 0, vI 0, vU 0, vZ, vZ, vI 0, vI 0]] (baseWorld 2 [])) = true := by decide +kernel
def Mfe10 : List Ent := (eGe 3 (kf 0) (vI 1)) ++ (eLe 3 (kf 0) (vI 4096)) ++ (eGe 3 (kf 1) (vI 1)) ++ (eLe 3 (kf 1) (vI 64)) ++ (eGe 3 (kf 2) (vI 0)) ++ (eGe 3 (kf 2) (kf 1)) ++ (eLt 3 (kf 3) (vI 0)) ++ (eLt 3 (vI 0) (kf 0))
def Mff10 : List FnEnt := []
theorem Mfn10 : isNil (evCall (ev Tryz.prog (orcL Mfe10 (fsL Mff10)) 2 600) Tryz.prog (orcL Mfe10 (fsL Mff10)) [] 31 #[vG [kf 0, kf 1], kf 2, kf 3] (baseWorld 2 [])) = true := by decide +kernel
theorem Mfr10 : isFalse (evCall (ev Tryz.prog (orcL Mfe10 (fsL Mff10)) 2 600) Tryz.prog (orcL Mfe10 (fsL Mff10)) [] 14 #[vG [vI 17, kf 0, kf 1, kf 2, vI 0, vI 0, vI 0, vI 0, vI 0, kf 3, vI 0, vU 0, vB false, vZ, vZ, vB false, vI 0, vB false, vN, vI 0, vI 0, vU 0, vU 0, vI 0, vI 0, vI 0, vI 0, vU 0, vZ, vZ, vI 0, vI 0]] (baseWorld 2 [])) = true := by decide +kernel
def Mfe11 : List Ent := (eGe 3 (kf 0) (vI 1)) ++ (eLe 3 (kf 0) (vI 4096)) ++ (eGe 3 (kf 1) (vI 1)) ++ (eLe 3 (kf 1) (vI 64)) ++ (eGe 3 (kf 2) (vI 0)) ++ (eGe 3 (kf 2) (kf 1)) ++ (eGe 3 (kf 3) (vI 0)) ++ (eLt 3 (vI 0) (kf 0))
def Mff11 : List FnEnt := [⟨74, [kf 3], .tuple [kf 4, kf 5, vB true].toArray⟩]
theorem Mfn11 : isNil (evCall (ev Tryz.prog (orcL Mfe11 (fsL Mff11)) 2 600) Tryz.prog (orcL Mfe11 (fsL Mff11)) [] 31 #[vG [kf 0, kf 1], kf 2, kf 3] (baseWorld 2 [])) = true := by decide +kernel
theorem Mfr11 : isFalse (evCall (ev Tryz.prog (orcL Mfe11 (fsL Mff11)) 2 600) Tryz.prog (orcL Mfe11 (fsL Mff11)) [] 14 #[vG [vI 17, kf 0, kf 1, kf 2, vI 0, vI 0, vI 0, vI 0, vI 0, kf 3, vI 0, vU 0, vB false, vZ, vZ, vB false, vI 0, vB false, vN, vI 0, vI 0, vU 0, vU 0, vI 0, vI 0, vI 0, vI 0, vU 0, vZ, vZ, vI 0, vI 0]] (baseWorld 2 [])) = true := by decide +kernel
def Mfe12 : List Ent := (eGe 3 (kf 0) (vI 1)) ++ (eLe 3 (kf 0) (vI 4096)) ++ (eGe 3 (kf 1) (vI 1)) ++ (eLe 3 (kf 1) (vI 64)) ++ (eGe 3 (kf 2) (vI 0)) ++ (eLt 3 (kf 2) (kf 1)) ++ (eLt 3 (kf 3) (vI 0)) ++ (eLt 3 (vI 0) (kf 0))
def Mff12 : List FnEnt := []
theorem Mfn12 : isNil (evCall (ev Tryz.prog (orcL Mfe12 (fsL Mff12)) 2 600) Tryz.prog (orcL Mfe12 (fsL Mff12)) [] 31 #[vG [kf 0, kf 1], kf 2, kf 3] (baseWorld 2 [])) = true := by decide +kernel
theorem Mfr12 : isFalse (evCall (ev Tryz.prog (orcL Mfe12 (fsL Mff12)) 2 600) Tryz.prog (orcL Mfe12 (fsL Mff12)) [] 14 #[vG [vI 17, kf 0, kf 1, kf 2, vI 0, vI 0, vI 0, vI 0, vI 0, kf 3, vI 0, vU 0, vB false, vZ, vZ, vB false, vI 0, vB false, vN, vI 0, vI 0, vU 0, vU 0, vI 0, vI 0, vI 0, vI 0, vU 0, vZ, vZ, vI 0, vI 0]] (baseWorld 2 [])) = true := by decide +kernel
def MfOK (P T t s : Int) : Prop := (1 ≤ P) ∧ (P ≤ 4096) ∧ (1 ≤ T) ∧ (T ≤ 64) ∧ (0 ≤ t) ∧ (t < T) ∧ (0 ≤ s)
theorem Mf_cases (P T t s : Int) (h : ¬ MfOK P T t s) : (¬ (1 ≤ P) ∧ ¬ (0 ≤ s)) ∨ (¬ (1 ≤ P) ∧ (0 ≤ s)) ∨ ((1 ≤ P) ∧ ¬ (P ≤ 4096) ∧ ¬ (0 ≤ s)) ∨ ((1 ≤ P) ∧ ¬ (P ≤ 4096) ∧ (0 ≤ s)) ∨ ((1 ≤ P) ∧ (P ≤ 4096) ∧ ¬ (1 ≤ T) ∧ ¬ (0 ≤ s)) ∨ ((1 ≤ P) ∧ (P ≤ 4096) ∧ ¬ (1 ≤ T) ∧ (0 ≤ s)) ∨ ((1 ≤ P) ∧ (P ≤ 4096) ∧ (1 ≤ T) ∧ ¬ (T ≤ 64) ∧ ¬ (0 ≤ s)) ∨ ((1 ≤ P) ∧ (P ≤ 4096) ∧ (1 ≤ T) ∧ ¬ (T ≤ 64) ∧ (0 ≤ s)) ∨ ((1 ≤ P) ∧ (P ≤ 4096) ∧ (1 ≤ T) ∧ (T ≤ 64) ∧ ¬ (0 ≤ t) ∧ ¬ (0 ≤ s)) ∨ ((1 ≤ P) ∧ (P ≤ 4096) ∧ (1 ≤ T) ∧ (T ≤ 64) ∧ ¬ (0 ≤ t) ∧ (0 ≤ s)) ∨ ((1 ≤ P) ∧ (P ≤ 4096) ∧ (1 ≤ T) ∧ (T ≤ 64) ∧ (0 ≤ t) ∧ ¬ (t < T) ∧ ¬ (0 ≤ s)) ∨ ((1 ≤ P) ∧ (P ≤ 4096) ∧ (1 ≤ T) ∧ (T ≤ 64) ∧ (0 ≤ t) ∧ ¬ (t < T) ∧ (0 ≤ s)) ∨ ((1 ≤ P) ∧ (P ≤ 4096) ∧ (1 ≤ T) ∧ (T ≤ 64) ∧ (0 ≤ t) ∧ (t < T) ∧ ¬ (0 ≤ s)) := by
  unfold MfOK at h
  by_cases hP_ge : 1 ≤ P
  · by_cases hP_le : P ≤ 4096
    · by_cases hT_ge : 1 ≤ T
      · by_cases hT_le : T ≤ 64
        · by_cases ht_ge : 0 ≤ t
          · by_cases ht_lt : t < T
            · by_cases hs_ge : 0 ≤ s
              · exact absurd ⟨hP_ge, hP_le, hT_ge, hT_le, ht_ge, ht_lt, hs_ge⟩ h
              · exact Or.inr (Or.inr (Or.inr (Or.inr (Or.inr (Or.inr (Or.inr (Or.inr (Or.inr (Or.inr (Or.inr (Or.inr (⟨hP_ge, hP_le, hT_ge, hT_le, ht_ge, ht_lt, hs_ge⟩))))))))))))
            · by_cases hs_ge : 0 ≤ s
              · exact Or.inr (Or.inr (Or.inr (Or.inr (Or.inr (Or.inr (Or.inr (Or.inr (Or.inr (Or.inr (Or.inr (Or.inl ⟨hP_ge, hP_le, hT_ge, hT_le, ht_ge, ht_lt, hs_ge⟩)))))))))))
              · exact Or.inr (Or.inr (Or.inr (Or.inr (Or.inr (Or.inr (Or.inr (Or.inr (Or.inr (Or.inr (Or.inl ⟨hP_ge, hP_le, hT_ge, hT_le, ht_ge, ht_lt, hs_ge⟩))))))))))
          · by_cases hs_ge : 0 ≤ s
            · exact Or.inr (Or.inr (Or.inr (Or.inr (Or.inr (Or.inr (Or.inr (Or.inr (Or.inr (Or.inl ⟨hP_ge, hP_le, hT_ge, hT_le, ht_ge, hs_ge⟩)))))))))
            · exact Or.inr (Or.inr (Or.inr (Or.inr (Or.inr (Or.inr (Or.inr (Or.inr (Or.inl ⟨hP_ge, hP_le, hT_ge, hT_le, ht_ge, hs_ge⟩))))))))
        · by_cases hs_ge : 0 ≤ s
          · exact Or.inr (Or.inr (Or.inr (Or.inr (Or.inr (Or.inr (Or.inr (Or.inl ⟨hP_ge, hP_le, hT_ge, hT_le, hs_ge⟩)))))))
          · exact Or.inr (Or.inr (Or.inr (Or.inr (Or.inr (Or.inr (Or.inl ⟨hP_ge, hP_le, hT_ge, hT_le, hs_ge⟩))))))
      · by_cases hs_ge : 0 ≤ s
        · exact Or.inr (Or.inr (Or.inr (Or.inr (Or.inr (Or.inl ⟨hP_ge, hP_le, hT_ge, hs_ge⟩)))))
        · exact Or.inr (Or.inr (Or.inr (Or.inr (Or.inl ⟨hP_ge, hP_le, hT_ge, hs_ge⟩))))
    · by_cases hs_ge : 0 ≤ s
      · exact Or.inr (Or.inr (Or.inr (Or.inl ⟨hP_ge, hP_le, hs_ge⟩)))
      · exact Or.inr (Or.inr (Or.inl ⟨hP_ge, hP_le, hs_ge⟩))
  · by_cases hs_ge : 0 ≤ s
    · exact Or.inr (Or.inl ⟨hP_ge, hs_ge⟩)
    · exact Or.inl ⟨hP_ge, hs_ge⟩
set_option maxHeartbeats 400000 in
theorem Mf_new (P T t s : Int) (w : World) (hT : TabR w tabA) (hG : 2 ≤ w.heap.size) (h : ¬ MfOK P T t s) : Calls Tryz.prog 31 #[vG [.int .i64 P, .int .i64 T], .int .i64 t, .int .i64 s] w fun e w' => e = .returned (vN) ∧ Ext w w' := by
  rcases Mf_cases P T t s h with h | h | h | h | h | h | h | h | h | h | h | h | h
  · have key := ev_tok (P := Tryz.prog) (l := [(.i64, P), (.i64, T), (.i64, t), (.i64, s)]) (es := Mfe0) (fs := Mff0) (w := w) (G := 2) (tabs := []) (n := 600) (f := 31) (args := #[vG [kf 0, kf 1], kf 2, kf 3]) (v := vN) ((AllOK.app (okLt rfl rfl (by omega)) (okLt rfl rfl (by omega)))) (fun e he => by cases he) hG (tabR_nil w) rfl (by decide +kernel) (isNil_eq Mfn0)
    have e : (List.map (tokV (sgI [(.i64, P), (.i64, T), (.i64, t), (.i64, s)]) 4) (Array.toList #[vG [kf 0, kf 1], kf 2, kf 3])).toArray = #[vG [.int .i64 P, .int .i64 T], .int .i64 t, .int .i64 s] := rfl
    rw [e] at key
    exact key
  · obtain ⟨c, q, hof⟩ := MfO_of s (by omega)
    have hF : ∀ e ∈ Mff1, FnOK Tryz.prog (sgI [(.i64, P), (.i64, T), (.i64, t), (.i64, s), (.i64, c), (.i64, q)]) w w.heap.size e := by
      intro e he
      obtain rfl : e = ⟨74, [kf 3], .tuple [kf 4, kf 5, vB true].toArray⟩ := by simpa [Mff1] using he
      exact FnOK.tok (n := 4) (vs := [kf 4, kf 5, vB true]) (vs' := [.int .i64 c, .int .i64 q, .bool true]) rfl rfl rfl fun w' hw' => key_Mf rfl (hof w' (hT.keep hw') (Nat.le_trans hG hw'.size))
    have key := ev_tok (P := Tryz.prog) (l := [(.i64, P), (.i64, T), (.i64, t), (.i64, s), (.i64, c), (.i64, q)]) (es := Mfe1) (fs := Mff1) (w := w) (G := 2) (tabs := []) (n := 600) (f := 31) (args := #[vG [kf 0, kf 1], kf 2, kf 3]) (v := vN) ((AllOK.app (okLt rfl rfl (by omega)) (okGe rfl rfl (by omega)))) hF hG (tabR_nil w) rfl (by decide +kernel) (isNil_eq Mfn1)
    have e : (List.map (tokV (sgI [(.i64, P), (.i64, T), (.i64, t), (.i64, s), (.i64, c), (.i64, q)]) 4) (Array.toList #[vG [kf 0, kf 1], kf 2, kf 3])).toArray = #[vG [.int .i64 P, .int .i64 T], .int .i64 t, .int .i64 s] := rfl
    rw [e] at key
    exact key
  · have key := ev_tok (P := Tryz.prog) (l := [(.i64, P), (.i64, T), (.i64, t), (.i64, s)]) (es := Mfe2) (fs := Mff2) (w := w) (G := 2) (tabs := []) (n := 600) (f := 31) (args := #[vG [kf 0, kf 1], kf 2, kf 3]) (v := vN) ((AllOK.app (AllOK.app (okGe rfl rfl (by omega)) (okGt rfl rfl (by omega))) (okLt rfl rfl (by omega)))) (fun e he => by cases he) hG (tabR_nil w) rfl (by decide +kernel) (isNil_eq Mfn2)
    have e : (List.map (tokV (sgI [(.i64, P), (.i64, T), (.i64, t), (.i64, s)]) 4) (Array.toList #[vG [kf 0, kf 1], kf 2, kf 3])).toArray = #[vG [.int .i64 P, .int .i64 T], .int .i64 t, .int .i64 s] := rfl
    rw [e] at key
    exact key
  · obtain ⟨c, q, hof⟩ := MfO_of s (by omega)
    have hF : ∀ e ∈ Mff3, FnOK Tryz.prog (sgI [(.i64, P), (.i64, T), (.i64, t), (.i64, s), (.i64, c), (.i64, q)]) w w.heap.size e := by
      intro e he
      obtain rfl : e = ⟨74, [kf 3], .tuple [kf 4, kf 5, vB true].toArray⟩ := by simpa [Mff3] using he
      exact FnOK.tok (n := 4) (vs := [kf 4, kf 5, vB true]) (vs' := [.int .i64 c, .int .i64 q, .bool true]) rfl rfl rfl fun w' hw' => key_Mf rfl (hof w' (hT.keep hw') (Nat.le_trans hG hw'.size))
    have key := ev_tok (P := Tryz.prog) (l := [(.i64, P), (.i64, T), (.i64, t), (.i64, s), (.i64, c), (.i64, q)]) (es := Mfe3) (fs := Mff3) (w := w) (G := 2) (tabs := []) (n := 600) (f := 31) (args := #[vG [kf 0, kf 1], kf 2, kf 3]) (v := vN) ((AllOK.app (AllOK.app (okGe rfl rfl (by omega)) (okGt rfl rfl (by omega))) (okGe rfl rfl (by omega)))) hF hG (tabR_nil w) rfl (by decide +kernel) (isNil_eq Mfn3)
    have e : (List.map (tokV (sgI [(.i64, P), (.i64, T), (.i64, t), (.i64, s), (.i64, c), (.i64, q)]) 4) (Array.toList #[vG [kf 0, kf 1], kf 2, kf 3])).toArray = #[vG [.int .i64 P, .int .i64 T], .int .i64 t, .int .i64 s] := rfl
    rw [e] at key
    exact key
  · have key := ev_tok (P := Tryz.prog) (l := [(.i64, P), (.i64, T), (.i64, t), (.i64, s)]) (es := Mfe4) (fs := Mff4) (w := w) (G := 2) (tabs := []) (n := 600) (f := 31) (args := #[vG [kf 0, kf 1], kf 2, kf 3]) (v := vN) ((AllOK.app (AllOK.app (AllOK.app (okGe rfl rfl (by omega)) (okLe rfl rfl (by omega))) (okLt rfl rfl (by omega))) (okLt rfl rfl (by omega)))) (fun e he => by cases he) hG (tabR_nil w) rfl (by decide +kernel) (isNil_eq Mfn4)
    have e : (List.map (tokV (sgI [(.i64, P), (.i64, T), (.i64, t), (.i64, s)]) 4) (Array.toList #[vG [kf 0, kf 1], kf 2, kf 3])).toArray = #[vG [.int .i64 P, .int .i64 T], .int .i64 t, .int .i64 s] := rfl
    rw [e] at key
    exact key
  · obtain ⟨c, q, hof⟩ := MfO_of s (by omega)
    have hF : ∀ e ∈ Mff5, FnOK Tryz.prog (sgI [(.i64, P), (.i64, T), (.i64, t), (.i64, s), (.i64, c), (.i64, q)]) w w.heap.size e := by
      intro e he
      obtain rfl : e = ⟨74, [kf 3], .tuple [kf 4, kf 5, vB true].toArray⟩ := by simpa [Mff5] using he
      exact FnOK.tok (n := 4) (vs := [kf 4, kf 5, vB true]) (vs' := [.int .i64 c, .int .i64 q, .bool true]) rfl rfl rfl fun w' hw' => key_Mf rfl (hof w' (hT.keep hw') (Nat.le_trans hG hw'.size))
    have key := ev_tok (P := Tryz.prog) (l := [(.i64, P), (.i64, T), (.i64, t), (.i64, s), (.i64, c), (.i64, q)]) (es := Mfe5) (fs := Mff5) (w := w) (G := 2) (tabs := []) (n := 600) (f := 31) (args := #[vG [kf 0, kf 1], kf 2, kf 3]) (v := vN) ((AllOK.app (AllOK.app (AllOK.app (okGe rfl rfl (by omega)) (okLe rfl rfl (by omega))) (okLt rfl rfl (by omega))) (okGe rfl rfl (by omega)))) hF hG (tabR_nil w) rfl (by decide +kernel) (isNil_eq Mfn5)
    have e : (List.map (tokV (sgI [(.i64, P), (.i64, T), (.i64, t), (.i64, s), (.i64, c), (.i64, q)]) 4) (Array.toList #[vG [kf 0, kf 1], kf 2, kf 3])).toArray = #[vG [.int .i64 P, .int .i64 T], .int .i64 t, .int .i64 s] := rfl
    rw [e] at key
    exact key
  · have key := ev_tok (P := Tryz.prog) (l := [(.i64, P), (.i64, T), (.i64, t), (.i64, s)]) (es := Mfe6) (fs := Mff6) (w := w) (G := 2) (tabs := []) (n := 600) (f := 31) (args := #[vG [kf 0, kf 1], kf 2, kf 3]) (v := vN) ((AllOK.app (AllOK.app (AllOK.app (AllOK.app (okGe rfl rfl (by omega)) (okLe rfl rfl (by omega))) (okGe rfl rfl (by omega))) (okGt rfl rfl (by omega))) (okLt rfl rfl (by omega)))) (fun e he => by cases he) hG (tabR_nil w) rfl (by decide +kernel) (isNil_eq Mfn6)
    have e : (List.map (tokV (sgI [(.i64, P), (.i64, T), (.i64, t), (.i64, s)]) 4) (Array.toList #[vG [kf 0, kf 1], kf 2, kf 3])).toArray = #[vG [.int .i64 P, .int .i64 T], .int .i64 t, .int .i64 s] := rfl
    rw [e] at key
    exact key
  · obtain ⟨c, q, hof⟩ := MfO_of s (by omega)
    have hF : ∀ e ∈ Mff7, FnOK Tryz.prog (sgI [(.i64, P), (.i64, T), (.i64, t), (.i64, s), (.i64, c), (.i64, q)]) w w.heap.size e := by
      intro e he
      obtain rfl : e = ⟨74, [kf 3], .tuple [kf 4, kf 5, vB true].toArray⟩ := by simpa [Mff7] using he
      exact FnOK.tok (n := 4) (vs := [kf 4, kf 5, vB true]) (vs' := [.int .i64 c, .int .i64 q, .bool true]) rfl rfl rfl fun w' hw' => key_Mf rfl (hof w' (hT.keep hw') (Nat.le_trans hG hw'.size))
    have key := ev_tok (P := Tryz.prog) (l := [(.i64, P), (.i64, T), (.i64, t), (.i64, s), (.i64, c), (.i64, q)]) (es := Mfe7) (fs := Mff7) (w := w) (G := 2) (tabs := []) (n := 600) (f := 31) (args := #[vG [kf 0, kf 1], kf 2, kf 3]) (v := vN) ((AllOK.app (AllOK.app (AllOK.app (AllOK.app (okGe rfl rfl (by omega)) (okLe rfl rfl (by omega))) (okGe rfl rfl (by omega))) (okGt rfl rfl (by omega))) (okGe rfl rfl (by omega)))) hF hG (tabR_nil w) rfl (by decide +kernel) (isNil_eq Mfn7)
    have e : (List.map (tokV (sgI [(.i64, P), (.i64, T), (.i64, t), (.i64, s), (.i64, c), (.i64, q)]) 4) (Array.toList #[vG [kf 0, kf 1], kf 2, kf 3])).toArray = #[vG [.int .i64 P, .int .i64 T], .int .i64 t, .int .i64 s] := rfl
    rw [e] at key
    exact key
  · have key := ev_tok (P := Tryz.prog) (l := [(.i64, P), (.i64, T), (.i64, t), (.i64, s)]) (es := Mfe8) (fs := Mff8) (w := w) (G := 2) (tabs := []) (n := 600) (f := 31) (args := #[vG [kf 0, kf 1], kf 2, kf 3]) (v := vN) ((AllOK.app (AllOK.app (AllOK.app (AllOK.app (AllOK.app (AllOK.app (okGe rfl rfl (by omega)) (okLe rfl rfl (by omega))) (okGe rfl rfl (by omega))) (okLe rfl rfl (by omega))) (okLt rfl rfl (by omega))) (okLt rfl rfl (by omega))) (okLt rfl rfl (by omega)))) (fun e he => by cases he) hG (tabR_nil w) rfl (by decide +kernel) (isNil_eq Mfn8)
    have e : (List.map (tokV (sgI [(.i64, P), (.i64, T), (.i64, t), (.i64, s)]) 4) (Array.toList #[vG [kf 0, kf 1], kf 2, kf 3])).toArray = #[vG [.int .i64 P, .int .i64 T], .int .i64 t, .int .i64 s] := rfl
    rw [e] at key
    exact key
  · obtain ⟨c, q, hof⟩ := MfO_of s (by omega)
    have hF : ∀ e ∈ Mff9, FnOK Tryz.prog (sgI [(.i64, P), (.i64, T), (.i64, t), (.i64, s), (.i64, c), (.i64, q)]) w w.heap.size e := by
      intro e he
      obtain rfl : e = ⟨74, [kf 3], .tuple [kf 4, kf 5, vB true].toArray⟩ := by simpa [Mff9] using he
      exact FnOK.tok (n := 4) (vs := [kf 4, kf 5, vB true]) (vs' := [.int .i64 c, .int .i64 q, .bool true]) rfl rfl rfl fun w' hw' => key_Mf rfl (hof w' (hT.keep hw') (Nat.le_trans hG hw'.size))
    have key := ev_tok (P := Tryz.prog) (l := [(.i64, P), (.i64, T), (.i64, t), (.i64, s), (.i64, c), (.i64, q)]) (es := Mfe9) (fs := Mff9) (w := w) (G := 2) (tabs := []) (n := 600) (f := 31) (args := #[vG [kf 0, kf 1], kf 2, kf 3]) (v := vN) ((AllOK.app (AllOK.app (AllOK.app (AllOK.app (AllOK.app (AllOK.app (okGe rfl rfl (by omega)) (okLe rfl rfl (by omega))) (okGe rfl rfl (by omega))) (okLe rfl rfl (by omega))) (okLt rfl rfl (by omega))) (okGe rfl rfl (by omega))) (okLt rfl rfl (by omega)))) hF hG (tabR_nil w) rfl (by decide +kernel) (isNil_eq Mfn9)
    have e : (List.map (tokV (sgI [(.i64, P), (.i64, T), (.i64, t), (.i64, s), (.i64, c), (.i64, q)]) 4) (Array.toList #[vG [kf 0, kf 1], kf 2, kf 3])).toArray = #[vG [.int .i64 P, .int .i64 T], .int .i64 t, .int .i64 s] := rfl
    rw [e] at key
    exact key
  · have key := ev_tok (P := Tryz.prog) (l := [(.i64, P), (.i64, T), (.i64, t), (.i64, s)]) (es := Mfe10) (fs := Mff10) (w := w) (G := 2) (tabs := []) (n := 600) (f := 31) (args := #[vG [kf 0, kf 1], kf 2, kf 3]) (v := vN) ((AllOK.app (AllOK.app (AllOK.app (AllOK.app (AllOK.app (AllOK.app (AllOK.app (okGe rfl rfl (by omega)) (okLe rfl rfl (by omega))) (okGe rfl rfl (by omega))) (okLe rfl rfl (by omega))) (okGe rfl rfl (by omega))) (okGe rfl rfl (by omega))) (okLt rfl rfl (by omega))) (okLt rfl rfl (by omega)))) (fun e he => by cases he) hG (tabR_nil w) rfl (by decide +kernel) (isNil_eq Mfn10)
    have e : (List.map (tokV (sgI [(.i64, P), (.i64, T), (.i64, t), (.i64, s)]) 4) (Array.toList #[vG [kf 0, kf 1], kf 2, kf 3])).toArray = #[vG [.int .i64 P, .int .i64 T], .int .i64 t, .int .i64 s] := rfl
    rw [e] at key
    exact key
  · obtain ⟨c, q, hof⟩ := MfO_of s (by omega)
    have hF : ∀ e ∈ Mff11, FnOK Tryz.prog (sgI [(.i64, P), (.i64, T), (.i64, t), (.i64, s), (.i64, c), (.i64, q)]) w w.heap.size e := by
      intro e he
      obtain rfl : e = ⟨74, [kf 3], .tuple [kf 4, kf 5, vB true].toArray⟩ := by simpa [Mff11] using he
      exact FnOK.tok (n := 4) (vs := [kf 4, kf 5, vB true]) (vs' := [.int .i64 c, .int .i64 q, .bool true]) rfl rfl rfl fun w' hw' => key_Mf rfl (hof w' (hT.keep hw') (Nat.le_trans hG hw'.size))
    have key := ev_tok (P := Tryz.prog) (l := [(.i64, P), (.i64, T), (.i64, t), (.i64, s), (.i64, c), (.i64, q)]) (es := Mfe11) (fs := Mff11) (w := w) (G := 2) (tabs := []) (n := 600) (f := 31) (args := #[vG [kf 0, kf 1], kf 2, kf 3]) (v := vN) ((AllOK.app (AllOK.app (AllOK.app (AllOK.app (AllOK.app (AllOK.app (AllOK.app (okGe rfl rfl (by omega)) (okLe rfl rfl (by omega))) (okGe rfl rfl (by omega))) (okLe rfl rfl (by omega))) (okGe rfl rfl (by omega))) (okGe rfl rfl (by omega))) (okGe rfl rfl (by omega))) (okLt rfl rfl (by omega)))) hF hG (tabR_nil w) rfl (by decide +kernel) (isNil_eq Mfn11)
    have e : (List.map (tokV (sgI [(.i64, P), (.i64, T), (.i64, t), (.i64, s), (.i64, c), (.i64, q)]) 4) (Array.toList #[vG [kf 0, kf 1], kf 2, kf 3])).toArray = #[vG [.int .i64 P, .int .i64 T], .int .i64 t, .int .i64 s] := rfl
    rw [e] at key
    exact key
  · have key := ev_tok (P := Tryz.prog) (l := [(.i64, P), (.i64, T), (.i64, t), (.i64, s)]) (es := Mfe12) (fs := Mff12) (w := w) (G := 2) (tabs := []) (n := 600) (f := 31) (args := #[vG [kf 0, kf 1], kf 2, kf 3]) (v := vN) ((AllOK.app (AllOK.app (AllOK.app (AllOK.app (AllOK.app (AllOK.app (AllOK.app (okGe rfl rfl (by omega)) (okLe rfl rfl (by omega))) (okGe rfl rfl (by omega))) (okLe rfl rfl (by omega))) (okGe rfl rfl (by omega))) (okLt rfl rfl (by omega))) (okLt rfl rfl (by omega))) (okLt rfl rfl (by omega)))) (fun e he => by cases he) hG (tabR_nil w) rfl (by decide +kernel) (isNil_eq Mfn12)
    have e : (List.map (tokV (sgI [(.i64, P), (.i64, T), (.i64, t), (.i64, s)]) 4) (Array.toList #[vG [kf 0, kf 1], kf 2, kf 3])).toArray = #[vG [.int .i64 P, .int .i64 T], .int .i64 t, .int .i64 s] := rfl
    rw [e] at key
    exact key
set_option maxHeartbeats 400000 in
theorem Mf_right (P T t s : Int) (w : World) (hT : TabR w tabA) (hG : 2 ≤ w.heap.size) (h : ¬ MfOK P T t s) : Calls Tryz.prog 14 #[vG [vI 17, .int .i64 P, .int .i64 T, .int .i64 t, vI 0, vI 0, vI 0, vI 0, vI 0, .int .i64 s, vI 0, vU 0, vB false, vZ, vZ, vB false, vI 0, vB false, vN, vI 0, vI 0, vU 0, vU 0, vI 0, vI 0, vI 0, vI 0, vU 0, vZ, vZ, vI 0, vI 0]] w fun e w' => e = .returned (vB false) ∧ Ext w w' := by
  rcases Mf_cases P T t s h with h | h | h | h | h | h | h | h | h | h | h | h | h
  · have key := ev_tok (P := Tryz.prog) (l := [(.i64, P), (.i64, T), (.i64, t), (.i64, s)]) (es := Mfe0) (fs := Mff0) (w := w) (G := 2) (tabs := []) (n := 600) (f := 14) (args := #[vG [vI 17, kf 0, kf 1, kf 2, vI 0, vI 0, vI 0, vI 0, vI 0, kf 3, vI 0, vU 0, vB false, vZ, vZ, vB false, vI 0, vB false, vN, vI 0, vI 0, vU 0, vU 0, vI 0, vI 0, vI 0, vI 0, vU 0, vZ, vZ, vI 0, vI 0]]) (v := vB false) ((AllOK.app (okLt rfl rfl (by omega)) (okLt rfl rfl (by omega)))) (fun e he => by cases he) hG (tabR_nil w) rfl (by decide +kernel) (isFalse_eq Mfr0)
    have e : (List.map (tokV (sgI [(.i64, P), (.i64, T), (.i64, t), (.i64, s)]) 4) (Array.toList #[vG [vI 17, kf 0, kf 1, kf 2, vI 0, vI 0, vI 0, vI 0, vI 0, kf 3, vI 0, vU 0, vB false, vZ, vZ, vB false, vI 0, vB false, vN, vI 0, vI 0, vU 0, vU 0, vI 0, vI 0, vI 0, vI 0, vU 0, vZ, vZ, vI 0, vI 0]])).toArray = #[vG [vI 17, .int .i64 P, .int .i64 T, .int .i64 t, vI 0, vI 0, vI 0, vI 0, vI 0, .int .i64 s, vI 0, vU 0, vB false, vZ, vZ, vB false, vI 0, vB false, vN, vI 0, vI 0, vU 0, vU 0, vI 0, vI 0, vI 0, vI 0, vU 0, vZ, vZ, vI 0, vI 0]] := rfl
    rw [e] at key
    exact key
  · obtain ⟨c, q, hof⟩ := MfO_of s (by omega)
    have hF : ∀ e ∈ Mff1, FnOK Tryz.prog (sgI [(.i64, P), (.i64, T), (.i64, t), (.i64, s), (.i64, c), (.i64, q)]) w w.heap.size e := by
      intro e he
      obtain rfl : e = ⟨74, [kf 3], .tuple [kf 4, kf 5, vB true].toArray⟩ := by simpa [Mff1] using he
      exact FnOK.tok (n := 4) (vs := [kf 4, kf 5, vB true]) (vs' := [.int .i64 c, .int .i64 q, .bool true]) rfl rfl rfl fun w' hw' => key_Mf rfl (hof w' (hT.keep hw') (Nat.le_trans hG hw'.size))
    have key := ev_tok (P := Tryz.prog) (l := [(.i64, P), (.i64, T), (.i64, t), (.i64, s), (.i64, c), (.i64, q)]) (es := Mfe1) (fs := Mff1) (w := w) (G := 2) (tabs := []) (n := 600) (f := 14) (args := #[vG [vI 17, kf 0, kf 1, kf 2, vI 0, vI 0, vI 0, vI 0, vI 0, kf 3, vI 0, vU 0, vB false, vZ, vZ, vB false, vI 0, vB false, vN, vI 0, vI 0, vU 0, vU 0, vI 0, vI 0, vI 0, vI 0, vU 0, vZ, vZ, vI 0, vI 0]]) (v := vB false) ((AllOK.app (okLt rfl rfl (by omega)) (okGe rfl rfl (by omega)))) hF hG (tabR_nil w) rfl (by decide +kernel) (isFalse_eq Mfr1)
    have e : (List.map (tokV (sgI [(.i64, P), (.i64, T), (.i64, t), (.i64, s), (.i64, c), (.i64, q)]) 4) (Array.toList #[vG [vI 17, kf 0, kf 1, kf 2, vI 0, vI 0, vI 0, vI 0, vI 0, kf 3, vI 0, vU 0, vB false, vZ, vZ, vB false, vI 0, vB false, vN, vI 0, vI 0, vU 0, vU 0, vI 0, vI 0, vI 0, vI 0, vU 0, vZ, vZ, vI 0, vI 0]])).toArray = #[vG [vI 17, .int .i64 P, .int .i64 T, .int .i64 t, vI 0, vI 0, vI 0, vI 0, vI 0, .int .i64 s, vI 0, vU 0, vB false, vZ, vZ, vB false, vI 0, vB false, vN, vI 0, vI 0, vU 0, vU 0, vI 0, vI 0, vI 0, vI 0, vU 0, vZ, vZ, vI 0, vI 0]] := rfl
    rw [e] at key
    exact key
  · have key := ev_tok (P := Tryz.prog) (l := [(.i64, P), (.i64, T), (.i64, t), (.i64, s)]) (es := Mfe2) (fs := Mff2) (w := w) (G := 2) (tabs := []) (n := 600) (f := 14) (args := #[vG [vI 17, kf 0, kf 1, kf 2, vI 0, vI 0, vI 0, vI 0, vI 0, kf 3, vI 0, vU 0, vB false, vZ, vZ, vB false, vI 0, vB false, vN, vI 0, vI 0, vU 0, vU 0, vI 0, vI 0, vI 0, vI 0, vU 0, vZ, vZ, vI 0, vI 0]]) (v := vB false) ((AllOK.app (AllOK.app (okGe rfl rfl (by omega)) (okGt rfl rfl (by omega))) (okLt rfl rfl (by omega)))) (fun e he => by cases he) hG (tabR_nil w) rfl (by decide +kernel) (isFalse_eq Mfr2)
    have e : (List.map (tokV (sgI [(.i64, P), (.i64, T), (.i64, t), (.i64, s)]) 4) (Array.toList #[vG [vI 17, kf 0, kf 1, kf 2, vI 0, vI 0, vI 0, vI 0, vI 0, kf 3, vI 0, vU 0, vB false, vZ, vZ, vB false, vI 0, vB false, vN, vI 0, vI 0, vU 0, vU 0, vI 0, vI 0, vI 0, vI 0, vU 0, vZ, vZ, vI 0, vI 0]])).toArray = #[vG [vI 17, .int .i64 P, .int .i64 T, .int .i64 t, vI 0, vI 0, vI 0, vI 0, vI 0, .int .i64 s, vI 0, vU 0, vB false, vZ, vZ, vB false, vI 0, vB false, vN, vI 0, vI 0, vU 0, vU 0, vI 0, vI 0, vI 0, vI 0, vU 0, vZ, vZ, vI 0, vI 0]] := rfl
    rw [e] at key
    exact key
  · obtain ⟨c, q, hof⟩ := MfO_of s (by omega)
    have hF : ∀ e ∈ Mff3, FnOK Tryz.prog (sgI [(.i64, P), (.i64, T), (.i64, t), (.i64, s), (.i64, c), (.i64, q)]) w w.heap.size e := by
      intro e he
      obtain rfl : e = ⟨74, [kf 3], .tuple [kf 4, kf 5, vB true].toArray⟩ := by simpa [Mff3] using he
      exact FnOK.tok (n := 4) (vs := [kf 4, kf 5, vB true]) (vs' := [.int .i64 c, .int .i64 q, .bool true]) rfl rfl rfl fun w' hw' => key_Mf rfl (hof w' (hT.keep hw') (Nat.le_trans hG hw'.size))
    have key := ev_tok (P := Tryz.prog) (l := [(.i64, P), (.i64, T), (.i64, t), (.i64, s), (.i64, c), (.i64, q)]) (es := Mfe3) (fs := Mff3) (w := w) (G := 2) (tabs := []) (n := 600) (f := 14) (args := #[vG [vI 17, kf 0, kf 1, kf 2, vI 0, vI 0, vI 0, vI 0, vI 0, kf 3, vI 0, vU 0, vB false, vZ, vZ, vB false, vI 0, vB false, vN, vI 0, vI 0, vU 0, vU 0, vI 0, vI 0, vI 0, vI 0, vU 0, vZ, vZ, vI 0, vI 0]]) (v := vB false) ((AllOK.app (AllOK.app (okGe rfl rfl (by omega)) (okGt rfl rfl (by omega))) (okGe rfl rfl (by omega)))) hF hG (tabR_nil w) rfl (by decide +kernel) (isFalse_eq Mfr3)
    have e : (List.map (tokV (sgI [(.i64, P), (.i64, T), (.i64, t), (.i64, s), (.i64, c), (.i64, q)]) 4) (Array.toList #[vG [vI 17, kf 0, kf 1, kf 2, vI 0, vI 0, vI 0, vI 0, vI 0, kf 3, vI 0, vU 0, vB false, vZ, vZ, vB false, vI 0, vB false, vN, vI 0, vI 0, vU 0, vU 0, vI 0, vI 0, vI 0, vI 0, vU 0, vZ, vZ, vI 0, vI 0]])).toArray = #[vG [vI 17, .int .i64 P, .int .i64 T, .int .i64 t, vI 0, vI 0, vI 0, vI 0, vI 0, .int .i64 s, vI 0, vU 0, vB false, vZ, vZ, vB false, vI 0, vB false, vN, vI 0, vI 0, vU 0, vU 0, vI 0, vI 0, vI 0, vI 0, vU 0, vZ, vZ, vI 0, vI 0]] := rfl
    rw [e] at key
    exact key
  · have key := ev_tok (P := Tryz.prog) (l := [(.i64, P), (.i64, T), (.i64, t), (.i64, s)]) (es := Mfe4) (fs := Mff4) (w := w) (G := 2) (tabs := []) (n := 600) (f := 14) (args := #[vG [vI 17, kf 0, kf 1, kf 2, vI 0, vI 0, vI 0, vI 0, vI 0, kf 3, vI 0, vU 0, vB false, vZ, vZ, vB false, vI 0, vB false, vN, vI 0, vI 0, vU 0, vU 0, vI 0, vI 0, vI 0, vI 0, vU 0, vZ, vZ, vI 0, vI 0]]) (v := vB false) ((AllOK.app (AllOK.app (AllOK.app (okGe rfl rfl (by omega)) (okLe rfl rfl (by omega))) (okLt rfl rfl (by omega))) (okLt rfl rfl (by omega)))) (fun e he => by cases he) hG (tabR_nil w) rfl (by decide +kernel) (isFalse_eq Mfr4)
    have e : (List.map (tokV (sgI [(.i64, P), (.i64, T), (.i64, t), (.i64, s)]) 4) (Array.toList #[vG [vI 17, kf 0, kf 1, kf 2, vI 0, vI 0, vI 0, vI 0, vI 0, kf 3, vI 0, vU 0, vB false, vZ, vZ, vB false, vI 0, vB false, vN, vI 0, vI 0, vU 0, vU 0, vI 0, vI 0, vI 0, vI 0, vU 0, vZ, vZ, vI 0, vI 0]])).toArray = #[vG [vI 17, .int .i64 P, .int .i64 T, .int .i64 t, vI 0, vI 0, vI 0, vI 0, vI 0, .int .i64 s, vI 0, vU 0, vB false, vZ, vZ, vB false, vI 0, vB false, vN, vI 0, vI 0, vU 0, vU 0, vI 0, vI 0, vI 0, vI 0, vU 0, vZ, vZ, vI 0, vI 0]] := rfl
    rw [e] at key
    exact key
  · obtain ⟨c, q, hof⟩ := MfO_of s (by omega)
    have hF : ∀ e ∈ Mff5, FnOK Tryz.prog (sgI [(.i64, P), (.i64, T), (.i64, t), (.i64, s), (.i64, c), (.i64, q)]) w w.heap.size e := by
      intro e he
      obtain rfl : e = ⟨74, [kf 3], .tuple [kf 4, kf 5, vB true].toArray⟩ := by simpa [Mff5] using he
      exact FnOK.tok (n := 4) (vs := [kf 4, kf 5, vB true]) (vs' := [.int .i64 c, .int .i64 q, .bool true]) rfl rfl rfl fun w' hw' => key_Mf rfl (hof w' (hT.keep hw') (Nat.le_trans hG hw'.size))
    have key := ev_tok (P := Tryz.prog) (l := [(.i64, P), (.i64, T), (.i64, t), (.i64, s), (.i64, c), (.i64, q)]) (es := Mfe5) (fs := Mff5) (w := w) (G := 2) (tabs := []) (n := 600) (f := 14) (args := #[vG [vI 17, kf 0, kf 1, kf 2, vI 0, vI 0, vI 0, vI 0, vI 0, kf 3, vI 0, vU 0, vB false, vZ, vZ, vB false, vI 0, vB false, vN, vI 0, vI 0, vU 0, vU 0, vI 0, vI 0, vI 0, vI 0, vU 0, vZ, vZ, vI 0, vI 0]]) (v := vB false) ((AllOK.app (AllOK.app (AllOK.app (okGe rfl rfl (by omega)) (okLe rfl rfl (by omega))) (okLt rfl rfl (by omega))) (okGe rfl rfl (by omega)))) hF hG (tabR_nil w) rfl (by decide +kernel) (isFalse_eq Mfr5)
    have e : (List.map (tokV (sgI [(.i64, P), (.i64, T), (.i64, t), (.i64, s), (.i64, c), (.i64, q)]) 4) (Array.toList #[vG [vI 17, kf 0, kf 1, kf 2, vI 0, vI 0, vI 0, vI 0, vI 0, kf 3, vI 0, vU 0, vB false, vZ, vZ, vB false, vI 0, vB false, vN, vI 0, vI 0, vU 0, vU 0, vI 0, vI 0, vI 0, vI 0, vU 0, vZ, vZ, vI 0, vI 0]])).toArray = #[vG [vI 17, .int .i64 P, .int .i64 T, .int .i64 t, vI 0, vI 0, vI 0, vI 0, vI 0, .int .i64 s, vI 0, vU 0, vB false, vZ, vZ, vB false, vI 0, vB false, vN, vI 0, vI 0, vU 0, vU 0, vI 0, vI 0, vI 0, vI 0, vU 0, vZ, vZ, vI 0, vI 0]] := rfl
    rw [e] at key
    exact key
  · have key := ev_tok (P := Tryz.prog) (l := [(.i64, P), (.i64, T), (.i64, t), (.i64, s)]) (es := Mfe6) (fs := Mff6) (w := w) (G := 2) (tabs := []) (n := 600) (f := 14) (args := #[vG [vI 17, kf 0, kf 1, kf 2, vI 0, vI 0, vI 0, vI 0, vI 0, kf 3, vI 0, vU 0, vB false, vZ, vZ, vB false, vI 0, vB false, vN, vI 0, vI 0, vU 0, vU 0, vI 0, vI 0, vI 0, vI 0, vU 0, vZ, vZ, vI 0, vI 0]]) (v := vB false) ((AllOK.app (AllOK.app (AllOK.app (AllOK.app (okGe rfl rfl (by omega)) (okLe rfl rfl (by omega))) (okGe rfl rfl (by omega))) (okGt rfl rfl (by omega))) (okLt rfl rfl (by omega)))) (fun e he => by cases he) hG (tabR_nil w) rfl (by decide +kernel) (isFalse_eq Mfr6)
    have e : (List.map (tokV (sgI [(.i64, P), (.i64, T), (.i64, t), (.i64, s)]) 4) (Array.toList #[vG [vI 17, kf 0, kf 1, kf 2, vI 0, vI 0, vI 0, vI 0, vI 0, kf 3, vI 0, vU 0, vB false, vZ, vZ, vB false, vI 0, vB false, vN, vI 0, vI 0, vU 0, vU 0, vI 0, vI 0, vI 0, vI 0, vU 0, vZ, vZ, vI 0, vI 0]])).toArray = #[vG [vI 17, .int .i64 P, .int .i64 T, .int .i64 t, vI 0, vI 0, vI 0, vI 0, vI 0, .int .i64 s, vI 0, vU 0, vB false, vZ, vZ, vB false, vI 0, vB false, vN, vI 0, vI 0, vU 0, vU 0, vI 0, vI 0, vI 0, vI 0, vU 0, vZ, vZ, vI 0, vI 0]] := rfl
    rw [e] at key
    exact key
  · obtain ⟨c, q, hof⟩ := MfO_of s (by omega)
    have hF : ∀ e ∈ Mff7, FnOK Tryz.prog (sgI [(.i64, P), (.i64, T), (.i64, t), (.i64, s), (.i64, c), (.i64, q)]) w w.heap.size e := by
      intro e he
      obtain rfl : e = ⟨74, [kf 3], .tuple [kf 4, kf 5, vB true].toArray⟩ := by simpa [Mff7] using he
      exact FnOK.tok (n := 4) (vs := [kf 4, kf 5, vB true]) (vs' := [.int .i64 c, .int .i64 q, .bool true]) rfl rfl rfl fun w' hw' => key_Mf rfl (hof w' (hT.keep hw') (Nat.le_trans hG hw'.size))
    have key := ev_tok (P := Tryz.prog) (l := [(.i64, P), (.i64, T), (.i64, t), (.i64, s), (.i64, c), (.i64, q)]) (es := Mfe7) (fs := Mff7) (w := w) (G := 2) (tabs := []) (n := 600) (f := 14) (args := #[vG [vI 17, kf 0, kf 1, kf 2, vI 0, vI 0, vI 0, vI 0, vI 0, kf 3, vI 0, vU 0, vB false, vZ, vZ, vB false, vI 0, vB false, vN, vI 0, vI 0, vU 0, vU 0, vI 0, vI 0, vI 0, vI 0, vU 0, vZ, vZ, vI 0, vI 0]]) (v := vB false) ((AllOK.app (AllOK.app (AllOK.app (AllOK.app (okGe rfl rfl (by omega)) (okLe rfl rfl (by omega))) (okGe rfl rfl (by omega))) (okGt rfl rfl (by omega))) (okGe rfl rfl (by omega)))) hF hG (tabR_nil w) rfl (by decide +kernel) (isFalse_eq Mfr7)
    have e : (List.map (tokV (sgI [(.i64, P), (.i64, T), (.i64, t), (.i64, s), (.i64, c), (.i64, q)]) 4) (Array.toList #[vG [vI 17, kf 0, kf 1, kf 2, vI 0, vI 0, vI 0, vI 0, vI 0, kf 3, vI 0, vU 0, vB false, vZ, vZ, vB false, vI 0, vB false, vN, vI 0, vI 0, vU 0, vU 0, vI 0, vI 0, vI 0, vI 0, vU 0, vZ, vZ, vI 0, vI 0]])).toArray = #[vG [vI 17, .int .i64 P, .int .i64 T, .int .i64 t, vI 0, vI 0, vI 0, vI 0, vI 0, .int .i64 s, vI 0, vU 0, vB false, vZ, vZ, vB false, vI 0, vB false, vN, vI 0, vI 0, vU 0, vU 0, vI 0, vI 0, vI 0, vI 0, vU 0, vZ, vZ, vI 0, vI 0]] := rfl
    rw [e] at key
    exact key
  · have key := ev_tok (P := Tryz.prog) (l := [(.i64, P), (.i64, T), (.i64, t), (.i64, s)]) (es := Mfe8) (fs := Mff8) (w := w) (G := 2) (tabs := []) (n := 600) (f := 14) (args := #[vG [vI 17, kf 0, kf 1, kf 2, vI 0, vI 0, vI 0, vI 0, vI 0, kf 3, vI 0, vU 0, vB false, vZ, vZ, vB false, vI 0, vB false, vN, vI 0, vI 0, vU 0, vU 0, vI 0, vI 0, vI 0, vI 0, vU 0, vZ, vZ, vI 0, vI 0]]) (v := vB false) ((AllOK.app (AllOK.app (AllOK.app (AllOK.app (AllOK.app (AllOK.app (okGe rfl rfl (by omega)) (okLe rfl rfl (by omega))) (okGe rfl rfl (by omega))) (okLe rfl rfl (by omega))) (okLt rfl rfl (by omega))) (okLt rfl rfl (by omega))) (okLt rfl rfl (by omega)))) (fun e he => by cases he) hG (tabR_nil w) rfl (by decide +kernel) (isFalse_eq Mfr8)
    have e : (List.map (tokV (sgI [(.i64, P), (.i64, T), (.i64, t), (.i64, s)]) 4) (Array.toList #[vG [vI 17, kf 0, kf 1, kf 2, vI 0, vI 0, vI 0, vI 0, vI 0, kf 3, vI 0, vU 0, vB false, vZ, vZ, vB false, vI 0, vB false, vN, vI 0, vI 0, vU 0, vU 0, vI 0, vI 0, vI 0, vI 0, vU 0, vZ, vZ, vI 0, vI 0]])).toArray = #[vG [vI 17, .int .i64 P, .int .i64 T, .int .i64 t, vI 0, vI 0, vI 0, vI 0, vI 0, .int .i64 s, vI 0, vU 0, vB false, vZ, vZ, vB false, vI 0, vB false, vN, vI 0, vI 0, vU 0, vU 0, vI 0, vI 0, vI 0, vI 0, vU 0, vZ, vZ, vI 0, vI 0]] := rfl
    rw [e] at key
    exact key
  · obtain ⟨c, q, hof⟩ := MfO_of s (by omega)
    have hF : ∀ e ∈ Mff9, FnOK Tryz.prog (sgI [(.i64, P), (.i64, T), (.i64, t), (.i64, s), (.i64, c), (.i64, q)]) w w.heap.size e := by
      intro e he
      obtain rfl : e = ⟨74, [kf 3], .tuple [kf 4, kf 5, vB true].toArray⟩ := by simpa [Mff9] using he
      exact FnOK.tok (n := 4) (vs := [kf 4, kf 5, vB true]) (vs' := [.int .i64 c, .int .i64 q, .bool true]) rfl rfl rfl fun w' hw' => key_Mf rfl (hof w' (hT.keep hw') (Nat.le_trans hG hw'.size))
    have key := ev_tok (P := Tryz.prog) (l := [(.i64, P), (.i64, T), (.i64, t), (.i64, s), (.i64, c), (.i64, q)]) (es := Mfe9) (fs := Mff9) (w := w) (G := 2) (tabs := []) (n := 600) (f := 14) (args := #[vG [vI 17, kf 0, kf 1, kf 2, vI 0, vI 0, vI 0, vI 0, vI 0, kf 3, vI 0, vU 0, vB false, vZ, vZ, vB false, vI 0, vB false, vN, vI 0, vI 0, vU 0, vU 0, vI 0, vI 0, vI 0, vI 0, vU 0, vZ, vZ, vI 0, vI 0]]) (v := vB false) ((AllOK.app (AllOK.app (AllOK.app (AllOK.app (AllOK.app (AllOK.app (okGe rfl rfl (by omega)) (okLe rfl rfl (by omega))) (okGe rfl rfl (by omega))) (okLe rfl rfl (by omega))) (okLt rfl rfl (by omega))) (okGe rfl rfl (by omega))) (okLt rfl rfl (by omega)))) hF hG (tabR_nil w) rfl (by decide +kernel) (isFalse_eq Mfr9)
    have e : (List.map (tokV (sgI [(.i64, P), (.i64, T), (.i64, t), (.i64, s), (.i64, c), (.i64, q)]) 4) (Array.toList #[vG [vI 17, kf 0, kf 1, kf 2, vI 0, vI 0, vI 0, vI 0, vI 0, kf 3, vI 0, vU 0, vB false, vZ, vZ, vB false, vI 0, vB false, vN, vI 0, vI 0, vU 0, vU 0, vI 0, vI 0, vI 0, vI 0, vU 0, vZ, vZ, vI 0, vI 0]])).toArray = #[vG [vI 17, .int .i64 P, .int .i64 T, .int .i64 t, vI 0, vI 0, vI 0, vI 0, vI 0, .int .i64 s, vI 0, vU 0, vB false, vZ, vZ, vB false, vI 0, vB false, vN, vI 0, vI 0, vU 0, vU 0, vI 0, vI 0, vI 0, vI 0, vU 0, vZ, vZ, vI 0, vI 0]] := rfl
    rw [e] at key
    exact key
  · have key := ev_tok (P := Tryz.prog) (l := [(.i64, P), (.i64, T), (.i64, t), (.i64, s)]) (es := Mfe10) (fs := Mff10) (w := w) (G := 2) (tabs := []) (n := 600) (f := 14) (args := #[vG [vI 17, kf 0, kf 1, kf 2, vI 0, vI 0, vI 0, vI 0, vI 0, kf 3, vI 0, vU 0, vB false, vZ, vZ, vB false, vI 0, vB false, vN, vI 0, vI 0, vU 0, vU 0, vI 0, vI 0, vI 0, vI 0, vU 0, vZ, vZ, vI 0, vI 0]]) (v := vB false) ((AllOK.app (AllOK.app (AllOK.app (AllOK.app (AllOK.app (AllOK.app (AllOK.app (okGe rfl rfl (by omega)) (okLe rfl rfl (by omega))) (okGe rfl rfl (by omega))) (okLe rfl rfl (by omega))) (okGe rfl rfl (by omega))) (okGe rfl rfl (by omega))) (okLt rfl rfl (by omega))) (okLt rfl rfl (by omega)))) (fun e he => by cases he) hG (tabR_nil w) rfl (by decide +kernel) (isFalse_eq Mfr10)
    have e : (List.map (tokV (sgI [(.i64, P), (.i64, T), (.i64, t), (.i64, s)]) 4) (Array.toList #[vG [vI 17, kf 0, kf 1, kf 2, vI 0, vI 0, vI 0, vI 0, vI 0, kf 3, vI 0, vU 0, vB false, vZ, vZ, vB false, vI 0, vB false, vN, vI 0, vI 0, vU 0, vU 0, vI 0, vI 0, vI 0, vI 0, vU 0, vZ, vZ, vI 0, vI 0]])).toArray = #[vG [vI 17, .int .i64 P, .int .i64 T, .int .i64 t, vI 0, vI 0, vI 0, vI 0, vI 0, .int .i64 s, vI 0, vU 0, vB false, vZ, vZ, vB false, vI 0, vB false, vN, vI 0, vI 0, vU 0, vU 0, vI 0, vI 0, vI 0, vI 0, vU 0, vZ, vZ, vI 0, vI 0]] := rfl
    rw [e] at key
    exact key
  · obtain ⟨c, q, hof⟩ := MfO_of s (by omega)
    have hF : ∀ e ∈ Mff11, FnOK Tryz.prog (sgI [(.i64, P), (.i64, T), (.i64, t), (.i64, s), (.i64, c), (.i64, q)]) w w.heap.size e := by
      intro e he
      obtain rfl : e = ⟨74, [kf 3], .tuple [kf 4, kf 5, vB true].toArray⟩ := by simpa [Mff11] using he
      exact FnOK.tok (n := 4) (vs := [kf 4, kf 5, vB true]) (vs' := [.int .i64 c, .int .i64 q, .bool true]) rfl rfl rfl fun w' hw' => key_Mf rfl (hof w' (hT.keep hw') (Nat.le_trans hG hw'.size))
    have key := ev_tok (P := Tryz.prog) (l := [(.i64, P), (.i64, T), (.i64, t), (.i64, s), (.i64, c), (.i64, q)]) (es := Mfe11) (fs := Mff11) (w := w) (G := 2) (tabs := []) (n := 600) (f := 14) (args := #[vG [vI 17, kf 0, kf 1, kf 2, vI 0, vI 0, vI 0, vI 0, vI 0, kf 3, vI 0, vU 0, vB false, vZ, vZ, vB false, vI 0, vB false, vN, vI 0, vI 0, vU 0, vU 0, vI 0, vI 0, vI 0, vI 0, vU 0, vZ, vZ, vI 0, vI 0]]) (v := vB false) ((AllOK.app (AllOK.app (AllOK.app (AllOK.app (AllOK.app (AllOK.app (AllOK.app (okGe rfl rfl (by omega)) (okLe rfl rfl (by omega))) (okGe rfl rfl (by omega))) (okLe rfl rfl (by omega))) (okGe rfl rfl (by omega))) (okGe rfl rfl (by omega))) (okGe rfl rfl (by omega))) (okLt rfl rfl (by omega)))) hF hG (tabR_nil w) rfl (by decide +kernel) (isFalse_eq Mfr11)
    have e : (List.map (tokV (sgI [(.i64, P), (.i64, T), (.i64, t), (.i64, s), (.i64, c), (.i64, q)]) 4) (Array.toList #[vG [vI 17, kf 0, kf 1, kf 2, vI 0, vI 0, vI 0, vI 0, vI 0, kf 3, vI 0, vU 0, vB false, vZ, vZ, vB false, vI 0, vB false, vN, vI 0, vI 0, vU 0, vU 0, vI 0, vI 0, vI 0, vI 0, vU 0, vZ, vZ, vI 0, vI 0]])).toArray = #[vG [vI 17, .int .i64 P, .int .i64 T, .int .i64 t, vI 0, vI 0, vI 0, vI 0, vI 0, .int .i64 s, vI 0, vU 0, vB false, vZ, vZ, vB false, vI 0, vB false, vN, vI 0, vI 0, vU 0, vU 0, vI 0, vI 0, vI 0, vI 0, vU 0, vZ, vZ, vI 0, vI 0]] := rfl
    rw [e] at key
    exact key
  · have key := ev_tok (P := Tryz.prog) (l := [(.i64, P), (.i64, T), (.i64, t), (.i64, s)]) (es := Mfe12) (fs := Mff12) (w := w) (G := 2) (tabs := []) (n := 600) (f := 14) (args := #[vG [vI 17, kf 0, kf 1, kf 2, vI 0, vI 0, vI 0, vI 0, vI 0, kf 3, vI 0, vU 0, vB false, vZ, vZ, vB false, vI 0, vB false, vN, vI 0, vI 0, vU 0, vU 0, vI 0, vI 0, vI 0, vI 0, vU 0, vZ, vZ, vI 0, vI 0]]) (v := vB false) ((AllOK.app (AllOK.app (AllOK.app (AllOK.app (AllOK.app (AllOK.app (AllOK.app (okGe rfl rfl (by omega)) (okLe rfl rfl (by omega))) (okGe rfl rfl (by omega))) (okLe rfl rfl (by omega))) (okGe rfl rfl (by omega))) (okLt rfl rfl (by omega))) (okLt rfl rfl (by omega))) (okLt rfl rfl (by omega)))) (fun e he => by cases he) hG (tabR_nil w) rfl (by decide +kernel) (isFalse_eq Mfr12)
    have e : (List.map (tokV (sgI [(.i64, P), (.i64, T), (.i64, t), (.i64, s)]) 4) (Array.toList #[vG [vI 17, kf 0, kf 1, kf 2, vI 0, vI 0, vI 0, vI 0, vI 0, kf 3, vI 0, vU 0, vB false, vZ, vZ, vB false, vI 0, vB false, vN, vI 0, vI 0, vU 0, vU 0, vI 0, vI 0, vI 0, vI 0, vU 0, vZ, vZ, vI 0, vI 0]])).toArray = #[vG [vI 17, .int .i64 P, .int .i64 T, .int .i64 t, vI 0, vI 0, vI 0, vI 0, vI 0, .int .i64 s, vI 0, vU 0, vB false, vZ, vZ, vB false, vI 0, vB false, vN, vI 0, vI 0, vU 0, vU 0, vI 0, vI 0, vI 0, vI 0, vU 0, vZ, vZ, vI 0, vI 0]] := rfl
    rw [e] at key
    exact key
end Go.Proofs.YtlgbahkioimkfaaGreatDoor
