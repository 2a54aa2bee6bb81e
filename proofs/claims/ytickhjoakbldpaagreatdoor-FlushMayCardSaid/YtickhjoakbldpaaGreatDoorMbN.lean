/- dustpan/dustpanlaw22.FlushMay: where no machine is made (printed by gen_may.py). -/
import Derived.Test.YtickhjoakbldpaaGreatDoorTabM
import Derived.Test.YtickhjoakbldpaaGreatDoorRefl16
namespace Go.Proofs.YtickhjoakbldpaaGreatDoor
open Go.RowKit
set_option linter.unusedVariables false
set_option maxRecDepth 100000
def Mbe0 : List Ent := (eLt 3 (kf 0) (vI 1))
theorem Mbn0 : isNil (evCall (ev Tryz.prog (orcL Mbe0 (fsL [])) 2 600) Tryz.prog (orcL Mbe0 (fsL [])) [] 24 #[vG [kf 0, kf 1], kf 2] (baseWorld 2 [])) = true := by decide +kernel
theorem Mbr0 : isFalse (evCall (ev Tryz.prog (orcL Mbe0 (fsL [])) 2 600) Tryz.prog (orcL Mbe0 (fsL [])) [] 11 #[vG [vI 18, kf 0, kf 1, kf 2, vI 0, vI 0, vI 0, vI 0, vI 0, vI 0, vI 0, vU 0, vB false, vZ, vZ, vB false, vI 0, vB false, vN, vI 0, vI 0, vU 0, vU 0, vI 0, vI 0, vI 0, vI 0, vU 0, vZ, vZ, vI 0, vI 0]] (baseWorld 2 [])) = true := by decide +kernel
def Mbe1 : List Ent := (eGe 3 (kf 0) (vI 1)) ++ (eGt 3 (kf 0) (vI 4096))
theorem Mbn1 : isNil (evCall (ev Tryz.prog (orcL Mbe1 (fsL [])) 2 600) Tryz.prog (orcL Mbe1 (fsL [])) [] 24 #[vG [kf 0, kf 1], kf 2] (baseWorld 2 [])) = true := by decide +kernel
theorem Mbr1 : isFalse (evCall (ev Tryz.prog (orcL Mbe1 (fsL [])) 2 600) Tryz.prog (orcL Mbe1 (fsL [])) [] 11 #[vG [vI 18, kf 0, kf 1, kf 2, vI 0, vI 0, vI 0, vI 0, vI 0, vI 0, vI 0, vU 0, vB false, vZ, vZ, vB false, vI 0, vB false, vN, vI 0, vI 0, vU 0, vU 0, vI 0, vI 0, vI 0, vI 0, vU 0, vZ, vZ, vI 0, vI 0]] (baseWorld 2 [])) = true := by decide +kernel
def Mbe2 : List Ent := (eGe 3 (kf 0) (vI 1)) ++ (eLe 3 (kf 0) (vI 4096)) ++ (eLt 3 (kf 1) (vI 1))
theorem Mbn2 : isNil (evCall (ev Tryz.prog (orcL Mbe2 (fsL [])) 2 600) Tryz.prog (orcL Mbe2 (fsL [])) [] 24 #[vG [kf 0, kf 1], kf 2] (baseWorld 2 [])) = true := by decide +kernel
theorem Mbr2 : isFalse (evCall (ev Tryz.prog (orcL Mbe2 (fsL [])) 2 600) Tryz.prog (orcL Mbe2 (fsL [])) [] 11 #[vG [vI 18, kf 0, kf 1, kf 2, vI 0, vI 0, vI 0, vI 0, vI 0, vI 0, vI 0, vU 0, vB false, vZ, vZ, vB false, vI 0, vB false, vN, vI 0, vI 0, vU 0, vU 0, vI 0, vI 0, vI 0, vI 0, vU 0, vZ, vZ, vI 0, vI 0]] (baseWorld 2 [])) = true := by decide +kernel
def Mbe3 : List Ent := (eGe 3 (kf 0) (vI 1)) ++ (eLe 3 (kf 0) (vI 4096)) ++ (eGe 3 (kf 1) (vI 1)) ++ (eGt 3 (kf 1) (vI 64))
theorem Mbn3 : isNil (evCall (ev Tryz.prog (orcL Mbe3 (fsL [])) 2 600) Tryz.prog (orcL Mbe3 (fsL [])) [] 24 #[vG [kf 0, kf 1], kf 2] (baseWorld 2 [])) = true := by decide +kernel
theorem Mbr3 : isFalse (evCall (ev Tryz.prog (orcL Mbe3 (fsL [])) 2 600) Tryz.prog (orcL Mbe3 (fsL [])) [] 11 #[vG [vI 18, kf 0, kf 1, kf 2, vI 0, vI 0, vI 0, vI 0, vI 0, vI 0, vI 0, vU 0, vB false, vZ, vZ, vB false, vI 0, vB false, vN, vI 0, vI 0, vU 0, vU 0, vI 0, vI 0, vI 0, vI 0, vU 0, vZ, vZ, vI 0, vI 0]] (baseWorld 2 [])) = true := by decide +kernel
def Mbe4 : List Ent := (eGe 3 (kf 0) (vI 1)) ++ (eLe 3 (kf 0) (vI 4096)) ++ (eGe 3 (kf 1) (vI 1)) ++ (eLe 3 (kf 1) (vI 64)) ++ (eLt 3 (kf 2) (vI 0)) ++ (eLt 3 (vI 0) (kf 0))
theorem Mbn4 : isNil (evCall (ev Tryz.prog (orcL Mbe4 (fsL [])) 2 600) Tryz.prog (orcL Mbe4 (fsL [])) [] 24 #[vG [kf 0, kf 1], kf 2] (baseWorld 2 [])) = true := by decide +kernel
theorem Mbr4 : isFalse (evCall (ev Tryz.prog (orcL Mbe4 (fsL [])) 2 600) Tryz.prog (orcL Mbe4 (fsL [])) [] 11 #[vG [vI 18, kf 0, kf 1, kf 2, vI 0, vI 0, vI 0, vI 0, vI 0, vI 0, vI 0, vU 0, vB false, vZ, vZ, vB false, vI 0, vB false, vN, vI 0, vI 0, vU 0, vU 0, vI 0, vI 0, vI 0, vI 0, vU 0, vZ, vZ, vI 0, vI 0]] (baseWorld 2 [])) = true := by decide +kernel
def Mbe5 : List Ent := (eGe 3 (kf 0) (vI 1)) ++ (eLe 3 (kf 0) (vI 4096)) ++ (eGe 3 (kf 1) (vI 1)) ++ (eLe 3 (kf 1) (vI 64)) ++ (eGe 3 (kf 2) (vI 0)) ++ (eGe 3 (kf 2) (kf 1)) ++ (eLt 3 (vI 0) (kf 0))
theorem Mbn5 : isNil (evCall (ev Tryz.prog (orcL Mbe5 (fsL [])) 2 600) Tryz.prog (orcL Mbe5 (fsL [])) [] 24 #[vG [kf 0, kf 1], kf 2] (baseWorld 2 [])) = true := by decide +kernel
theorem Mbr5 : isFalse (evCall (ev Tryz.prog (orcL Mbe5 (fsL [])) 2 600) Tryz.prog (orcL Mbe5 (fsL [])) [] 11 #[vG [vI 18, kf 0, kf 1, kf 2, vI 0, vI 0, vI 0, vI 0, vI 0, vI 0, vI 0, vU 0, vB false, vZ, vZ, vB false, vI 0, vB false, vN, vI 0, vI 0, vU 0, vU 0, vI 0, vI 0, vI 0, vI 0, vU 0, vZ, vZ, vI 0, vI 0]] (baseWorld 2 [])) = true := by decide +kernel
def MbOK (P T t : Int) : Prop := (1 ≤ P) ∧ (P ≤ 4096) ∧ (1 ≤ T) ∧ (T ≤ 64) ∧ (0 ≤ t) ∧ (t < T)
theorem Mb_cases (P T t : Int) (h : ¬ MbOK P T t) : (¬ (1 ≤ P)) ∨ ((1 ≤ P) ∧ ¬ (P ≤ 4096)) ∨ ((1 ≤ P) ∧ (P ≤ 4096) ∧ ¬ (1 ≤ T)) ∨ ((1 ≤ P) ∧ (P ≤ 4096) ∧ (1 ≤ T) ∧ ¬ (T ≤ 64)) ∨ ((1 ≤ P) ∧ (P ≤ 4096) ∧ (1 ≤ T) ∧ (T ≤ 64) ∧ ¬ (0 ≤ t)) ∨ ((1 ≤ P) ∧ (P ≤ 4096) ∧ (1 ≤ T) ∧ (T ≤ 64) ∧ (0 ≤ t) ∧ ¬ (t < T)) := by
  unfold MbOK at h
  by_cases hP_ge : 1 ≤ P
  · by_cases hP_le : P ≤ 4096
    · by_cases hT_ge : 1 ≤ T
      · by_cases hT_le : T ≤ 64
        · by_cases ht_ge : 0 ≤ t
          · by_cases ht_lt : t < T
            · exact absurd ⟨hP_ge, hP_le, hT_ge, hT_le, ht_ge, ht_lt⟩ h
            · exact Or.inr (Or.inr (Or.inr (Or.inr (Or.inr (⟨hP_ge, hP_le, hT_ge, hT_le, ht_ge, ht_lt⟩)))))
          · exact Or.inr (Or.inr (Or.inr (Or.inr (Or.inl ⟨hP_ge, hP_le, hT_ge, hT_le, ht_ge⟩))))
        · exact Or.inr (Or.inr (Or.inr (Or.inl ⟨hP_ge, hP_le, hT_ge, hT_le⟩)))
      · exact Or.inr (Or.inr (Or.inl ⟨hP_ge, hP_le, hT_ge⟩))
    · exact Or.inr (Or.inl ⟨hP_ge, hP_le⟩)
  · exact Or.inl hP_ge
set_option maxHeartbeats 400000 in
theorem Mb_new (P T t : Int) (w : World) (hG : 2 ≤ w.heap.size) (h : ¬ MbOK P T t) : Calls Tryz.prog 24 #[vG [.int .i64 P, .int .i64 T], .int .i64 t] w fun e w' => e = .returned (vN) ∧ Ext w w' := by
  rcases Mb_cases P T t h with h | h | h | h | h | h
  · have key := ev_tok (P := Tryz.prog) (l := [(.i64, P), (.i64, T), (.i64, t)]) (es := Mbe0) (fs := []) (w := w) (G := 2) (tabs := []) (n := 600) (f := 24) (args := #[vG [kf 0, kf 1], kf 2]) (v := vN) ((okLt rfl rfl (by omega))) (fun e he => by cases he) hG (tabR_nil w) rfl (by decide +kernel) (isNil_eq Mbn0)
    have e : (List.map (tokV (sgI [(.i64, P), (.i64, T), (.i64, t)]) 4) (Array.toList #[vG [kf 0, kf 1], kf 2])).toArray = #[vG [.int .i64 P, .int .i64 T], .int .i64 t] := rfl
    rw [e] at key
    exact key
  · have key := ev_tok (P := Tryz.prog) (l := [(.i64, P), (.i64, T), (.i64, t)]) (es := Mbe1) (fs := []) (w := w) (G := 2) (tabs := []) (n := 600) (f := 24) (args := #[vG [kf 0, kf 1], kf 2]) (v := vN) ((AllOK.app (okGe rfl rfl (by omega)) (okGt rfl rfl (by omega)))) (fun e he => by cases he) hG (tabR_nil w) rfl (by decide +kernel) (isNil_eq Mbn1)
    have e : (List.map (tokV (sgI [(.i64, P), (.i64, T), (.i64, t)]) 4) (Array.toList #[vG [kf 0, kf 1], kf 2])).toArray = #[vG [.int .i64 P, .int .i64 T], .int .i64 t] := rfl
    rw [e] at key
    exact key
  · have key := ev_tok (P := Tryz.prog) (l := [(.i64, P), (.i64, T), (.i64, t)]) (es := Mbe2) (fs := []) (w := w) (G := 2) (tabs := []) (n := 600) (f := 24) (args := #[vG [kf 0, kf 1], kf 2]) (v := vN) ((AllOK.app (AllOK.app (okGe rfl rfl (by omega)) (okLe rfl rfl (by omega))) (okLt rfl rfl (by omega)))) (fun e he => by cases he) hG (tabR_nil w) rfl (by decide +kernel) (isNil_eq Mbn2)
    have e : (List.map (tokV (sgI [(.i64, P), (.i64, T), (.i64, t)]) 4) (Array.toList #[vG [kf 0, kf 1], kf 2])).toArray = #[vG [.int .i64 P, .int .i64 T], .int .i64 t] := rfl
    rw [e] at key
    exact key
  · have key := ev_tok (P := Tryz.prog) (l := [(.i64, P), (.i64, T), (.i64, t)]) (es := Mbe3) (fs := []) (w := w) (G := 2) (tabs := []) (n := 600) (f := 24) (args := #[vG [kf 0, kf 1], kf 2]) (v := vN) ((AllOK.app (AllOK.app (AllOK.app (okGe rfl rfl (by omega)) (okLe rfl rfl (by omega))) (okGe rfl rfl (by omega))) (okGt rfl rfl (by omega)))) (fun e he => by cases he) hG (tabR_nil w) rfl (by decide +kernel) (isNil_eq Mbn3)
    have e : (List.map (tokV (sgI [(.i64, P), (.i64, T), (.i64, t)]) 4) (Array.toList #[vG [kf 0, kf 1], kf 2])).toArray = #[vG [.int .i64 P, .int .i64 T], .int .i64 t] := rfl
    rw [e] at key
    exact key
  · have key := ev_tok (P := Tryz.prog) (l := [(.i64, P), (.i64, T), (.i64, t)]) (es := Mbe4) (fs := []) (w := w) (G := 2) (tabs := []) (n := 600) (f := 24) (args := #[vG [kf 0, kf 1], kf 2]) (v := vN) ((AllOK.app (AllOK.app (AllOK.app (AllOK.app (AllOK.app (okGe rfl rfl (by omega)) (okLe rfl rfl (by omega))) (okGe rfl rfl (by omega))) (okLe rfl rfl (by omega))) (okLt rfl rfl (by omega))) (okLt rfl rfl (by omega)))) (fun e he => by cases he) hG (tabR_nil w) rfl (by decide +kernel) (isNil_eq Mbn4)
    have e : (List.map (tokV (sgI [(.i64, P), (.i64, T), (.i64, t)]) 4) (Array.toList #[vG [kf 0, kf 1], kf 2])).toArray = #[vG [.int .i64 P, .int .i64 T], .int .i64 t] := rfl
    rw [e] at key
    exact key
  · have key := ev_tok (P := Tryz.prog) (l := [(.i64, P), (.i64, T), (.i64, t)]) (es := Mbe5) (fs := []) (w := w) (G := 2) (tabs := []) (n := 600) (f := 24) (args := #[vG [kf 0, kf 1], kf 2]) (v := vN) ((AllOK.app (AllOK.app (AllOK.app (AllOK.app (AllOK.app (AllOK.app (okGe rfl rfl (by omega)) (okLe rfl rfl (by omega))) (okGe rfl rfl (by omega))) (okLe rfl rfl (by omega))) (okGe rfl rfl (by omega))) (okGe rfl rfl (by omega))) (okLt rfl rfl (by omega)))) (fun e he => by cases he) hG (tabR_nil w) rfl (by decide +kernel) (isNil_eq Mbn5)
    have e : (List.map (tokV (sgI [(.i64, P), (.i64, T), (.i64, t)]) 4) (Array.toList #[vG [kf 0, kf 1], kf 2])).toArray = #[vG [.int .i64 P, .int .i64 T], .int .i64 t] := rfl
    rw [e] at key
    exact key
set_option maxHeartbeats 400000 in
theorem Mb_right (P T t : Int) (w : World) (hG : 2 ≤ w.heap.size) (h : ¬ MbOK P T t) : Calls Tryz.prog 11 #[vG [vI 18, .int .i64 P, .int .i64 T, .int .i64 t, vI 0, vI 0, vI 0, vI 0, vI 0, vI 0, vI 0, vU 0, vB false, vZ, vZ, vB false, vI 0, vB false, vN, vI 0, vI 0, vU 0, vU 0, vI 0, vI 0, vI 0, vI 0, vU 0, vZ, vZ, vI 0, vI 0]] w fun e w' => e = .returned (vB false) ∧ Ext w w' := by
  rcases Mb_cases P T t h with h | h | h | h | h | h
  · have key := ev_tok (P := Tryz.prog) (l := [(.i64, P), (.i64, T), (.i64, t)]) (es := Mbe0) (fs := []) (w := w) (G := 2) (tabs := []) (n := 600) (f := 11) (args := #[vG [vI 18, kf 0, kf 1, kf 2, vI 0, vI 0, vI 0, vI 0, vI 0, vI 0, vI 0, vU 0, vB false, vZ, vZ, vB false, vI 0, vB false, vN, vI 0, vI 0, vU 0, vU 0, vI 0, vI 0, vI 0, vI 0, vU 0, vZ, vZ, vI 0, vI 0]]) (v := vB false) ((okLt rfl rfl (by omega))) (fun e he => by cases he) hG (tabR_nil w) rfl (by decide +kernel) (isFalse_eq Mbr0)
    have e : (List.map (tokV (sgI [(.i64, P), (.i64, T), (.i64, t)]) 4) (Array.toList #[vG [vI 18, kf 0, kf 1, kf 2, vI 0, vI 0, vI 0, vI 0, vI 0, vI 0, vI 0, vU 0, vB false, vZ, vZ, vB false, vI 0, vB false, vN, vI 0, vI 0, vU 0, vU 0, vI 0, vI 0, vI 0, vI 0, vU 0, vZ, vZ, vI 0, vI 0]])).toArray = #[vG [vI 18, .int .i64 P, .int .i64 T, .int .i64 t, vI 0, vI 0, vI 0, vI 0, vI 0, vI 0, vI 0, vU 0, vB false, vZ, vZ, vB false, vI 0, vB false, vN, vI 0, vI 0, vU 0, vU 0, vI 0, vI 0, vI 0, vI 0, vU 0, vZ, vZ, vI 0, vI 0]] := rfl
    rw [e] at key
    exact key
  · have key := ev_tok (P := Tryz.prog) (l := [(.i64, P), (.i64, T), (.i64, t)]) (es := Mbe1) (fs := []) (w := w) (G := 2) (tabs := []) (n := 600) (f := 11) (args := #[vG [vI 18, kf 0, kf 1, kf 2, vI 0, vI 0, vI 0, vI 0, vI 0, vI 0, vI 0, vU 0, vB false, vZ, vZ, vB false, vI 0, vB false, vN, vI 0, vI 0, vU 0, vU 0, vI 0, vI 0, vI 0, vI 0, vU 0, vZ, vZ, vI 0, vI 0]]) (v := vB false) ((AllOK.app (okGe rfl rfl (by omega)) (okGt rfl rfl (by omega)))) (fun e he => by cases he) hG (tabR_nil w) rfl (by decide +kernel) (isFalse_eq Mbr1)
    have e : (List.map (tokV (sgI [(.i64, P), (.i64, T), (.i64, t)]) 4) (Array.toList #[vG [vI 18, kf 0, kf 1, kf 2, vI 0, vI 0, vI 0, vI 0, vI 0, vI 0, vI 0, vU 0, vB false, vZ, vZ, vB false, vI 0, vB false, vN, vI 0, vI 0, vU 0, vU 0, vI 0, vI 0, vI 0, vI 0, vU 0, vZ, vZ, vI 0, vI 0]])).toArray = #[vG [vI 18, .int .i64 P, .int .i64 T, .int .i64 t, vI 0, vI 0, vI 0, vI 0, vI 0, vI 0, vI 0, vU 0, vB false, vZ, vZ, vB false, vI 0, vB false, vN, vI 0, vI 0, vU 0, vU 0, vI 0, vI 0, vI 0, vI 0, vU 0, vZ, vZ, vI 0, vI 0]] := rfl
    rw [e] at key
    exact key
  · have key := ev_tok (P := Tryz.prog) (l := [(.i64, P), (.i64, T), (.i64, t)]) (es := Mbe2) (fs := []) (w := w) (G := 2) (tabs := []) (n := 600) (f := 11) (args := #[vG [vI 18, kf 0, kf 1, kf 2, vI 0, vI 0, vI 0, vI 0, vI 0, vI 0, vI 0, vU 0, vB false, vZ, vZ, vB false, vI 0, vB false, vN, vI 0, vI 0, vU 0, vU 0, vI 0, vI 0, vI 0, vI 0, vU 0, vZ, vZ, vI 0, vI 0]]) (v := vB false) ((AllOK.app (AllOK.app (okGe rfl rfl (by omega)) (okLe rfl rfl (by omega))) (okLt rfl rfl (by omega)))) (fun e he => by cases he) hG (tabR_nil w) rfl (by decide +kernel) (isFalse_eq Mbr2)
    have e : (List.map (tokV (sgI [(.i64, P), (.i64, T), (.i64, t)]) 4) (Array.toList #[vG [vI 18, kf 0, kf 1, kf 2, vI 0, vI 0, vI 0, vI 0, vI 0, vI 0, vI 0, vU 0, vB false, vZ, vZ, vB false, vI 0, vB false, vN, vI 0, vI 0, vU 0, vU 0, vI 0, vI 0, vI 0, vI 0, vU 0, vZ, vZ, vI 0, vI 0]])).toArray = #[vG [vI 18, .int .i64 P, .int .i64 T, .int .i64 t, vI 0, vI 0, vI 0, vI 0, vI 0, vI 0, vI 0, vU 0, vB false, vZ, vZ, vB false, vI 0, vB false, vN, vI 0, vI 0, vU 0, vU 0, vI 0, vI 0, vI 0, vI 0, vU 0, vZ, vZ, vI 0, vI 0]] := rfl
    rw [e] at key
    exact key
  · have key := ev_tok (P := Tryz.prog) (l := [(.i64, P), (.i64, T), (.i64, t)]) (es := Mbe3) (fs := []) (w := w) (G := 2) (tabs := []) (n := 600) (f := 11) (args := #[vG [vI 18, kf 0, kf 1, kf 2, vI 0, vI 0, vI 0, vI 0, vI 0, vI 0, vI 0, vU 0, vB false, vZ, vZ, vB false, vI 0, vB false, vN, vI 0, vI 0, vU 0, vU 0, vI 0, vI 0, vI 0, vI 0, vU 0, vZ, vZ, vI 0, vI 0]]) (v := vB false) ((AllOK.app (AllOK.app (AllOK.app (okGe rfl rfl (by omega)) (okLe rfl rfl (by omega))) (okGe rfl rfl (by omega))) (okGt rfl rfl (by omega)))) (fun e he => by cases he) hG (tabR_nil w) rfl (by decide +kernel) (isFalse_eq Mbr3)
    have e : (List.map (tokV (sgI [(.i64, P), (.i64, T), (.i64, t)]) 4) (Array.toList #[vG [vI 18, kf 0, kf 1, kf 2, vI 0, vI 0, vI 0, vI 0, vI 0, vI 0, vI 0, vU 0, vB false, vZ, vZ, vB false, vI 0, vB false, vN, vI 0, vI 0, vU 0, vU 0, vI 0, vI 0, vI 0, vI 0, vU 0, vZ, vZ, vI 0, vI 0]])).toArray = #[vG [vI 18, .int .i64 P, .int .i64 T, .int .i64 t, vI 0, vI 0, vI 0, vI 0, vI 0, vI 0, vI 0, vU 0, vB false, vZ, vZ, vB false, vI 0, vB false, vN, vI 0, vI 0, vU 0, vU 0, vI 0, vI 0, vI 0, vI 0, vU 0, vZ, vZ, vI 0, vI 0]] := rfl
    rw [e] at key
    exact key
  · have key := ev_tok (P := Tryz.prog) (l := [(.i64, P), (.i64, T), (.i64, t)]) (es := Mbe4) (fs := []) (w := w) (G := 2) (tabs := []) (n := 600) (f := 11) (args := #[vG [vI 18, kf 0, kf 1, kf 2, vI 0, vI 0, vI 0, vI 0, vI 0, vI 0, vI 0, vU 0, vB false, vZ, vZ, vB false, vI 0, vB false, vN, vI 0, vI 0, vU 0, vU 0, vI 0, vI 0, vI 0, vI 0, vU 0, vZ, vZ, vI 0, vI 0]]) (v := vB false) ((AllOK.app (AllOK.app (AllOK.app (AllOK.app (AllOK.app (okGe rfl rfl (by omega)) (okLe rfl rfl (by omega))) (okGe rfl rfl (by omega))) (okLe rfl rfl (by omega))) (okLt rfl rfl (by omega))) (okLt rfl rfl (by omega)))) (fun e he => by cases he) hG (tabR_nil w) rfl (by decide +kernel) (isFalse_eq Mbr4)
    have e : (List.map (tokV (sgI [(.i64, P), (.i64, T), (.i64, t)]) 4) (Array.toList #[vG [vI 18, kf 0, kf 1, kf 2, vI 0, vI 0, vI 0, vI 0, vI 0, vI 0, vI 0, vU 0, vB false, vZ, vZ, vB false, vI 0, vB false, vN, vI 0, vI 0, vU 0, vU 0, vI 0, vI 0, vI 0, vI 0, vU 0, vZ, vZ, vI 0, vI 0]])).toArray = #[vG [vI 18, .int .i64 P, .int .i64 T, .int .i64 t, vI 0, vI 0, vI 0, vI 0, vI 0, vI 0, vI 0, vU 0, vB false, vZ, vZ, vB false, vI 0, vB false, vN, vI 0, vI 0, vU 0, vU 0, vI 0, vI 0, vI 0, vI 0, vU 0, vZ, vZ, vI 0, vI 0]] := rfl
    rw [e] at key
    exact key
  · have key := ev_tok (P := Tryz.prog) (l := [(.i64, P), (.i64, T), (.i64, t)]) (es := Mbe5) (fs := []) (w := w) (G := 2) (tabs := []) (n := 600) (f := 11) (args := #[vG [vI 18, kf 0, kf 1, kf 2, vI 0, vI 0, vI 0, vI 0, vI 0, vI 0, vI 0, vU 0, vB false, vZ, vZ, vB false, vI 0, vB false, vN, vI 0, vI 0, vU 0, vU 0, vI 0, vI 0, vI 0, vI 0, vU 0, vZ, vZ, vI 0, vI 0]]) (v := vB false) ((AllOK.app (AllOK.app (AllOK.app (AllOK.app (AllOK.app (AllOK.app (okGe rfl rfl (by omega)) (okLe rfl rfl (by omega))) (okGe rfl rfl (by omega))) (okLe rfl rfl (by omega))) (okGe rfl rfl (by omega))) (okGe rfl rfl (by omega))) (okLt rfl rfl (by omega)))) (fun e he => by cases he) hG (tabR_nil w) rfl (by decide +kernel) (isFalse_eq Mbr5)
    have e : (List.map (tokV (sgI [(.i64, P), (.i64, T), (.i64, t)]) 4) (Array.toList #[vG [vI 18, kf 0, kf 1, kf 2, vI 0, vI 0, vI 0, vI 0, vI 0, vI 0, vI 0, vU 0, vB false, vZ, vZ, vB false, vI 0, vB false, vN, vI 0, vI 0, vU 0, vU 0, vI 0, vI 0, vI 0, vI 0, vU 0, vZ, vZ, vI 0, vI 0]])).toArray = #[vG [vI 18, .int .i64 P, .int .i64 T, .int .i64 t, vI 0, vI 0, vI 0, vI 0, vI 0, vI 0, vI 0, vU 0, vB false, vZ, vZ, vB false, vI 0, vB false, vN, vI 0, vI 0, vU 0, vU 0, vI 0, vI 0, vI 0, vI 0, vU 0, vZ, vZ, vI 0, vI 0]] := rfl
    rw [e] at key
    exact key
end Go.Proofs.YtickhjoakbldpaaGreatDoor
