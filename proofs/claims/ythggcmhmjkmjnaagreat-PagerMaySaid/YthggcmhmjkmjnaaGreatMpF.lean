/- PagerMay: no such layout (printed by gen_pager.py). -/
import Derived.Test.YthggcmhmjkmjnaaGreatMpD
namespace Go.Proofs.YthggcmhmjkmjnaaGreat
open Go.RowKit Go.IntWalk
set_option linter.unusedVariables false
set_option linter.unusedSimpArgs false
set_option maxRecDepth 100000
theorem key_MpF {f : FuncId} {args args' : Array Value} {w : World} {R : Ending → World → Prop} (e : args = args') (h : Calls Tryz.prog f args w R) : Calls Tryz.prog f args' w R := e ▸ h
def MpFRG0e : List Ent := (eLt 3 (kf 0) (vI 1))
def MpFRG0f : List FnEnt := []
theorem MpFRG0t : isFalse (evCall (ev Tryz.prog (orcL MpFRG0e (fsL MpFRG0f)) 0 900) Tryz.prog (orcL MpFRG0e (fsL MpFRG0f)) [] 22 #[vG [vI 9, kf 0, kf 1, kf 2, vI 0, vI 0, kf 4, vI 0, vI 0, vI 0, vI 0, vU 0, vB false, kf 5, vZ, vB false, vI 0, vB false, vN, vI 0, vI 0, vU 0, vU 0, vI 0, vI 0, vI 0, vI 0, vU 0, vZ, vZ, vI 0, vI 0]] (baseWorld 0 [])) = true := by decide +kernel
def MpFRB0e : List Ent := (eLt 3 (kf 0) (vI 1))
def MpFRB0f : List FnEnt := []
theorem MpFRB0t : isFalse (evCall (ev Tryz.prog (orcL MpFRB0e (fsL MpFRB0f)) 0 900) Tryz.prog (orcL MpFRB0e (fsL MpFRB0f)) [] 22 #[vG [vI 10, kf 0, kf 1, kf 2, kf 3, vI 0, kf 4, vI 0, vI 0, vI 0, vI 0, vU 0, vB false, vZ, vZ, vB false, vI 0, vB false, vN, vI 0, vI 0, vU 0, vU 0, vI 0, vI 0, vI 0, vI 0, vU 0, vZ, vZ, vI 0, vI 0]] (baseWorld 0 [])) = true := by decide +kernel
def MpFNG0e : List Ent := (eLt 3 (kf 0) (vI 1))
def MpFNG0f : List FnEnt := []
theorem MpFNG0t : isNil (evCall (ev Tryz.prog (orcL MpFNG0e (fsL MpFNG0f)) 0 900) Tryz.prog (orcL MpFNG0e (fsL MpFNG0f)) [] 8 #[vG [kf 0, kf 1], kf 2, kf 4, kf 5] (baseWorld 0 [])) = true := by decide +kernel
def MpFNB0e : List Ent := (eLt 3 (kf 0) (vI 1))
def MpFNB0f : List FnEnt := []
theorem MpFNB0t : isNil (evCall (ev Tryz.prog (orcL MpFNB0e (fsL MpFNB0f)) 0 900) Tryz.prog (orcL MpFNB0e (fsL MpFNB0f)) [] 21 #[vG [kf 0, kf 1], kf 2, kf 3, kf 4] (baseWorld 0 [])) = true := by decide +kernel
def MpFRG1e : List Ent := (eGe 3 (kf 0) (vI 1)) ++ (eGt 3 (kf 0) (vI 4096))
def MpFRG1f : List FnEnt := []
theorem MpFRG1t : isFalse (evCall (ev Tryz.prog (orcL MpFRG1e (fsL MpFRG1f)) 0 900) Tryz.prog (orcL MpFRG1e (fsL MpFRG1f)) [] 22 #[vG [vI 9, kf 0, kf 1, kf 2, vI 0, vI 0, kf 4, vI 0, vI 0, vI 0, vI 0, vU 0, vB false, kf 5, vZ, vB false, vI 0, vB false, vN, vI 0, vI 0, vU 0, vU 0, vI 0, vI 0, vI 0, vI 0, vU 0, vZ, vZ, vI 0, vI 0]] (baseWorld 0 [])) = true := by decide +kernel
def MpFRB1e : List Ent := (eGe 3 (kf 0) (vI 1)) ++ (eGt 3 (kf 0) (vI 4096))
def MpFRB1f : List FnEnt := []
theorem MpFRB1t : isFalse (evCall (ev Tryz.prog (orcL MpFRB1e (fsL MpFRB1f)) 0 900) Tryz.prog (orcL MpFRB1e (fsL MpFRB1f)) [] 22 #[vG [vI 10, kf 0, kf 1, kf 2, kf 3, vI 0, kf 4, vI 0, vI 0, vI 0, vI 0, vU 0, vB false, vZ, vZ, vB false, vI 0, vB false, vN, vI 0, vI 0, vU 0, vU 0, vI 0, vI 0, vI 0, vI 0, vU 0, vZ, vZ, vI 0, vI 0]] (baseWorld 0 [])) = true := by decide +kernel
def MpFNG1e : List Ent := (eGe 3 (kf 0) (vI 1)) ++ (eGt 3 (kf 0) (vI 4096))
def MpFNG1f : List FnEnt := []
theorem MpFNG1t : isNil (evCall (ev Tryz.prog (orcL MpFNG1e (fsL MpFNG1f)) 0 900) Tryz.prog (orcL MpFNG1e (fsL MpFNG1f)) [] 8 #[vG [kf 0, kf 1], kf 2, kf 4, kf 5] (baseWorld 0 [])) = true := by decide +kernel
def MpFNB1e : List Ent := (eGe 3 (kf 0) (vI 1)) ++ (eGt 3 (kf 0) (vI 4096))
def MpFNB1f : List FnEnt := []
theorem MpFNB1t : isNil (evCall (ev Tryz.prog (orcL MpFNB1e (fsL MpFNB1f)) 0 900) Tryz.prog (orcL MpFNB1e (fsL MpFNB1f)) [] 21 #[vG [kf 0, kf 1], kf 2, kf 3, kf 4] (baseWorld 0 [])) = true := by decide +kernel
def MpFRG2e : List Ent := (eGe 3 (kf 0) (vI 1)) ++ (eLe 3 (kf 0) (vI 4096)) ++ (eLt 3 (kf 1) (vI 1))
def MpFRG2f : List FnEnt := []
theorem MpFRG2t : isFalse (evCall (ev Tryz.prog (orcL MpFRG2e (fsL MpFRG2f)) 0 900) Tryz.prog (orcL MpFRG2e (fsL MpFRG2f)) [] 22 #[vG [vI 9, kf 0, kf 1, kf 2, vI 0, vI 0, kf 4, vI 0, vI 0, vI 0, vI 0, vU 0, vB false, kf 5, vZ, vB false, vI 0, vB false, vN, vI 0, vI 0, vU 0, vU 0, vI 0, vI 0, vI 0, vI 0, vU 0, vZ, vZ, vI 0, vI 0]] (baseWorld 0 [])) = true := by decide +kernel
def MpFRB2e : List Ent := (eGe 3 (kf 0) (vI 1)) ++ (eLe 3 (kf 0) (vI 4096)) ++ (eLt 3 (kf 1) (vI 1))
def MpFRB2f : List FnEnt := []
theorem MpFRB2t : isFalse (evCall (ev Tryz.prog (orcL MpFRB2e (fsL MpFRB2f)) 0 900) Tryz.prog (orcL MpFRB2e (fsL MpFRB2f)) [] 22 #[vG [vI 10, kf 0, kf 1, kf 2, kf 3, vI 0, kf 4, vI 0, vI 0, vI 0, vI 0, vU 0, vB false, vZ, vZ, vB false, vI 0, vB false, vN, vI 0, vI 0, vU 0, vU 0, vI 0, vI 0, vI 0, vI 0, vU 0, vZ, vZ, vI 0, vI 0]] (baseWorld 0 [])) = true := by decide +kernel
def MpFNG2e : List Ent := (eGe 3 (kf 0) (vI 1)) ++ (eLe 3 (kf 0) (vI 4096)) ++ (eLt 3 (kf 1) (vI 1))
def MpFNG2f : List FnEnt := []
theorem MpFNG2t : isNil (evCall (ev Tryz.prog (orcL MpFNG2e (fsL MpFNG2f)) 0 900) Tryz.prog (orcL MpFNG2e (fsL MpFNG2f)) [] 8 #[vG [kf 0, kf 1], kf 2, kf 4, kf 5] (baseWorld 0 [])) = true := by decide +kernel
def MpFNB2e : List Ent := (eGe 3 (kf 0) (vI 1)) ++ (eLe 3 (kf 0) (vI 4096)) ++ (eLt 3 (kf 1) (vI 1))
def MpFNB2f : List FnEnt := []
theorem MpFNB2t : isNil (evCall (ev Tryz.prog (orcL MpFNB2e (fsL MpFNB2f)) 0 900) Tryz.prog (orcL MpFNB2e (fsL MpFNB2f)) [] 21 #[vG [kf 0, kf 1], kf 2, kf 3, kf 4] (baseWorld 0 [])) = true := by decide +kernel
def MpFRG3e : List Ent := (eGe 3 (kf 0) (vI 1)) ++ (eLe 3 (kf 0) (vI 4096)) ++ (eGe 3 (kf 1) (vI 1)) ++ (eGt 3 (kf 1) (vI 64))
def MpFRG3f : List FnEnt := []
theorem MpFRG3t : isFalse (evCall (ev Tryz.prog (orcL MpFRG3e (fsL MpFRG3f)) 0 900) Tryz.prog (orcL MpFRG3e (fsL MpFRG3f)) [] 22 #[vG [vI 9, kf 0, kf 1, kf 2, vI 0, vI 0, kf 4, vI 0, vI 0, vI 0, vI 0, vU 0, vB false, kf 5, vZ, vB false, vI 0, vB false, vN, vI 0, vI 0, vU 0, vU 0, vI 0, vI 0, vI 0, vI 0, vU 0, vZ, vZ, vI 0, vI 0]] (baseWorld 0 [])) = true := by decide +kernel
def MpFRB3e : List Ent := (eGe 3 (kf 0) (vI 1)) ++ (eLe 3 (kf 0) (vI 4096)) ++ (eGe 3 (kf 1) (vI 1)) ++ (eGt 3 (kf 1) (vI 64))
def MpFRB3f : List FnEnt := []
theorem MpFRB3t : isFalse (evCall (ev Tryz.prog (orcL MpFRB3e (fsL MpFRB3f)) 0 900) Tryz.prog (orcL MpFRB3e (fsL MpFRB3f)) [] 22 #[vG [vI 10, kf 0, kf 1, kf 2, kf 3, vI 0, kf 4, vI 0, vI 0, vI 0, vI 0, vU 0, vB false, vZ, vZ, vB false, vI 0, vB false, vN, vI 0, vI 0, vU 0, vU 0, vI 0, vI 0, vI 0, vI 0, vU 0, vZ, vZ, vI 0, vI 0]] (baseWorld 0 [])) = true := by decide +kernel
def MpFNG3e : List Ent := (eGe 3 (kf 0) (vI 1)) ++ (eLe 3 (kf 0) (vI 4096)) ++ (eGe 3 (kf 1) (vI 1)) ++ (eGt 3 (kf 1) (vI 64))
def MpFNG3f : List FnEnt := []
theorem MpFNG3t : isNil (evCall (ev Tryz.prog (orcL MpFNG3e (fsL MpFNG3f)) 0 900) Tryz.prog (orcL MpFNG3e (fsL MpFNG3f)) [] 8 #[vG [kf 0, kf 1], kf 2, kf 4, kf 5] (baseWorld 0 [])) = true := by decide +kernel
def MpFNB3e : List Ent := (eGe 3 (kf 0) (vI 1)) ++ (eLe 3 (kf 0) (vI 4096)) ++ (eGe 3 (kf 1) (vI 1)) ++ (eGt 3 (kf 1) (vI 64))
def MpFNB3f : List FnEnt := []
theorem MpFNB3t : isNil (evCall (ev Tryz.prog (orcL MpFNB3e (fsL MpFNB3f)) 0 900) Tryz.prog (orcL MpFNB3e (fsL MpFNB3f)) [] 21 #[vG [kf 0, kf 1], kf 2, kf 3, kf 4] (baseWorld 0 [])) = true := by decide +kernel
theorem MpFRG (P T t p n : Int) (nb : Option Addr) (nn nc : Nat) (w : World) (hG : 0 ≤ w.heap.size) (hL : ¬ MayL P T) : Calls Tryz.prog 22 #[vG [vI 9, .int .i64 P, .int .i64 T, .int .i64 t, vI 0, vI 0, .int .i64 n, vI 0, vI 0, vI 0, vI 0, vU 0, vB false, .slice nb nn nc, vZ, vB false, vI 0, vB false, vN, vI 0, vI 0, vU 0, vU 0, vI 0, vI 0, vI 0, vI 0, vU 0, vZ, vZ, vI 0, vI 0]] w fun e w' => e = .returned (vB false) ∧ Ext w w' := by
  by_cases h0 : 1 ≤ P
  rotate_left
  · exact key_MpF rfl (ev_tokX (P := Tryz.prog) (l := [.int .i64 P, .int .i64 T, .int .i64 t, .int .i64 p, .int .i64 n, .slice nb nn nc]) (TokL.int (TokL.int (TokL.int (TokL.int (TokL.int (TokL.slice TokL.nil)))))) (es := MpFRG0e) (fs := MpFRG0f) (w := w) (G := 0) (tabs := []) (n := 900) (f := 22) (args := #[vG [vI 9, kf 0, kf 1, kf 2, vI 0, vI 0, kf 4, vI 0, vI 0, vI 0, vI 0, vU 0, vB false, kf 5, vZ, vB false, vI 0, vB false, vN, vI 0, vI 0, vU 0, vU 0, vI 0, vI 0, vI 0, vI 0, vU 0, vZ, vZ, vI 0, vI 0]]) (v := vB false) ((okLt (a := P) (c := 1) rfl rfl (by omega)).w) (fun e he => by cases he) hG (tabR_nil w) rfl (by decide +kernel) (isFalse_eq MpFRG0t))
  by_cases h1 : P ≤ 4096
  rotate_left
  · exact key_MpF rfl (ev_tokX (P := Tryz.prog) (l := [.int .i64 P, .int .i64 T, .int .i64 t, .int .i64 p, .int .i64 n, .slice nb nn nc]) (TokL.int (TokL.int (TokL.int (TokL.int (TokL.int (TokL.slice TokL.nil)))))) (es := MpFRG1e) (fs := MpFRG1f) (w := w) (G := 0) (tabs := []) (n := 900) (f := 22) (args := #[vG [vI 9, kf 0, kf 1, kf 2, vI 0, vI 0, kf 4, vI 0, vI 0, vI 0, vI 0, vU 0, vB false, kf 5, vZ, vB false, vI 0, vB false, vN, vI 0, vI 0, vU 0, vU 0, vI 0, vI 0, vI 0, vI 0, vU 0, vZ, vZ, vI 0, vI 0]]) (v := vB false) ((AllOKW.app (okGe (a := P) (c := 1) rfl rfl (by omega)).w (okGt (a := P) (c := 4096) rfl rfl (by omega)).w)) (fun e he => by cases he) hG (tabR_nil w) rfl (by decide +kernel) (isFalse_eq MpFRG1t))
  by_cases h2 : 1 ≤ T
  rotate_left
  · exact key_MpF rfl (ev_tokX (P := Tryz.prog) (l := [.int .i64 P, .int .i64 T, .int .i64 t, .int .i64 p, .int .i64 n, .slice nb nn nc]) (TokL.int (TokL.int (TokL.int (TokL.int (TokL.int (TokL.slice TokL.nil)))))) (es := MpFRG2e) (fs := MpFRG2f) (w := w) (G := 0) (tabs := []) (n := 900) (f := 22) (args := #[vG [vI 9, kf 0, kf 1, kf 2, vI 0, vI 0, kf 4, vI 0, vI 0, vI 0, vI 0, vU 0, vB false, kf 5, vZ, vB false, vI 0, vB false, vN, vI 0, vI 0, vU 0, vU 0, vI 0, vI 0, vI 0, vI 0, vU 0, vZ, vZ, vI 0, vI 0]]) (v := vB false) ((AllOKW.app (AllOKW.app (okGe (a := P) (c := 1) rfl rfl (by omega)).w (okLe (a := P) (c := 4096) rfl rfl (by omega)).w) (okLt (a := T) (c := 1) rfl rfl (by omega)).w)) (fun e he => by cases he) hG (tabR_nil w) rfl (by decide +kernel) (isFalse_eq MpFRG2t))
  by_cases h3 : T ≤ 64
  rotate_left
  · exact key_MpF rfl (ev_tokX (P := Tryz.prog) (l := [.int .i64 P, .int .i64 T, .int .i64 t, .int .i64 p, .int .i64 n, .slice nb nn nc]) (TokL.int (TokL.int (TokL.int (TokL.int (TokL.int (TokL.slice TokL.nil)))))) (es := MpFRG3e) (fs := MpFRG3f) (w := w) (G := 0) (tabs := []) (n := 900) (f := 22) (args := #[vG [vI 9, kf 0, kf 1, kf 2, vI 0, vI 0, kf 4, vI 0, vI 0, vI 0, vI 0, vU 0, vB false, kf 5, vZ, vB false, vI 0, vB false, vN, vI 0, vI 0, vU 0, vU 0, vI 0, vI 0, vI 0, vI 0, vU 0, vZ, vZ, vI 0, vI 0]]) (v := vB false) ((AllOKW.app (AllOKW.app (AllOKW.app (okGe (a := P) (c := 1) rfl rfl (by omega)).w (okLe (a := P) (c := 4096) rfl rfl (by omega)).w) (okGe (a := T) (c := 1) rfl rfl (by omega)).w) (okGt (a := T) (c := 64) rfl rfl (by omega)).w)) (fun e he => by cases he) hG (tabR_nil w) rfl (by decide +kernel) (isFalse_eq MpFRG3t))
  exact absurd ⟨h0, h1, h2, h3⟩ hL
theorem MpFRB (P T t p n : Int) (nb : Option Addr) (nn nc : Nat) (w : World) (hG : 0 ≤ w.heap.size) (hL : ¬ MayL P T) : Calls Tryz.prog 22 #[vG [vI 10, .int .i64 P, .int .i64 T, .int .i64 t, .int .i64 p, vI 0, .int .i64 n, vI 0, vI 0, vI 0, vI 0, vU 0, vB false, vZ, vZ, vB false, vI 0, vB false, vN, vI 0, vI 0, vU 0, vU 0, vI 0, vI 0, vI 0, vI 0, vU 0, vZ, vZ, vI 0, vI 0]] w fun e w' => e = .returned (vB false) ∧ Ext w w' := by
  by_cases h0 : 1 ≤ P
  rotate_left
  · exact key_MpF rfl (ev_tokX (P := Tryz.prog) (l := [.int .i64 P, .int .i64 T, .int .i64 t, .int .i64 p, .int .i64 n, .slice nb nn nc]) (TokL.int (TokL.int (TokL.int (TokL.int (TokL.int (TokL.slice TokL.nil)))))) (es := MpFRB0e) (fs := MpFRB0f) (w := w) (G := 0) (tabs := []) (n := 900) (f := 22) (args := #[vG [vI 10, kf 0, kf 1, kf 2, kf 3, vI 0, kf 4, vI 0, vI 0, vI 0, vI 0, vU 0, vB false, vZ, vZ, vB false, vI 0, vB false, vN, vI 0, vI 0, vU 0, vU 0, vI 0, vI 0, vI 0, vI 0, vU 0, vZ, vZ, vI 0, vI 0]]) (v := vB false) ((okLt (a := P) (c := 1) rfl rfl (by omega)).w) (fun e he => by cases he) hG (tabR_nil w) rfl (by decide +kernel) (isFalse_eq MpFRB0t))
  by_cases h1 : P ≤ 4096
  rotate_left
  · exact key_MpF rfl (ev_tokX (P := Tryz.prog) (l := [.int .i64 P, .int .i64 T, .int .i64 t, .int .i64 p, .int .i64 n, .slice nb nn nc]) (TokL.int (TokL.int (TokL.int (TokL.int (TokL.int (TokL.slice TokL.nil)))))) (es := MpFRB1e) (fs := MpFRB1f) (w := w) (G := 0) (tabs := []) (n := 900) (f := 22) (args := #[vG [vI 10, kf 0, kf 1, kf 2, kf 3, vI 0, kf 4, vI 0, vI 0, vI 0, vI 0, vU 0, vB false, vZ, vZ, vB false, vI 0, vB false, vN, vI 0, vI 0, vU 0, vU 0, vI 0, vI 0, vI 0, vI 0, vU 0, vZ, vZ, vI 0, vI 0]]) (v := vB false) ((AllOKW.app (okGe (a := P) (c := 1) rfl rfl (by omega)).w (okGt (a := P) (c := 4096) rfl rfl (by omega)).w)) (fun e he => by cases he) hG (tabR_nil w) rfl (by decide +kernel) (isFalse_eq MpFRB1t))
  by_cases h2 : 1 ≤ T
  rotate_left
  · exact key_MpF rfl (ev_tokX (P := Tryz.prog) (l := [.int .i64 P, .int .i64 T, .int .i64 t, .int .i64 p, .int .i64 n, .slice nb nn nc]) (TokL.int (TokL.int (TokL.int (TokL.int (TokL.int (TokL.slice TokL.nil)))))) (es := MpFRB2e) (fs := MpFRB2f) (w := w) (G := 0) (tabs := []) (n := 900) (f := 22) (args := #[vG [vI 10, kf 0, kf 1, kf 2, kf 3, vI 0, kf 4, vI 0, vI 0, vI 0, vI 0, vU 0, vB false, vZ, vZ, vB false, vI 0, vB false, vN, vI 0, vI 0, vU 0, vU 0, vI 0, vI 0, vI 0, vI 0, vU 0, vZ, vZ, vI 0, vI 0]]) (v := vB false) ((AllOKW.app (AllOKW.app (okGe (a := P) (c := 1) rfl rfl (by omega)).w (okLe (a := P) (c := 4096) rfl rfl (by omega)).w) (okLt (a := T) (c := 1) rfl rfl (by omega)).w)) (fun e he => by cases he) hG (tabR_nil w) rfl (by decide +kernel) (isFalse_eq MpFRB2t))
  by_cases h3 : T ≤ 64
  rotate_left
  · exact key_MpF rfl (ev_tokX (P := Tryz.prog) (l := [.int .i64 P, .int .i64 T, .int .i64 t, .int .i64 p, .int .i64 n, .slice nb nn nc]) (TokL.int (TokL.int (TokL.int (TokL.int (TokL.int (TokL.slice TokL.nil)))))) (es := MpFRB3e) (fs := MpFRB3f) (w := w) (G := 0) (tabs := []) (n := 900) (f := 22) (args := #[vG [vI 10, kf 0, kf 1, kf 2, kf 3, vI 0, kf 4, vI 0, vI 0, vI 0, vI 0, vU 0, vB false, vZ, vZ, vB false, vI 0, vB false, vN, vI 0, vI 0, vU 0, vU 0, vI 0, vI 0, vI 0, vI 0, vU 0, vZ, vZ, vI 0, vI 0]]) (v := vB false) ((AllOKW.app (AllOKW.app (AllOKW.app (okGe (a := P) (c := 1) rfl rfl (by omega)).w (okLe (a := P) (c := 4096) rfl rfl (by omega)).w) (okGe (a := T) (c := 1) rfl rfl (by omega)).w) (okGt (a := T) (c := 64) rfl rfl (by omega)).w)) (fun e he => by cases he) hG (tabR_nil w) rfl (by decide +kernel) (isFalse_eq MpFRB3t))
  exact absurd ⟨h0, h1, h2, h3⟩ hL
theorem MpFNG (P T t p n : Int) (nb : Option Addr) (nn nc : Nat) (w : World) (hG : 0 ≤ w.heap.size) (hL : ¬ MayL P T) : Calls Tryz.prog 8 #[.agg #[.int .i64 P, .int .i64 T], .int .i64 t, .int .i64 n, .slice nb nn nc] w fun e w' => e = .returned (vN) ∧ Ext w w' := by
  by_cases h0 : 1 ≤ P
  rotate_left
  · exact key_MpF rfl (ev_tokX (P := Tryz.prog) (l := [.int .i64 P, .int .i64 T, .int .i64 t, .int .i64 p, .int .i64 n, .slice nb nn nc]) (TokL.int (TokL.int (TokL.int (TokL.int (TokL.int (TokL.slice TokL.nil)))))) (es := MpFNG0e) (fs := MpFNG0f) (w := w) (G := 0) (tabs := []) (n := 900) (f := 8) (args := #[vG [kf 0, kf 1], kf 2, kf 4, kf 5]) (v := vN) ((okLt (a := P) (c := 1) rfl rfl (by omega)).w) (fun e he => by cases he) hG (tabR_nil w) rfl (by decide +kernel) (isNil_eq MpFNG0t))
  by_cases h1 : P ≤ 4096
  rotate_left
  · exact key_MpF rfl (ev_tokX (P := Tryz.prog) (l := [.int .i64 P, .int .i64 T, .int .i64 t, .int .i64 p, .int .i64 n, .slice nb nn nc]) (TokL.int (TokL.int (TokL.int (TokL.int (TokL.int (TokL.slice TokL.nil)))))) (es := MpFNG1e) (fs := MpFNG1f) (w := w) (G := 0) (tabs := []) (n := 900) (f := 8) (args := #[vG [kf 0, kf 1], kf 2, kf 4, kf 5]) (v := vN) ((AllOKW.app (okGe (a := P) (c := 1) rfl rfl (by omega)).w (okGt (a := P) (c := 4096) rfl rfl (by omega)).w)) (fun e he => by cases he) hG (tabR_nil w) rfl (by decide +kernel) (isNil_eq MpFNG1t))
  by_cases h2 : 1 ≤ T
  rotate_left
  · exact key_MpF rfl (ev_tokX (P := Tryz.prog) (l := [.int .i64 P, .int .i64 T, .int .i64 t, .int .i64 p, .int .i64 n, .slice nb nn nc]) (TokL.int (TokL.int (TokL.int (TokL.int (TokL.int (TokL.slice TokL.nil)))))) (es := MpFNG2e) (fs := MpFNG2f) (w := w) (G := 0) (tabs := []) (n := 900) (f := 8) (args := #[vG [kf 0, kf 1], kf 2, kf 4, kf 5]) (v := vN) ((AllOKW.app (AllOKW.app (okGe (a := P) (c := 1) rfl rfl (by omega)).w (okLe (a := P) (c := 4096) rfl rfl (by omega)).w) (okLt (a := T) (c := 1) rfl rfl (by omega)).w)) (fun e he => by cases he) hG (tabR_nil w) rfl (by decide +kernel) (isNil_eq MpFNG2t))
  by_cases h3 : T ≤ 64
  rotate_left
  · exact key_MpF rfl (ev_tokX (P := Tryz.prog) (l := [.int .i64 P, .int .i64 T, .int .i64 t, .int .i64 p, .int .i64 n, .slice nb nn nc]) (TokL.int (TokL.int (TokL.int (TokL.int (TokL.int (TokL.slice TokL.nil)))))) (es := MpFNG3e) (fs := MpFNG3f) (w := w) (G := 0) (tabs := []) (n := 900) (f := 8) (args := #[vG [kf 0, kf 1], kf 2, kf 4, kf 5]) (v := vN) ((AllOKW.app (AllOKW.app (AllOKW.app (okGe (a := P) (c := 1) rfl rfl (by omega)).w (okLe (a := P) (c := 4096) rfl rfl (by omega)).w) (okGe (a := T) (c := 1) rfl rfl (by omega)).w) (okGt (a := T) (c := 64) rfl rfl (by omega)).w)) (fun e he => by cases he) hG (tabR_nil w) rfl (by decide +kernel) (isNil_eq MpFNG3t))
  exact absurd ⟨h0, h1, h2, h3⟩ hL
theorem MpFNB (P T t p n : Int) (nb : Option Addr) (nn nc : Nat) (w : World) (hG : 0 ≤ w.heap.size) (hL : ¬ MayL P T) : Calls Tryz.prog 21 #[.agg #[.int .i64 P, .int .i64 T], .int .i64 t, .int .i64 p, .int .i64 n] w fun e w' => e = .returned (vN) ∧ Ext w w' := by
  by_cases h0 : 1 ≤ P
  rotate_left
  · exact key_MpF rfl (ev_tokX (P := Tryz.prog) (l := [.int .i64 P, .int .i64 T, .int .i64 t, .int .i64 p, .int .i64 n, .slice nb nn nc]) (TokL.int (TokL.int (TokL.int (TokL.int (TokL.int (TokL.slice TokL.nil)))))) (es := MpFNB0e) (fs := MpFNB0f) (w := w) (G := 0) (tabs := []) (n := 900) (f := 21) (args := #[vG [kf 0, kf 1], kf 2, kf 3, kf 4]) (v := vN) ((okLt (a := P) (c := 1) rfl rfl (by omega)).w) (fun e he => by cases he) hG (tabR_nil w) rfl (by decide +kernel) (isNil_eq MpFNB0t))
  by_cases h1 : P ≤ 4096
  rotate_left
  · exact key_MpF rfl (ev_tokX (P := Tryz.prog) (l := [.int .i64 P, .int .i64 T, .int .i64 t, .int .i64 p, .int .i64 n, .slice nb nn nc]) (TokL.int (TokL.int (TokL.int (TokL.int (TokL.int (TokL.slice TokL.nil)))))) (es := MpFNB1e) (fs := MpFNB1f) (w := w) (G := 0) (tabs := []) (n := 900) (f := 21) (args := #[vG [kf 0, kf 1], kf 2, kf 3, kf 4]) (v := vN) ((AllOKW.app (okGe (a := P) (c := 1) rfl rfl (by omega)).w (okGt (a := P) (c := 4096) rfl rfl (by omega)).w)) (fun e he => by cases he) hG (tabR_nil w) rfl (by decide +kernel) (isNil_eq MpFNB1t))
  by_cases h2 : 1 ≤ T
  rotate_left
  · exact key_MpF rfl (ev_tokX (P := Tryz.prog) (l := [.int .i64 P, .int .i64 T, .int .i64 t, .int .i64 p, .int .i64 n, .slice nb nn nc]) (TokL.int (TokL.int (TokL.int (TokL.int (TokL.int (TokL.slice TokL.nil)))))) (es := MpFNB2e) (fs := MpFNB2f) (w := w) (G := 0) (tabs := []) (n := 900) (f := 21) (args := #[vG [kf 0, kf 1], kf 2, kf 3, kf 4]) (v := vN) ((AllOKW.app (AllOKW.app (okGe (a := P) (c := 1) rfl rfl (by omega)).w (okLe (a := P) (c := 4096) rfl rfl (by omega)).w) (okLt (a := T) (c := 1) rfl rfl (by omega)).w)) (fun e he => by cases he) hG (tabR_nil w) rfl (by decide +kernel) (isNil_eq MpFNB2t))
  by_cases h3 : T ≤ 64
  rotate_left
  · exact key_MpF rfl (ev_tokX (P := Tryz.prog) (l := [.int .i64 P, .int .i64 T, .int .i64 t, .int .i64 p, .int .i64 n, .slice nb nn nc]) (TokL.int (TokL.int (TokL.int (TokL.int (TokL.int (TokL.slice TokL.nil)))))) (es := MpFNB3e) (fs := MpFNB3f) (w := w) (G := 0) (tabs := []) (n := 900) (f := 21) (args := #[vG [kf 0, kf 1], kf 2, kf 3, kf 4]) (v := vN) ((AllOKW.app (AllOKW.app (AllOKW.app (okGe (a := P) (c := 1) rfl rfl (by omega)).w (okLe (a := P) (c := 4096) rfl rfl (by omega)).w) (okGe (a := T) (c := 1) rfl rfl (by omega)).w) (okGt (a := T) (c := 64) rfl rfl (by omega)).w)) (fun e he => by cases he) hG (tabR_nil w) rfl (by decide +kernel) (isNil_eq MpFNB3t))
  exact absurd ⟨h0, h1, h2, h3⟩ hL
end Go.Proofs.YthggcmhmjkmjnaaGreat
