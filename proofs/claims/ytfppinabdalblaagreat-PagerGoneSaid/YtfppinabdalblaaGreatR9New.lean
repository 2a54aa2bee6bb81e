/- The document's free runs, of 1 to 30 pages: there are some (printed). -/
import Derived.Test.YtfppinabdalblaaGreatRefl22
import Derived.Test.YtfppinabdalblaaGreatProg
namespace Go.Proofs.YtfppinabdalblaaGreat
open Go.RowKit
set_option linter.unusedVariables false
set_option maxRecDepth 100000
def isPtr (r : Option (Value × World)) : Bool := match r with
  | some (.pointer (some _), _) => true
  | _ => false
theorem ev_ptr {P : Program} {G : Nat} {w : World} {n : Nat} {f : FuncId} {args : Array Value} (hG : G ≤ w.heap.size) (hc : args.toList.all (closedN 8) = true) (h : isPtr (evCall (ev P Orc.none G n) P Orc.none [] f args (baseWorld G [])) = true) :
    Calls P f args w fun e w' => ∃ v', e = .returned v' ∧ OneC v' ∧ Ext w w' := by
  have hσ : ∀ j, OneC ((fun _ => Value.bool true : Nat → Value) j) := fun _ => trivial
  cases hr : evCall (ev P Orc.none G n) P Orc.none [] f args (baseWorld G []) with
  | none => rw [hr] at h; cases h
  | some p =>
    obtain ⟨v, w1⟩ := p
    rw [hr] at h
    have ha : RAr (fun _ => Value.bool true) ⟨id, (· < G), fun _ => False, fun _ _ _ => False⟩ args args := ⟨rfl, fun i u u' h1 h2 => by rw [h1] at h2; cases h2; exact closed_rv (all_get hc h1)⟩
    refine (ev_calls hσ (OrcOK.none P _ w w.heap.size) hG (tabR_nil w) (by rw [hr]; rfl) ha).mono ?_
    rintro e w' ⟨v', B, rfl, hv, hE⟩
    refine ⟨v', rfl, ?_, hE⟩
    unfold isPtr at h
    split at h
    · rename_i a w2 heq
      cases heq
      cases hv
      trivial
    · cases h
theorem R9_1t : isPtr (evCall (ev Tryz.prog Orc.none 0 2000) Tryz.prog Orc.none [] 44 #[vI 1, vZ] (baseWorld 0 [])) = true := by decide +kernel
theorem R9_2t : isPtr (evCall (ev Tryz.prog Orc.none 0 2000) Tryz.prog Orc.none [] 44 #[vI 2, vZ] (baseWorld 0 [])) = true := by decide +kernel
theorem R9_3t : isPtr (evCall (ev Tryz.prog Orc.none 0 2000) Tryz.prog Orc.none [] 44 #[vI 3, vZ] (baseWorld 0 [])) = true := by decide +kernel
theorem R9_4t : isPtr (evCall (ev Tryz.prog Orc.none 0 2000) Tryz.prog Orc.none [] 44 #[vI 4, vZ] (baseWorld 0 [])) = true := by decide +kernel
theorem R9_5t : isPtr (evCall (ev Tryz.prog Orc.none 0 2000) Tryz.prog Orc.none [] 44 #[vI 5, vZ] (baseWorld 0 [])) = true := by decide +kernel
theorem R9_6t : isPtr (evCall (ev Tryz.prog Orc.none 0 2000) Tryz.prog Orc.none [] 44 #[vI 6, vZ] (baseWorld 0 [])) = true := by decide +kernel
theorem R9_7t : isPtr (evCall (ev Tryz.prog Orc.none 0 2000) Tryz.prog Orc.none [] 44 #[vI 7, vZ] (baseWorld 0 [])) = true := by decide +kernel
theorem R9_8t : isPtr (evCall (ev Tryz.prog Orc.none 0 2000) Tryz.prog Orc.none [] 44 #[vI 8, vZ] (baseWorld 0 [])) = true := by decide +kernel
theorem R9_9t : isPtr (evCall (ev Tryz.prog Orc.none 0 2000) Tryz.prog Orc.none [] 44 #[vI 9, vZ] (baseWorld 0 [])) = true := by decide +kernel
theorem R9_10t : isPtr (evCall (ev Tryz.prog Orc.none 0 2000) Tryz.prog Orc.none [] 44 #[vI 10, vZ] (baseWorld 0 [])) = true := by decide +kernel
theorem R9_11t : isPtr (evCall (ev Tryz.prog Orc.none 0 2000) Tryz.prog Orc.none [] 44 #[vI 11, vZ] (baseWorld 0 [])) = true := by decide +kernel
theorem R9_12t : isPtr (evCall (ev Tryz.prog Orc.none 0 2000) Tryz.prog Orc.none [] 44 #[vI 12, vZ] (baseWorld 0 [])) = true := by decide +kernel
theorem R9_13t : isPtr (evCall (ev Tryz.prog Orc.none 0 2000) Tryz.prog Orc.none [] 44 #[vI 13, vZ] (baseWorld 0 [])) = true := by decide +kernel
theorem R9_14t : isPtr (evCall (ev Tryz.prog Orc.none 0 2000) Tryz.prog Orc.none [] 44 #[vI 14, vZ] (baseWorld 0 [])) = true := by decide +kernel
theorem R9_15t : isPtr (evCall (ev Tryz.prog Orc.none 0 2000) Tryz.prog Orc.none [] 44 #[vI 15, vZ] (baseWorld 0 [])) = true := by decide +kernel
theorem R9_16t : isPtr (evCall (ev Tryz.prog Orc.none 0 2000) Tryz.prog Orc.none [] 44 #[vI 16, vZ] (baseWorld 0 [])) = true := by decide +kernel
theorem R9_17t : isPtr (evCall (ev Tryz.prog Orc.none 0 2000) Tryz.prog Orc.none [] 44 #[vI 17, vZ] (baseWorld 0 [])) = true := by decide +kernel
theorem R9_18t : isPtr (evCall (ev Tryz.prog Orc.none 0 2000) Tryz.prog Orc.none [] 44 #[vI 18, vZ] (baseWorld 0 [])) = true := by decide +kernel
theorem R9_19t : isPtr (evCall (ev Tryz.prog Orc.none 0 2000) Tryz.prog Orc.none [] 44 #[vI 19, vZ] (baseWorld 0 [])) = true := by decide +kernel
theorem R9_20t : isPtr (evCall (ev Tryz.prog Orc.none 0 2000) Tryz.prog Orc.none [] 44 #[vI 20, vZ] (baseWorld 0 [])) = true := by decide +kernel
theorem R9_21t : isPtr (evCall (ev Tryz.prog Orc.none 0 2000) Tryz.prog Orc.none [] 44 #[vI 21, vZ] (baseWorld 0 [])) = true := by decide +kernel
theorem R9_22t : isPtr (evCall (ev Tryz.prog Orc.none 0 2000) Tryz.prog Orc.none [] 44 #[vI 22, vZ] (baseWorld 0 [])) = true := by decide +kernel
theorem R9_23t : isPtr (evCall (ev Tryz.prog Orc.none 0 2000) Tryz.prog Orc.none [] 44 #[vI 23, vZ] (baseWorld 0 [])) = true := by decide +kernel
theorem R9_24t : isPtr (evCall (ev Tryz.prog Orc.none 0 2000) Tryz.prog Orc.none [] 44 #[vI 24, vZ] (baseWorld 0 [])) = true := by decide +kernel
theorem R9_25t : isPtr (evCall (ev Tryz.prog Orc.none 0 2000) Tryz.prog Orc.none [] 44 #[vI 25, vZ] (baseWorld 0 [])) = true := by decide +kernel
theorem R9_26t : isPtr (evCall (ev Tryz.prog Orc.none 0 2000) Tryz.prog Orc.none [] 44 #[vI 26, vZ] (baseWorld 0 [])) = true := by decide +kernel
theorem R9_27t : isPtr (evCall (ev Tryz.prog Orc.none 0 2000) Tryz.prog Orc.none [] 44 #[vI 27, vZ] (baseWorld 0 [])) = true := by decide +kernel
theorem R9_28t : isPtr (evCall (ev Tryz.prog Orc.none 0 2000) Tryz.prog Orc.none [] 44 #[vI 28, vZ] (baseWorld 0 [])) = true := by decide +kernel
theorem R9_29t : isPtr (evCall (ev Tryz.prog Orc.none 0 2000) Tryz.prog Orc.none [] 44 #[vI 29, vZ] (baseWorld 0 [])) = true := by decide +kernel
theorem R9_30t : isPtr (evCall (ev Tryz.prog Orc.none 0 2000) Tryz.prog Orc.none [] 44 #[vI 30, vZ] (baseWorld 0 [])) = true := by decide +kernel
theorem r9new_any (P : Int) (w : World) (h : 1 ≤ P ∧ P ≤ 30) : Calls Tryz.prog 44 #[.int .i64 P, .slice none 0 0] w fun e w' => ∃ v', e = .returned v' ∧ OneC v' ∧ Ext w w' := by
  rcases (show P = 1 ∨ P = 2 ∨ P = 3 ∨ P = 4 ∨ P = 5 ∨ P = 6 ∨ P = 7 ∨ P = 8 ∨ P = 9 ∨ P = 10 ∨ P = 11 ∨ P = 12 ∨ P = 13 ∨ P = 14 ∨ P = 15 ∨ P = 16 ∨ P = 17 ∨ P = 18 ∨ P = 19 ∨ P = 20 ∨ P = 21 ∨ P = 22 ∨ P = 23 ∨ P = 24 ∨ P = 25 ∨ P = 26 ∨ P = 27 ∨ P = 28 ∨ P = 29 ∨ P = 30 by omega) with rfl | rfl | rfl | rfl | rfl | rfl | rfl | rfl | rfl | rfl | rfl | rfl | rfl | rfl | rfl | rfl | rfl | rfl | rfl | rfl | rfl | rfl | rfl | rfl | rfl | rfl | rfl | rfl | rfl | rfl
  · exact ev_ptr (G := 0) (n := 2000) (Nat.zero_le _) rfl R9_1t
  · exact ev_ptr (G := 0) (n := 2000) (Nat.zero_le _) rfl R9_2t
  · exact ev_ptr (G := 0) (n := 2000) (Nat.zero_le _) rfl R9_3t
  · exact ev_ptr (G := 0) (n := 2000) (Nat.zero_le _) rfl R9_4t
  · exact ev_ptr (G := 0) (n := 2000) (Nat.zero_le _) rfl R9_5t
  · exact ev_ptr (G := 0) (n := 2000) (Nat.zero_le _) rfl R9_6t
  · exact ev_ptr (G := 0) (n := 2000) (Nat.zero_le _) rfl R9_7t
  · exact ev_ptr (G := 0) (n := 2000) (Nat.zero_le _) rfl R9_8t
  · exact ev_ptr (G := 0) (n := 2000) (Nat.zero_le _) rfl R9_9t
  · exact ev_ptr (G := 0) (n := 2000) (Nat.zero_le _) rfl R9_10t
  · exact ev_ptr (G := 0) (n := 2000) (Nat.zero_le _) rfl R9_11t
  · exact ev_ptr (G := 0) (n := 2000) (Nat.zero_le _) rfl R9_12t
  · exact ev_ptr (G := 0) (n := 2000) (Nat.zero_le _) rfl R9_13t
  · exact ev_ptr (G := 0) (n := 2000) (Nat.zero_le _) rfl R9_14t
  · exact ev_ptr (G := 0) (n := 2000) (Nat.zero_le _) rfl R9_15t
  · exact ev_ptr (G := 0) (n := 2000) (Nat.zero_le _) rfl R9_16t
  · exact ev_ptr (G := 0) (n := 2000) (Nat.zero_le _) rfl R9_17t
  · exact ev_ptr (G := 0) (n := 2000) (Nat.zero_le _) rfl R9_18t
  · exact ev_ptr (G := 0) (n := 2000) (Nat.zero_le _) rfl R9_19t
  · exact ev_ptr (G := 0) (n := 2000) (Nat.zero_le _) rfl R9_20t
  · exact ev_ptr (G := 0) (n := 2000) (Nat.zero_le _) rfl R9_21t
  · exact ev_ptr (G := 0) (n := 2000) (Nat.zero_le _) rfl R9_22t
  · exact ev_ptr (G := 0) (n := 2000) (Nat.zero_le _) rfl R9_23t
  · exact ev_ptr (G := 0) (n := 2000) (Nat.zero_le _) rfl R9_24t
  · exact ev_ptr (G := 0) (n := 2000) (Nat.zero_le _) rfl R9_25t
  · exact ev_ptr (G := 0) (n := 2000) (Nat.zero_le _) rfl R9_26t
  · exact ev_ptr (G := 0) (n := 2000) (Nat.zero_le _) rfl R9_27t
  · exact ev_ptr (G := 0) (n := 2000) (Nat.zero_le _) rfl R9_28t
  · exact ev_ptr (G := 0) (n := 2000) (Nat.zero_le _) rfl R9_29t
  · exact ev_ptr (G := 0) (n := 2000) (Nat.zero_le _) rfl R9_30t
end Go.Proofs.YtfppinabdalblaaGreat
