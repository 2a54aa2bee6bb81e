/- Walk: the document's put. -/
import Derived.Test.YtpohnehcnonjhaaDoorRef30a
import Derived.Test.YtpohnehcnonjhaaDoorOwn
import Derived.Test.YtpohnehcnonjhaaDoorParts
namespace Go.Proofs.YtpohnehcnonjhaaDoor
open Go.RowKit
set_option linter.unusedVariables false
set_option linter.unusedSimpArgs false

/-- append of a whole slice to a slice of the call's own, as a step of a region that draws its order. -/
theorem step_pushAll {P : Program} {w : World} {ops : Array Oper} {o : Oper} {a : Act} {K : Act → World → Prop} {Q : Exit → Act → World → Prop} {E : Prop} (hgd : o.guard = none) (s x : Operand) (t : TypeId)
    (ho : o.op = .call { callee := .builtin .append, args := #[s, x], argTypes := #[t, t] })
    (base : Nat) (e : TypeId) (i : TypeInfo) (z : Value) (size bytes : Nat) (ht : P.underlying t = some (.slice e)) (hi : P.info? e = some i) (hz : i.zero = some z)
    (hsize : i.size = size) (hby : i.bytes = bytes) (hzs : z.cells.size = size) (hsz : 0 < size)
    (v : Value) (n : Nat) (F : Nat → Value) (hs : a.eval s = v) (hown : OwnS w base e size v n F)
    (A : Option Addr) (m c : Nat) (G : Nat → Value) (hx : a.eval x = .slice A m c) (hr : SlR w A m size G) (h1 : ∀ j, j < m * size → (G j).oneCell' = true)
    (h63 : n + m ≤ maxLen) (hbytes : (n + m) * bytes ≤ 140737488355328) (hbase : base ≤ w.heap.size)
    (F' : Nat → Value) (hF1 : ∀ j, j < n * size → F' j = F j) (hF2 : ∀ j, j < m * size → F' (n * size + j) = G j)
    (h : ∀ v' w', OwnS w' base e size v' (n + m) F' → w.grownBy w' v.ownBlock → (∀ w0, Ext w0 w → w0.heap.size ≤ base → Ext w0 w') → (v'.ownBlock = v.ownBlock ∨ v'.ownBlock = some w.heap.size) → K (a.put o.dst v') w') : if Region.wanted o (yielded ops a.tmps) = true then Oper.wp P o a w K Q else E := by
  have hw : Region.wanted o (yielded ops a.tmps) = true := by simp [Region.wanted, hgd]
  rw [if_pos hw]
  exact wp_pushAll s x t ho base e i z size bytes ht hi hz hsize hby hzs hsz v n F hs hown A m c G hx hr h1 h63 hbytes hbase F' hF1 hF2 h

/-- A slice that was made empty. -/
theorem own_empty {w : World} {g : Nat} {e : TypeId} (size base : Nat) (F : Nat → Value) (h : Blk w g e #[]) (hb : base ≤ g) : OwnS w base e size (.slice (some ⟨g, 0, none⟩) 0 0) 0 F := by
  refine ⟨by simp, .inr ⟨g, 0, #[], rfl, hb, h, Nat.le_refl _, Nat.zero_le _, by simp, by simp⟩⟩

/-- A number in its place, once. -/
def putL : List Int → Int → List Int
  | [], x => [x]
  | y :: ys, x => if y < x then y :: putL ys x else if y = x then y :: ys else x :: y :: ys
theorem putL_same : ∀ {l : List Int} {x : Int} {i : Nat}, (∀ j, j < i → ix 0 l j < x) → i < l.length → ix 0 l i = x → putL l x = l
  | [], x, i, _, h, _ => absurd h (by simp)
  | y :: ys, x, 0, _, _, h => by
    have : y = x := h
    unfold putL
    rw [if_neg (by omega), if_pos this]
  | y :: ys, x, i + 1, h1, h2, h3 => by
    have h0 : y < x := h1 0 (by omega)
    unfold putL
    rw [if_pos h0, putL_same (l := ys) (i := i) (fun j hj => h1 (j + 1) (by omega)) (by simpa using h2) h3]
theorem putL_new : ∀ {l : List Int} {x : Int} {i : Nat}, (∀ j, j < i → ix 0 l j < x) → i ≤ l.length → (i < l.length → x < ix 0 l i) → putL l x = l.take i ++ x :: l.drop i
  | [], x, i, _, h, _ => by
    obtain rfl : i = 0 := by simpa using h
    rfl
  | y :: ys, x, 0, _, _, h => by
    have : x < y := h (by simp)
    unfold putL
    rw [if_neg (by omega), if_neg (by omega)]
    rfl
  | y :: ys, x, i + 1, h1, h2, h3 => by
    have h0 : y < x := h1 0 (by omega)
    unfold putL
    rw [if_pos h0, putL_new (l := ys) (i := i) (fun j hj => h1 (j + 1) (by omega)) (by simpa using h2) (fun h => h3 (by simpa using h))]
    rfl

theorem Tryd.infoIntQ : (Tryd.prog.info? 3).map (fun i => (i.zero, i.size, i.bytes)) = some (some (.int .i64 0), 1, 8) := by kernel_rfl
theorem own_pre {w : World} {b e g n c : Nat} {F : Nat → Value} (h : OwnS w b e 1 (.slice (some ⟨g, 0, none⟩) n c) n F) {k : Nat} (hk : k ≤ n) : SlR w (some ⟨g, 0, none⟩) k 1 F :=
  fun _ => ⟨g, 0, rfl, fun j hj => by rw [Nat.zero_add]; exact h.cellAt (by omega)⟩
theorem own_post {w : World} {b e g n c : Nat} {F : Nat → Value} (h : OwnS w b e 1 (.slice (some ⟨g, 0, none⟩) n c) n F) {k : Nat} : SlR w (some ⟨g, k, none⟩) (n - k) 1 (fun j => F (k + j)) :=
  fun _ => ⟨g, k, rfl, fun j hj => h.cellAt (by omega)⟩
theorem slr_one {w : World} {g : Nat} {t : TypeId} {v : Value} (h : Blk w g t #[v]) : SlR w (some ⟨g, 0, none⟩) 1 1 (fun _ => v) :=
  fun _ => ⟨g, 0, rfl, fun j hj => by
    obtain rfl : j = 0 := by omega
    exact h.cell rfl⟩
theorem new_laws {l M : List Int} {x : Int} {k n : Nat} (h : M = l.take k ++ x :: l.drop k) (hn : l.length = n) (hk : k ≤ n) :
    (∀ j, j < k → intv M j = intv l j) ∧ intv M k = .int .i64 x ∧ (∀ j, j < n - k → intv M (k + 1 + j) = intv l (k + j)) ∧ M.length = n + 1 := by
  subst h
  have e : (l.take k).length = k := by rw [List.length_take]; omega
  refine ⟨fun j hj => ?_, ?_, fun j hj => ?_, ?_⟩
  · unfold intv ix
    rw [List.getD_eq_getElem?_getD, List.getD_eq_getElem?_getD, List.getElem?_append_left (by omega), List.getElem?_take, if_pos hj]
  · unfold intv ix
    rw [List.getD_eq_getElem?_getD, List.getElem?_append_right (by omega), e]
    simp
  · unfold intv ix
    rw [List.getD_eq_getElem?_getD, List.getD_eq_getElem?_getD, List.getElem?_append_right (by omega), e, show k + 1 + j - k = j + 1 by omega, List.getElem?_cons_succ, List.getElem?_drop]
  · rw [List.length_append, List.length_cons, List.length_drop, e]; omega

theorem intv_one (l : List Int) (j : Nat) : (intv l j).oneCell' = true := rfl
def PutOut (w : World) (b : Nat) (l : List Int) (e : Ending) (w' : World) : Prop := (∃ v, e = .returned v ∧ OwnS w' b 3 1 v l.length (intv l)) ∧ Ext w w'

end Go.Proofs.YtpohnehcnonjhaaDoor
