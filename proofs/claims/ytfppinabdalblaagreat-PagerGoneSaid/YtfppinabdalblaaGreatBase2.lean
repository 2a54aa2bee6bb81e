/- More plain words: append of a whole slice, in a list of operations. -/
import Derived.Test.YtfppinabdalblaaGreatBase
namespace Go.Proofs.YtfppinabdalblaaGreat
open Go.RowKit
set_option linter.unusedVariables false
set_option linter.unusedSimpArgs false

theorem OwnS.lit0 (w : World) (e : TypeId) (size : Nat) (F : Nat → Value) : OwnS (w.alloc (.cells #[] e)) w.heap.size e size (.slice (some ⟨w.heap.size, 0, none⟩) 0 0) 0 F := by
  have := World.ownsRow_lit (base := w.heap.size) (e := e) (size := size) w #[] 0 (Nat.le_refl _) (by unfold maxLen; omega) (by simp)
  unfold OwnS
  simpa using this

theorem wpList_pushAll {P : Program} {w : World} {ops : Array Oper} {rest : List Oper} {o : Oper} {a : Act} {Q : Exit → Act → World → Prop} (hgd : o.guard = none) (s x : Operand) (t : TypeId)
    (ho : o.op = .call { callee := .builtin .append, args := #[s, x], argTypes := #[t, t] })
    (base : Nat) (e : TypeId) (i : TypeInfo) (z : Value) (size bytes : Nat) (ht : P.underlying t = some (.slice e)) (hi : P.info? e = some i) (hz : i.zero = some z)
    (hsize : i.size = size) (hby : i.bytes = bytes) (hzs : z.cells.size = size) (hsz : 0 < size)
    (v : Value) (n : Nat) (F : Nat → Value) (hs : a.eval s = v) (hown : OwnS w base e size v n F)
    (A : Option Addr) (m c : Nat) (G : Nat → Value) (hx : a.eval x = .slice A m c) (hr : SlR w A m size G) (h1 : ∀ j, j < m * size → (G j).oneCell' = true)
    (h63 : n + m ≤ maxLen) (hbytes : (n + m) * bytes ≤ 140737488355328) (hbase : base ≤ w.heap.size)
    (F' : Nat → Value) (hF1 : ∀ j, j < n * size → F' j = F j) (hF2 : ∀ j, j < m * size → F' (n * size + j) = G j) (N : Nat) (hN : n + m = N)
    (h : ∀ A' c' w', OwnS w' base e size (.slice A' N c') N F' → w.grownBy w' v.ownBlock → (∀ w0, Ext w0 w → w0.heap.size ≤ base → Ext w0 w') → ((Value.slice A' N c').ownBlock = v.ownBlock ∨ (Value.slice A' N c').ownBlock = some w.heap.size) → wpList P ops Q rest (a.put o.dst (.slice A' N c')) w') : wpList P ops Q (o :: rest) a w := by
  subst hN
  refine wpList_plain hgd fun _ hK => wp_pushAll s x t ho base e i z size bytes ht hi hz hsize hby hzs hsz v n F hs hown A m c G hx hr h1 h63 hbytes hbase F' hF1 hF2 fun v' w' h1 h2 h3 h4 => ?_
  obtain ⟨A', c', rfl, _, _⟩ := h1.form
  exact hK _ _ (h A' c' w' h1 h2 h3 h4)

/-- x[a:b] -/
theorem SlR.cut {w : World} {A : Option Addr} {n sz : Nat} {F : Nat → Value} (h : SlR w A n sz F) {a b c : Nat} (hab : a ≤ b) (hbn : b ≤ n) (hc : n ≤ c) (G : Nat → Value) (hG : ∀ j, F (a * sz + j) = G j) :
    SlR w (if c = a then A else A.map (·.add (a * sz))) (b - a) sz G := by
  intro hn
  obtain ⟨bl, off, rfl, hcell⟩ := h (by omega)
  rw [if_neg (by omega)]
  refine ⟨bl, off + a * sz, ?_, fun j hj => ?_⟩
  · simp only [Option.map_some, Option.some.injEq]
    unfold Addr.add
    split
    · rename_i e; simp [e]
    · rfl
  · rw [← hG j, Nat.add_assoc]
    refine hcell _ ?_
    have : (a + (b - a)) * sz ≤ n * sz := Nat.mul_le_mul_right _ (by omega)
    rw [Nat.add_mul] at this
    omega

theorem SlR.cut' {w : World} {A : Option Addr} {n sz : Nat} {F : Nat → Value} (h : SlR w A n sz F) {a d c : Nat} (hbn : a + d ≤ n) (hc : n ≤ c) (hca : ¬ c = a) (G : Nat → Value) (hG : ∀ j, F (a * sz + j) = G j) :
    SlR w (A.map (fun x => x.add (a * sz))) d sz G := by
  have := h.cut (a := a) (b := a + d) (c := c) (by omega) hbn hc G hG
  rw [if_neg hca, Nat.add_sub_cancel_left] at this
  exact this
end Go.Proofs.YtfppinabdalblaaGreat
