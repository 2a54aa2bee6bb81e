/- Walk: the document's Live. -/
import Derived.Test.YtpohnehcnonjhaaDoorPut
import Derived.Test.YtpohnehcnonjhaaDoorSlotD
namespace Go.Proofs.YtpohnehcnonjhaaDoor
open Go.RowKit
set_option linter.unusedVariables false
set_option linter.unusedSimpArgs false

def LivP (x : SpanD) (g : Int) (k : Nat) : Prop := BegP x.page x.cls k ∧ slotC x g k = 2
/-- The first k slots of a span, each that lives put in its place. -/
noncomputable def slotsTo (x : SpanD) (g : Int) (acc : List Int) : Nat → List Int
  | 0 => acc
  | k + 1 => if B (LivP x g k) then putL (slotsTo x g acc k) (begC x.page x.cls k) else slotsTo x g acc k
noncomputable def liveTo (sp : List SpanD) (g : Int) : Nat → List Int
  | 0 => []
  | i + 1 => slotsTo (ix noSpan sp i) g (liveTo sp g i) (clsS (ix noSpan sp i).cls).toNat
theorem putL_len : ∀ (l : List Int) (x : Int), (putL l x).length ≤ l.length + 1
  | [], x => by simp [putL]
  | y :: ys, x => by
    have := putL_len ys x
    unfold putL
    split
    · simp; omega
    · split <;> simp
theorem slotsTo_len (x : SpanD) (g : Int) (acc : List Int) : ∀ k, (slotsTo x g acc k).length ≤ acc.length + k
  | 0 => Nat.le_refl _
  | k + 1 => by
    have h := slotsTo_len x g acc k
    have := putL_len (slotsTo x g acc k) (begC x.page x.cls k)
    unfold slotsTo
    split <;> omega
theorem slotsTo_yes {x : SpanD} {g : Int} {acc : List Int} {k : Nat} (h : LivP x g k) : slotsTo x g acc (k + 1) = putL (slotsTo x g acc k) (begC x.page x.cls k) := if_pos (B_yes h)
theorem slotsTo_no {x : SpanD} {g : Int} {acc : List Int} {k : Nat} (h : ¬ LivP x g k) : slotsTo x g acc (k + 1) = slotsTo x g acc k := if_neg (by rw [B_no h]; simp)
theorem liveTo_len (sp : List SpanD) (g : Int) : ∀ i, (liveTo sp g i).length ≤ 64 * i
  | 0 => Nat.le_refl _
  | i + 1 => by
    have h := liveTo_len sp g i
    have h2 := slotsTo_len (ix noSpan sp i) g (liveTo sp g i) (clsS (ix noSpan sp i).cls).toNat
    have h3 := clsS_bd (ix noSpan sp i).cls
    unfold liveTo
    omega

end Go.Proofs.YtpohnehcnonjhaaDoor
