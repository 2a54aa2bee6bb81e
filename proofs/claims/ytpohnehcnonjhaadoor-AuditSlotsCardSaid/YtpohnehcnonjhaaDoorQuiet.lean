/- Walk: audit.Quiet. -/
import Derived.Test.YtpohnehcnonjhaaDoorWhole
namespace Go.Proofs.YtpohnehcnonjhaaDoor
open Go.RowKit
set_option linter.unusedVariables false
set_option linter.unusedSimpArgs false

/-- 30.3: at rest. -/
def SpanQ (gen : Int) (x : SpanD) : Prop := x.phase = 1 ∧ x.gen = gen ∧ x.alloc ≠ 0
def QuietP (P gen : Int) (fr : List RunD) (sp : List SpanD) (hd : List HandD) : Prop :=
  WholeP P (pcs fr sp hd) ∧ hd.length = 0 ∧ (∀ i, i < sp.length → SpanQ gen (ix noSpan sp i)) ∧ ∀ i, 1 ≤ i → i < fr.length → (ix noRun fr (i - 1)).a + (ix noRun fr (i - 1)).n < (ix noRun fr i).a

theorem whole_any (fr : List RunD) (sp : List SpanD) (hd : List HandD) (fA sA hA : Option Addr) (fc sc hc : Nat) (P : Int) (w : World) (hfl : fr.length ≤ maxLen) (hsl : sp.length ≤ maxLen) (hhl : hd.length ≤ maxLen)
    (hF : RunsR w fA fr) (hS : SpansR w sA sp) (hH : HandsR w hA hd) :
    Calls Tryd.prog 24 #[.int .i64 P, .slice fA fr.length fc, .slice sA sp.length sc, .slice hA hd.length hc] w fun e w' =>
      e = .returned (.bool (B (WholeP P (pcs fr sp hd)))) ∧ Ext w w' := by
  by_cases h : 1 ≤ P ∧ P ≤ 4096
  · obtain ⟨Q, rfl⟩ := Int.eq_ofNat_of_zero_le (show 0 ≤ P by omega)
    exact whole_yes fr sp hd fA sA hA fc sc hc Q w hfl hsl hhl (by omega) (by omega) hF hS hH
  · rw [B_no (fun hw : WholeP P (pcs fr sp hd) => h ⟨hw.1, hw.2.1⟩)]
    exact whole_no fA sA hA _ fc _ sc _ hc P w (by omega)
theorem whole_run {P : Int} {fr : List RunD} {sp : List SpanD} {hd : List HandD} (h : WholeP P (pcs fr sp hd)) {i : Nat} (hi : i < fr.length) : 0 ≤ (ix noRun fr i).a ∧ (ix noRun fr i).a < 4096 ∧ 1 ≤ (ix noRun fr i).n ∧ (ix noRun fr i).n ≤ 4096 := by
  have hm := h.2.2.1.1 ⟨1, (ix noRun fr i).a, (ix noRun fr i).n⟩ (by
    unfold pcs
    exact List.mem_append.2 (.inl (List.mem_map.2 ⟨ix noRun fr i, ix_mem hi, rfl⟩)))
  exact hm.1

end Go.Proofs.YtpohnehcnonjhaaDoor
