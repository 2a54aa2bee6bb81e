/- dustpanlaw30.parts: what it lays, and its walk. -/
import Derived.Test.YtpohnehcnonjhaaDoorQuiet

namespace Go.Proofs.YtpohnehcnonjhaaDoor
open Go.RowKit
set_option linter.unusedVariables false
set_option linter.unusedSimpArgs false

/-! one more of a slice of runs, spans, hands -/
def run1 (x : RunD) (j : Nat) : Value := if j = 0 then .int .i64 x.a else .int .i64 x.n
def hand1 (x : HandD) (j : Nat) : Value := if j = 0 then .int .i64 x.thread else if j = 1 then .int .i64 x.a else .int .i64 x.n
def span1 (x : SpanD) (j : Nat) : Value :=
  match j with
  | 0 => .int .i64 x.page
  | 1 => .int .i64 x.pages
  | 2 => .int .i64 x.cls
  | 3 => .int .i64 x.gen
  | 4 => .int .i64 x.phase
  | 5 => .int .u64 x.alloc
  | _ => .int .u64 x.mark
theorem run1_one (x : RunD) : ∀ j, j < 2 → (run1 x j).oneCell' = true := fun j _ => by unfold run1; split <;> rfl
theorem hand1_one (x : HandD) : ∀ j, j < 3 → (hand1 x j).oneCell' = true := fun j _ => by unfold hand1; split <;> (try split) <;> rfl
theorem span1_one (x : SpanD) : ∀ j, j < 7 → (span1 x j).oneCell' = true := fun j _ => by unfold span1; split <;> rfl
theorem runv_old {l : List RunD} {x : RunD} {j : Nat} (h : j < l.length * 2) : runv (l ++ [x]) j = runv l j := by
  unfold runv; rw [ix_app_lt noRun l x (by omega)]
theorem runv_new {l : List RunD} {x : RunD} {j : Nat} (h : j < 2) : runv (l ++ [x]) (l.length * 2 + j) = run1 x j := by
  unfold runv run1
  rw [show (l.length * 2 + j) / 2 = l.length by omega, ix_app_end]
  rcases (by omega : j = 0 ∨ j = 1) with rfl | rfl
  · rw [if_pos (by omega), if_pos rfl]
  · rw [if_neg (by omega), if_neg (by omega)]
theorem handv_old {l : List HandD} {x : HandD} {j : Nat} (h : j < l.length * 3) : handv (l ++ [x]) j = handv l j := by
  unfold handv; rw [ix_app_lt noHand l x (by omega)]
theorem handv_new {l : List HandD} {x : HandD} {j : Nat} (h : j < 3) : handv (l ++ [x]) (l.length * 3 + j) = hand1 x j := by
  unfold handv hand1
  rw [show (l.length * 3 + j) / 3 = l.length by omega, ix_app_end]
  rcases (by omega : j = 0 ∨ j = 1 ∨ j = 2) with rfl | rfl | rfl
  · rw [if_pos (by omega), if_pos rfl]
  · rw [if_neg (by omega), if_pos (by omega), if_neg (by omega), if_pos rfl]
  · rw [if_neg (by omega), if_neg (by omega), if_neg (by omega), if_neg (by omega)]
theorem spanv_old {l : List SpanD} {x : SpanD} {j : Nat} (h : j < l.length * 7) : spanv (l ++ [x]) j = spanv l j := by
  unfold spanv; rw [ix_app_lt noSpan l x (by omega)]
theorem spanv_new {l : List SpanD} {x : SpanD} {j : Nat} (h : j < 7) : spanv (l ++ [x]) (l.length * 7 + j) = span1 x j := by
  unfold spanv span1
  rw [show (l.length * 7 + j) / 7 = l.length by omega, ix_app_end, show (l.length * 7 + j) % 7 = j by omega]
  rcases (by omega : j = 0 ∨ j = 1 ∨ j = 2 ∨ j = 3 ∨ j = 4 ∨ j = 5 ∨ j = 6) with rfl | rfl | rfl | rfl | rfl | rfl | rfl <;> rfl
theorem run_cells (w : World) (t : TypeId) (x : RunD) {j : Nat} (h : j < 2) : (w.alloc (.cells #[.int .i64 x.a, .int .i64 x.n] t)).cell? ((⟨w.heap.size, 0, none⟩ : Addr).add j) = some (run1 x j) := by
  rcases (by omega : j = 0 ∨ j = 1) with rfl | rfl
  · exact cell_new w _ t 0 _ rfl
  · exact cell_new w _ t 1 _ rfl
theorem hand_cells (w : World) (t : TypeId) (x : HandD) {j : Nat} (h : j < 3) : (w.alloc (.cells #[.int .i64 x.thread, .int .i64 x.a, .int .i64 x.n] t)).cell? ((⟨w.heap.size, 0, none⟩ : Addr).add j) = some (hand1 x j) := by
  rcases (by omega : j = 0 ∨ j = 1 ∨ j = 2) with rfl | rfl | rfl
  · exact cell_new w _ t 0 _ rfl
  · exact cell_new w _ t 1 _ rfl
  · exact cell_new w _ t 2 _ rfl
theorem span_cells (w : World) (t : TypeId) (x : SpanD) {j : Nat} (h : j < 7) : (w.alloc (.cells #[.int .i64 x.page, .int .i64 x.pages, .int .i64 x.cls, .int .i64 x.gen, .int .i64 x.phase, .int .u64 x.alloc, .int .u64 x.mark] t)).cell? ((⟨w.heap.size, 0, none⟩ : Addr).add j) = some (span1 x j) := by
  rcases (by omega : j = 0 ∨ j = 1 ∨ j = 2 ∨ j = 3 ∨ j = 4 ∨ j = 5 ∨ j = 6) with rfl | rfl | rfl | rfl | rfl | rfl | rfl
  · exact cell_new w _ t 0 _ rfl
  · exact cell_new w _ t 1 _ rfl
  · exact cell_new w _ t 2 _ rfl
  · exact cell_new w _ t 3 _ rfl
  · exact cell_new w _ t 4 _ rfl
  · exact cell_new w _ t 5 _ rfl
  · exact cell_new w _ t 6 _ rfl
theorem span_cells_drew (w : World) (t : TypeId) (x : SpanD) {j : Nat} (h : j < 7) : (w.alloc (.cells #[.int .i64 x.page, .int .i64 x.pages, .int .i64 x.cls, .int .i64 x.gen, .int .i64 x.phase, .int .u64 x.alloc, .int .u64 x.mark] t)).drew.cell? ((⟨w.heap.size, 0, none⟩ : Addr).add j) = some (span1 x j) := span_cells w t x h
theorem w_u64 {n : Int} (h0 : 0 ≤ n) (h1 : n < 18446744073709551616) : IntKind.u64.wrap n = n := by
  have h : IntKind.u64.wrap n = n % 18446744073709551616 := by simp [IntKind.wrap, IntKind.bits, IntKind.signed]
  rw [h]; exact Int.emod_eq_of_lt h0 h1
theorem Tryd.infoRun : (Tryd.prog.info? 47).map (fun i => (i.zero, i.size, i.bytes)) = some (some (.agg #[.int .i64 0, .int .i64 0]), 2, 16) := by kernel_rfl
theorem Tryd.infoHand : (Tryd.prog.info? 86).map (fun i => (i.zero, i.size, i.bytes)) = some (some (.agg #[.int .i64 0, .int .i64 0, .int .i64 0]), 3, 24) := by kernel_rfl
theorem Tryd.infoSpan : (Tryd.prog.info? 25).map (fun i => (i.zero, i.size, i.bytes)) = some (some (.agg #[.int .i64 0, .int .i64 0, .int .i64 0, .int .i64 0, .int .i64 0, .int .u64 0, .int .u64 0]), 7, 56) := by kernel_rfl

/-! what parts lays -/
theorem cntP_pcs (fr : List RunD) (sp : List SpanD) (hd : List HandD) (p : Int) : cntP (pcs fr sp hd) p = cntP (fr.map (fun x => ⟨1, x.a, x.n⟩)) p + (cntP (sp.map (fun x => ⟨2, x.page, x.pages⟩)) p + cntP (hd.map (fun x => ⟨3, x.a, x.n⟩)) p) := by
  unfold pcs; rw [cntP_app, cntP_app]
theorem cov_eq {k a n p : Int} : (if covB ⟨k, a, n⟩ p = true then 1 else 0) = if a ≤ p ∧ p < a + n then 1 else (0 : Nat) := by
  by_cases h : a ≤ p ∧ p < a + n
  · rw [if_pos h, if_pos (covB_iff.2 h)]
  · rw [if_neg h, if_neg (fun hh => h (covB_iff.1 hh))]
structure PI (i at_ : Nat) (fr : List RunD) (sp : List SpanD) (hd : List HandD) : Prop where
  hi : i ≤ at_
  hat : at_ ≤ 4 * i
  lf : fr.length ≤ i
  ls : sp.length ≤ i
  lh : hd.length ≤ i
  may : ∀ x ∈ pcs fr sp hd, MayPc x
  cnt : ∀ p, cntP (pcs fr sp hd) p = if 0 ≤ p ∧ p < (at_ : Int) then 1 else 0
  sq : ∀ j, j < sp.length → SpanQ 3 (ix noSpan sp j)
  gap : ∀ j, 1 ≤ j → j < fr.length → (ix noRun fr (j - 1)).a + (ix noRun fr (j - 1)).n < (ix noRun fr j).a
theorem PI.nil : PI 0 0 [] [] [] := ⟨by omega, by omega, by simp, by simp, by simp, fun x h => by simp [pcs] at h, fun p => by rw [if_neg (by omega)]; rfl, fun j hj => absurd hj (by simp), fun j h1 h2 => absurd h2 (by simp)⟩
theorem mem_pcs {fr : List RunD} {sp : List SpanD} {hd : List HandD} {x : Pc} : x ∈ pcs fr sp hd ↔ (∃ y ∈ fr, x = ⟨1, y.a, y.n⟩) ∨ (∃ y ∈ sp, x = ⟨2, y.page, y.pages⟩) ∨ (∃ y ∈ hd, x = ⟨3, y.a, y.n⟩) := by
  unfold pcs
  simp only [List.mem_append, List.mem_map]
  constructor
  · rintro (⟨y, hy, rfl⟩ | ⟨y, hy, rfl⟩ | ⟨y, hy, rfl⟩)
    · exact .inl ⟨y, hy, rfl⟩
    · exact .inr (.inl ⟨y, hy, rfl⟩)
    · exact .inr (.inr ⟨y, hy, rfl⟩)
  · rintro (⟨y, hy, rfl⟩ | ⟨y, hy, rfl⟩ | ⟨y, hy, rfl⟩)
    · exact .inl ⟨y, hy, rfl⟩
    · exact .inr (.inl ⟨y, hy, rfl⟩)
    · exact .inr (.inr ⟨y, hy, rfl⟩)
theorem cnt_step {at_ n : Nat} {c : Nat} {p : Int} (h : c = if 0 ≤ p ∧ p < (at_ : Int) then 1 else 0) : (c + if (at_ : Int) ≤ p ∧ p < at_ + n then 1 else 0) = if 0 ≤ p ∧ p < ((at_ + n : Nat) : Int) then 1 else 0 := by
  subst h
  by_cases h1 : 0 ≤ p ∧ p < (at_ : Int)
  · rw [if_pos h1, if_neg (by omega), if_pos (by omega)]
  · rw [if_neg h1]
    by_cases h2 : (at_ : Int) ≤ p ∧ p < at_ + n
    · rw [if_pos h2, if_pos (by omega)]
    · rw [if_neg h2, if_neg (by omega)]
theorem PI.free {i at_ n : Nat} {fr : List RunD} {sp : List SpanD} {hd : List HandD} (h : PI i at_ fr sp hd) (hi : i < 40) (h1 : 1 ≤ n) (h2 : n ≤ 4) (hl : fr.length = 0 ∨ (ix noRun fr (fr.length - 1)).a + (ix noRun fr (fr.length - 1)).n < at_) :
    PI (i + 1) (at_ + n) (fr ++ [⟨at_, n⟩]) sp hd := by
  have hA := h.hat
  refine ⟨by have := h.hi; omega, by omega, by have := h.lf; simp; omega, by have := h.ls; omega, by have := h.lh; omega, fun x hx => ?_, fun p => ?_, h.sq, fun j h1 h2 => ?_⟩
  · rcases mem_pcs.1 hx with ⟨y, hy, rfl⟩ | hh | hh
    · rcases List.mem_append.1 hy with hy | hy
      · exact h.may _ (mem_pcs.2 (.inl ⟨y, hy, rfl⟩))
      · simp at hy; subst hy; exact ⟨by show (0 : Int) ≤ at_; omega, by show (at_ : Int) < 4096; omega, by show (1 : Int) ≤ n; omega, by show (n : Int) ≤ 4096; omega⟩
    · exact h.may _ (mem_pcs.2 (.inr (.inl hh)))
    · exact h.may _ (mem_pcs.2 (.inr (.inr hh)))
  · rw [← cnt_step (h.cnt p), cntP_pcs, cntP_pcs, List.map_append, List.map_cons, List.map_nil, cntP_snoc, cov_eq]
    dsimp only
    omega
  · rw [List.length_append, List.length_singleton] at h2
    by_cases e : j = fr.length
    · subst e
      rw [ix_app_end, ix_app_lt noRun fr _ (by omega)]
      rcases hl with hl | hl
      · omega
      · exact hl
    · rw [ix_app_lt noRun fr _ (by omega), ix_app_lt noRun fr _ (by omega)]
      exact h.gap j h1 (by omega)
theorem PI.hand {i at_ n : Nat} {t : Int} {fr : List RunD} {sp : List SpanD} {hd : List HandD} (h : PI i at_ fr sp hd) (hi : i < 40) (h1 : 1 ≤ n) (h2 : n ≤ 4) : PI (i + 1) (at_ + n) fr sp (hd ++ [⟨t, at_, n⟩]) := by
  have hA := h.hat
  refine ⟨by have := h.hi; omega, by omega, by have := h.lf; omega, by have := h.ls; omega, by have := h.lh; simp; omega, fun x hx => ?_, fun p => ?_, h.sq, h.gap⟩
  · rcases mem_pcs.1 hx with hh | hh | ⟨y, hy, rfl⟩
    · exact h.may _ (mem_pcs.2 (.inl hh))
    · exact h.may _ (mem_pcs.2 (.inr (.inl hh)))
    · rcases List.mem_append.1 hy with hy | hy
      · exact h.may _ (mem_pcs.2 (.inr (.inr ⟨y, hy, rfl⟩)))
      · simp at hy; subst hy; exact ⟨by show (0 : Int) ≤ at_; omega, by show (at_ : Int) < 4096; omega, by show (1 : Int) ≤ n; omega, by show (n : Int) ≤ 4096; omega⟩
  · rw [← cnt_step (h.cnt p), cntP_pcs, cntP_pcs, List.map_append, List.map_cons, List.map_nil, cntP_snoc, cov_eq]
    dsimp only
    omega
theorem PI.span {i at_ n : Nat} {c : Int} {al mk : Nat} {fr : List RunD} {sp : List SpanD} {hd : List HandD} (h : PI i at_ fr sp hd) (hi : i < 40) (h1 : 1 ≤ n) (h2 : n ≤ 4) (ha : al ≠ 0) : PI (i + 1) (at_ + n) fr (sp ++ [⟨at_, n, c, 3, 1, al, mk⟩]) hd := by
  have hA := h.hat
  refine ⟨by have := h.hi; omega, by omega, by have := h.lf; omega, by have := h.ls; simp; omega, by have := h.lh; omega, fun x hx => ?_, fun p => ?_, fun j hj => ?_, h.gap⟩
  · rcases mem_pcs.1 hx with hh | ⟨y, hy, rfl⟩ | hh
    · exact h.may _ (mem_pcs.2 (.inl hh))
    · rcases List.mem_append.1 hy with hy | hy
      · exact h.may _ (mem_pcs.2 (.inr (.inl ⟨y, hy, rfl⟩)))
      · simp at hy; subst hy; exact ⟨by show (0 : Int) ≤ at_; omega, by show (at_ : Int) < 4096; omega, by show (1 : Int) ≤ n; omega, by show (n : Int) ≤ 4096; omega⟩
    · exact h.may _ (mem_pcs.2 (.inr (.inr hh)))
  · rw [← cnt_step (h.cnt p), cntP_pcs, cntP_pcs, List.map_append, List.map_cons, List.map_nil, cntP_snoc, cov_eq]
    dsimp only
    omega
  · rw [List.length_append, List.length_singleton] at hj
    by_cases e : j = sp.length
    · subst e
      rw [ix_app_end]
      exact ⟨rfl, rfl, ha⟩
    · rw [ix_app_lt noSpan sp _ (by omega)]
      exact h.sq j (by omega)
theorem PI.whole {i at_ : Nat} {fr : List RunD} {sp : List SpanD} {hd : List HandD} (h : PI i at_ fr sp hd) (hi : i ≤ 40) (h0 : 1 ≤ at_) : WholeP at_ (pcs fr sp hd) := by
  have hA := h.hat
  exact whole_iff.2 ⟨by omega, by omega, h.may, fun p _ => by rw [h.cnt p]; by_cases hp : (p : Int) < at_ <;> simp [hp]⟩
end Go.Proofs.YtpohnehcnonjhaaDoor
