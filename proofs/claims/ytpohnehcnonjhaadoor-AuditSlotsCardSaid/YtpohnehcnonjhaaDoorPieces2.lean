/- audit.pieces, audit.may: contracts; the plain law of pieces. -/
import Derived.Test.YtpohnehcnonjhaaDoorPieces
namespace Go.Proofs.YtpohnehcnonjhaaDoor
open Go.RowKit
set_option linter.unusedVariables false
set_option linter.unusedSimpArgs false
attribute [local go_sem] Oper.semAt_some

set_option maxHeartbeats 1000000 in
theorem pieces_in (n : Nat) (fA sA hA : Option Addr) (fn fc sn sc hn hc : Nat) (w : World) :
    CallsIn Fence.wide n Tryd.prog 35 #[.slice fA fn fc, .slice sA sn sc, .slice hA hn hc] w fun e w' =>
      e = .returned (.func (.func 53) #[] #[.pointer (some ⟨w.heap.size, 0, none⟩), .pointer (some ⟨w.heap.size + 1, 0, none⟩), .pointer (some ⟨w.heap.size + 2, 0, none⟩)]) ∧
      w' = ((w.alloc (.cells #[.slice fA fn fc] 48)).alloc (.cells #[.slice sA sn sc] 36)).alloc (.cells #[.slice hA hn hc] 66) := by
  refine callsIn_of_wp Tryd.func35 rfl trivial ?_ rfl
  simp only [Tryd.ntmps35, List.size_toArray, List.length_cons, List.length_nil, Nat.reduceAdd, Nat.reduceSub, Array.replicate_succ, Array.replicate_zero, List.push_toArray, List.append_toArray, List.nil_append, List.cons_append]
  gi_wp2
  go_ret
  exact ⟨rfl, rfl⟩

theorem pieces_stops (n : Nat) (hn : 1 ≤ n) (n₀ m : Nat) (fr : List RunD) (sp : List SpanD) (hd : List HandD) (fA sA hA : Option Addr) (fc sc hc : Nat) (hfl : fr.length ≤ maxLen) (hsl : sp.length ≤ maxLen) (hhl : hd.length ≤ maxLen) (w : World) (hn₀ : n₀ ≤ w.heap.size) (hm : m + 3 ≤ w.heap.size)
    (hB0 : Boxed w m 48 (.slice fA fr.length fc)) (hB1 : Boxed w (m + 1) 36 (.slice sA sp.length sc)) (hB2 : Boxed w (m + 2) 66 (.slice hA hd.length hc))
    (hF : SlB n₀ w fA fr.length 2 (runv fr)) (hS : SlB n₀ w sA sp.length 7 (spanv sp)) (hH : SlB n₀ w hA hd.length 3 (handv hd)) :
    SeqStopsK Fence.wide n Tryd.prog 53 #[.pointer (some ⟨m, 0, none⟩), .pointer (some ⟨m + 1, 0, none⟩), .pointer (some ⟨m + 2, 0, none⟩)] encPc (KpB n₀ m) (fun ys => ys = pcs fr sp hd) (fun pre => pre <+: pcs fr sp hd) (pcs fr sp hd).length w := fun l J Jx W hW hJ hJx hY h0 => by
  have hb : ∀ {b t v}, Boxed w b t v → Boxed W b t v := fun h => (hW.block _ h.lt).trans h
  have hb0 : Below n₀ w W := hW.mono hn₀
  exact pieces1_in n hn l n₀ m fr sp hd fA sA hA fc sc hc hfl hsl hhl J Jx W (Nat.le_trans hn₀ hW.size) (Nat.le_trans hm hW.size) hJ hY (hb hB0) (hb hB1) (hb hB2) (hF.below hb0) (hS.below hb0) (hH.below hb0) h0

/-! plain law -/
def MayPc (x : Pc) : Prop := 0 ≤ x.a ∧ x.a < 4096 ∧ 1 ≤ x.n ∧ x.n ≤ 4096
def covB (x : Pc) (p : Int) : Bool := decide (x.a ≤ p) && decide (p < x.a + x.n)
theorem covB_iff {x : Pc} {p : Int} : covB x p = true ↔ x.a ≤ p ∧ p < x.a + x.n := by unfold covB; simp
def cntP (xs : List Pc) (p : Int) : Nat := (xs.filter (fun x => covB x p)).length
theorem cntP_nil (p : Int) : cntP [] p = 0 := rfl
theorem cntP_cons (x : Pc) (xs : List Pc) (p : Int) : cntP (x :: xs) p = cntP xs p + if covB x p then 1 else 0 := by
  unfold cntP
  rw [List.filter_cons]
  split <;> simp
theorem cntP_app (xs ys : List Pc) (p : Int) : cntP (xs ++ ys) p = cntP xs p + cntP ys p := by
  unfold cntP; rw [List.filter_append, List.length_append]
theorem cntP_snoc (xs : List Pc) (x : Pc) (p : Int) : cntP (xs ++ [x]) p = cntP xs p + if covB x p then 1 else 0 := by
  rw [cntP_app, cntP_cons, cntP_nil, Nat.zero_add]
def sumP (xs : List Pc) : Int := (xs.map (·.n)).sum
theorem sumP_cons (x : Pc) (xs : List Pc) : sumP (x :: xs) = x.n + sumP xs := by simp [sumP]
theorem sumP_snoc (xs : List Pc) (x : Pc) : sumP (xs ++ [x]) = sumP xs + x.n := by simp [sumP]
/-- So far each piece may be, lies in the first P pages, and has no page in common with another. -/
def GoodP (P : Int) (xs : List Pc) : Prop := (∀ x ∈ xs, MayPc x ∧ x.a + x.n ≤ P) ∧ ∀ p, cntP xs p ≤ 1
theorem GoodP.nil (P : Int) : GoodP P [] := ⟨fun x h => by simp at h, fun p => by simp [cntP_nil]⟩
theorem GoodP.pre {P : Int} {xs ys : List Pc} (h : GoodP P ys) (hp : xs <+: ys) : GoodP P xs := by
  obtain ⟨zs, rfl⟩ := hp
  exact ⟨fun x hx => h.1 x (List.mem_append.2 (.inl hx)), fun p => by have := h.2 p; rw [cntP_app] at this; omega⟩
theorem GoodP.snoc {P : Int} {xs : List Pc} {x : Pc} (h : GoodP P xs) (hm : MayPc x) (hP : x.a + x.n ≤ P) (hc : ∀ p, x.a ≤ p → p < x.a + x.n → cntP xs p = 0) : GoodP P (xs ++ [x]) := by
  refine ⟨fun y hy => ?_, fun p => ?_⟩
  · rcases List.mem_append.1 hy with hy | hy
    · exact h.1 y hy
    · simp at hy; subst hy; exact ⟨hm, hP⟩
  · rw [cntP_snoc]
    have h1 := h.2 p
    by_cases hb : covB x p = true
    · rw [if_pos hb, hc p (covB_iff.1 hb).1 (covB_iff.1 hb).2]; omega
    · rw [if_neg hb]; omega
theorem bad_may {P : Int} {xs : List Pc} {x : Pc} (h : ¬ (MayPc x ∧ x.a + x.n ≤ P)) : ¬ GoodP P (xs ++ [x]) := fun hg => h (hg.1 x (by simp))
theorem bad_cov {P p : Int} {xs : List Pc} {x : Pc} (h1 : x.a ≤ p) (h2 : p < x.a + x.n) (hc : cntP xs p ≠ 0) : ¬ GoodP P (xs ++ [x]) := fun hg => by
  have := hg.2 p
  rw [cntP_snoc, if_pos (covB_iff.2 ⟨h1, h2⟩)] at this
  omega
/-- 30.1: whole. -/
def WholeP (P : Int) (xs : List Pc) : Prop := 1 ≤ P ∧ P ≤ 4096 ∧ GoodP P xs ∧ sumP xs = P

/-- Counted page by page, or piece by piece. -/
def cntTo (xs : List Pc) : Nat → Nat
  | 0 => 0
  | p + 1 => cntTo xs p + cntP xs p
theorem cntTo_nil : ∀ p, cntTo [] p = 0
  | 0 => rfl
  | p + 1 => by simp [cntTo, cntTo_nil p, cntP_nil]
theorem cntTo_cons (x : Pc) (xs : List Pc) : ∀ p, cntTo (x :: xs) p = cntTo [x] p + cntTo xs p
  | 0 => rfl
  | p + 1 => by
    have h := cntTo_cons x xs p
    simp only [cntTo, h, cntP_cons x xs, cntP_cons x [], cntP_nil]
    omega
theorem cntTo_one (x : Pc) (h0 : 0 ≤ x.a) (hn : 0 ≤ x.n) : ∀ p : Nat, ((cntTo [x] p : Nat) : Int) = if (p : Int) ≤ x.a then 0 else if x.a + x.n ≤ p then x.n else p - x.a
  | 0 => by rw [if_pos (by omega)]; rfl
  | p + 1 => by
    have h := cntTo_one x h0 hn p
    have e : cntP [x] p = if covB x p then 1 else 0 := by rw [cntP_cons, cntP_nil, Nat.zero_add]
    simp only [cntTo, e]
    by_cases hb : covB x p = true
    · rw [if_pos hb]
      obtain ⟨h1, h2⟩ := covB_iff.1 hb
      rw [Int.natCast_add, h]
      split <;> split <;> (try split) <;> (try split) <;> omega
    · rw [if_neg hb]
      have h3 : ¬ (x.a ≤ (p : Int) ∧ (p : Int) < x.a + x.n) := fun hh => hb (covB_iff.2 hh)
      rw [Nat.add_zero, h]
      split <;> split <;> (try split) <;> (try split) <;> omega
theorem cntTo_sum {P : Nat} : ∀ {xs : List Pc}, (∀ x ∈ xs, MayPc x ∧ x.a + x.n ≤ P) → ((cntTo xs P : Nat) : Int) = sumP xs
  | [], _ => by rw [cntTo_nil]; rfl
  | x :: xs, h => by
    have h1 := h x (by simp)
    obtain ⟨⟨a1, a2, a3, a4⟩, a5⟩ := h1
    have hxs := cntTo_sum (P := P) (xs := xs) (fun y hy => h y (by simp [hy]))
    rw [cntTo_cons, sumP_cons, Int.natCast_add, hxs, cntTo_one x a1 (by omega)]
    rw [if_neg (by omega), if_pos (by omega)]
theorem cntTo_le {xs : List Pc} (h : ∀ p, cntP xs p ≤ 1) : ∀ p : Nat, cntTo xs p ≤ p ∧ (cntTo xs p = p → ∀ q : Nat, q < p → cntP xs q = 1)
  | 0 => ⟨Nat.le_refl _, fun _ q hq => absurd hq (by omega)⟩
  | p + 1 => by
    obtain ⟨h1, h2⟩ := cntTo_le h p
    have h3 := h p
    refine ⟨by simp only [cntTo]; omega, fun e q hq => ?_⟩
    simp only [cntTo] at e
    by_cases eq : q = p
    · subst eq; omega
    · exact h2 (by omega) q (by omega)
theorem cntTo_ones {xs : List Pc} : ∀ p : Nat, (∀ q : Nat, q < p → cntP xs q = 1) → cntTo xs p = p
  | 0, _ => rfl
  | p + 1, h => by simp only [cntTo]; rw [cntTo_ones p (fun q hq => h q (by omega)), h p (by omega)]
theorem cnt_far {P : Int} {xs : List Pc} (h : ∀ x ∈ xs, MayPc x ∧ x.a + x.n ≤ P) {p : Int} (hp : P ≤ p ∨ p < 0) : cntP xs p = 0 := by
  unfold cntP
  rw [List.length_eq_zero_iff, List.filter_eq_nil_iff]
  intro x hx hb
  obtain ⟨⟨a1, a2, a3, a4⟩, a5⟩ := h x hx
  have := covB_iff.1 hb
  omega
theorem cnt_mem {xs : List Pc} {x : Pc} (h : x ∈ xs) {p : Int} (h1 : x.a ≤ p) (h2 : p < x.a + x.n) : 0 < cntP xs p := by
  unfold cntP
  exact List.length_pos_of_mem (List.mem_filter.2 ⟨h, covB_iff.2 ⟨h1, h2⟩⟩)
/-- Whole, page by page. -/
theorem whole_iff {P : Int} {xs : List Pc} : WholeP P xs ↔ 1 ≤ P ∧ P ≤ 4096 ∧ (∀ x ∈ xs, MayPc x) ∧ ∀ p : Nat, p < 8192 → cntP xs p = if (p : Int) < P then 1 else 0 := by
  constructor
  · rintro ⟨h1, h2, ⟨h3, h4⟩, h5⟩
    obtain ⟨Q, rfl⟩ := Int.eq_ofNat_of_zero_le (show 0 ≤ P by omega)
    refine ⟨h1, h2, fun x hx => (h3 x hx).1, fun p hp => ?_⟩
    have hs := cntTo_sum h3
    rw [h5] at hs
    by_cases hlt : (p : Int) < Q
    · rw [if_pos hlt]
      exact (cntTo_le h4 Q).2 (by omega) p (by omega)
    · rw [if_neg hlt]
      exact cnt_far h3 (by omega)
  · rintro ⟨h1, h2, h3, h4⟩
    obtain ⟨Q, rfl⟩ := Int.eq_ofNat_of_zero_le (show 0 ≤ P by omega)
    have hin : ∀ x ∈ xs, MayPc x ∧ x.a + x.n ≤ (Q : Int) := fun x hx => by
      have hm := h3 x hx
      refine ⟨hm, ?_⟩
      obtain ⟨a1, a2, a3, a4⟩ := hm
      obtain ⟨a, ha⟩ := Int.eq_ofNat_of_zero_le a1
      obtain ⟨n, hn⟩ := Int.eq_ofNat_of_zero_le (show 0 ≤ x.n by omega)
      have := h4 (a + n - 1) (by omega)
      have hc := cnt_mem hx (p := ((a + n - 1 : Nat) : Int)) (by omega) (by omega)
      split at this <;> omega
    refine ⟨h1, h2, ⟨hin, fun p => ?_⟩, ?_⟩
    · by_cases hp : 0 ≤ p ∧ p < Q
      · obtain ⟨q, rfl⟩ := Int.eq_ofNat_of_zero_le hp.1
        rw [h4 q (by omega), if_pos hp.2]; omega
      · rw [cnt_far hin (by omega)]; omega
    · rw [← cntTo_sum hin, cntTo_ones Q (fun q hq => by rw [h4 q (by omega), if_pos (by omega)])]
/-- 30.1: of how many pieces a page is, and the kind of the first one. -/
noncomputable def hasB (x : Pc) (p : Int) : Bool := B (MayPc x ∧ x.a ≤ p ∧ p < x.a + x.n)
noncomputable def whoN (xs : List Pc) (p : Int) : Nat := (xs.filter (fun x => hasB x p)).length
noncomputable def whoK (xs : List Pc) (p : Int) : Int := ((xs.filter (fun x => hasB x p)).head?.map (·.kind)).getD 0
theorem whoN_le (xs : List Pc) (p : Int) : whoN xs p ≤ xs.length := List.length_filter_le _ _
theorem who_nil (p : Int) : whoN [] p = 0 ∧ whoK [] p = 0 := ⟨rfl, rfl⟩
theorem who_yes {xs : List Pc} {x : Pc} {p : Int} (h : MayPc x ∧ x.a ≤ p ∧ p < x.a + x.n) : whoN (xs ++ [x]) p = whoN xs p + 1 ∧ whoK (xs ++ [x]) p = if whoN xs p = 0 then x.kind else whoK xs p := by
  have hb : hasB x p = true := B_yes h
  unfold whoN whoK
  rw [List.filter_append]
  have e : [x].filter (fun x => hasB x p) = [x] := by simp [hb]
  rw [e]
  refine ⟨by simp, ?_⟩
  cases h2 : xs.filter (fun x => hasB x p) with
  | nil => simp
  | cons y ys => simp
theorem who_no {xs : List Pc} {x : Pc} {p : Int} (h : ¬ (MayPc x ∧ x.a ≤ p ∧ p < x.a + x.n)) : whoN (xs ++ [x]) p = whoN xs p ∧ whoK (xs ++ [x]) p = whoK xs p := by
  have hb : hasB x p = false := B_no h
  unfold whoN whoK
  rw [List.filter_append]
  have e : [x].filter (fun x => hasB x p) = [] := by simp [hb]
  rw [e]
  simp
theorem who_cnt {xs : List Pc} (h : ∀ x ∈ xs, MayPc x) (p : Int) : whoN xs p = cntP xs p := by
  unfold whoN cntP
  congr 1
  apply List.filter_congr
  intro x hx
  have hm := h x hx
  rw [Bool.eq_iff_iff, covB_iff]
  unfold hasB
  rw [B_iff]
  exact ⟨fun hh => hh.2, fun hh => ⟨hm, hh⟩⟩
end Go.Proofs.YtpohnehcnonjhaaDoor
