/- Walk: the document's put. -/
import Derived.Test.YtmpiodlkhjjbfaaDoorRef30a
import Derived.Test.YtmpiodlkhjjbfaaDoorOwn
import Derived.Test.YtmpiodlkhjjbfaaDoorParts
namespace Go.Proofs.YtmpiodlkhjjbfaaDoor
open Go.RowKit
set_option linter.unusedVariables false
set_option linter.unusedSimpArgs false

/-- append of a whole slice to a slice of the call's own, as a step of a region that draws its order. -/
theorem step_pushAll {P : Program} {w : World} {ops : Array Oper} {o : Oper} {a : Act} {K : Act → World → Prop} {Q : Exit → Act → World → Prop} {E : Prop} (hgd : o.guard = none) (s x : Operand) (t : TypeId)
    (ho : o.op = .call { callee := .builtin .append, args := #[s, x], argTypes := #[t, t] })
    (base : Nat) (e : TypeId) (i : TypeInfo) (z : Value) (size bytes : Nat) (ht : P.underlying t = some (.slice e)) (hi : P.info? e = some i) (hz : i.zero = some z)
    (hsize : i.size = size) (hby : i.bytes = bytes) (hzs : z.cells.size = size) (hsz : 0 < size)
    (v : Value) (n : Nat) (F : Nat → Value) (hs : a.eval s = v) (hown : OwnS w base e size v n F)
    (A : Option Addr) (m c : Nat) (G : Nat → Value) (hx : a.eval x = .slice A m c) (hr : SlR w A m size G) (h1 : ∀ j, j < m * size → (G j).oneCell' = true)
    (h63 : n + m ≤ maxLen) (hbytes : (n + m) * bytes ≤ 140737488355328) (hbase : base ≤ w.heap.size)
    (F' : Nat → Value) (hF1 : ∀ j, j < n * size → F' j = F j) (hF2 : ∀ j, j < m * size → F' (n * size + j) = G j)
    (h : ∀ v' w', OwnS w' base e size v' (n + m) F' → w.grownBy w' v.ownBlock → (∀ w0, Ext w0 w → w0.heap.size ≤ base → Ext w0 w') → (v'.ownBlock = v.ownBlock ∨ v'.ownBlock = some w.heap.size) → K (a.put o.dst v') w') : if Region.wanted o (yielded ops a.tmps) = true then Oper.wp P o a w K Q else E := by
  have hw : Region.wanted o (yielded ops a.tmps) = true := by simp [Region.wanted, hgd]
  rw [if_pos hw]
  exact wp_pushAll s x t ho base e i z size bytes ht hi hz hsize hby hzs hsz v n F hs hown A m c G hx hr h1 h63 hbytes hbase F' hF1 hF2 h

/-- A slice that was made empty. -/
theorem own_empty {w : World} {g : Nat} {e : TypeId} (size base : Nat) (F : Nat → Value) (h : Blk w g e #[]) (hb : base ≤ g) : OwnS w base e size (.slice (some ⟨g, 0, none⟩) 0 0) 0 F := by
  refine ⟨by simp, .inr ⟨g, 0, #[], rfl, hb, h, Nat.le_refl _, Nat.zero_le _, by simp, by simp⟩⟩

/-- A number in its place, once. -/
def putL : List Int → Int → List Int
  | [], x => [x]
  | y :: ys, x => if y < x then y :: putL ys x else if y = x then y :: ys else x :: y :: ys
theorem putL_same : ∀ {l : List Int} {x : Int} {i : Nat}, (∀ j, j < i → ix 0 l j < x) → i < l.length → ix 0 l i = x → putL l x = l
  | [], x, i, _, h, _ => absurd h (by simp)
  | y :: ys, x, 0, _, _, h => by
    have : y = x := h
    unfold putL
    rw [if_neg (by omega), if_pos this]
  | y :: ys, x, i + 1, h1, h2, h3 => by
    have h0 : y < x := h1 0 (by omega)
    unfold putL
    rw [if_pos h0, putL_same (l := ys) (i := i) (fun j hj => h1 (j + 1) (by omega)) (by simpa using h2) h3]
theorem putL_new : ∀ {l : List Int} {x : Int} {i : Nat}, (∀ j, j < i → ix 0 l j < x) → i ≤ l.length → (i < l.length → x < ix 0 l i) → putL l x = l.take i ++ x :: l.drop i
  | [], x, i, _, h, _ => by
    obtain rfl : i = 0 := by simpa using h
    rfl
  | y :: ys, x, 0, _, _, h => by
    have : x < y := h (by simp)
    unfold putL
    rw [if_neg (by omega), if_neg (by omega)]
    rfl
  | y :: ys, x, i + 1, h1, h2, h3 => by
    have h0 : y < x := h1 0 (by omega)
    unfold putL
    rw [if_pos h0, putL_new (l := ys) (i := i) (fun j hj => h1 (j + 1) (by omega)) (by simpa using h2) (fun h => h3 (by simpa using h))]
    rfl

theorem Tryd.infoIntQ : (Tryd.prog.info? 3).map (fun i => (i.zero, i.size, i.bytes)) = some (some (.int .i64 0), 1, 8) := by kernel_rfl
theorem own_pre {w : World} {b e g n c : Nat} {F : Nat → Value} (h : OwnS w b e 1 (.slice (some ⟨g, 0, none⟩) n c) n F) {k : Nat} (hk : k ≤ n) : SlR w (some ⟨g, 0, none⟩) k 1 F :=
  fun _ => ⟨g, 0, rfl, fun j hj => by rw [Nat.zero_add]; exact h.cellAt (by omega)⟩
theorem own_post {w : World} {b e g n c : Nat} {F : Nat → Value} (h : OwnS w b e 1 (.slice (some ⟨g, 0, none⟩) n c) n F) {k : Nat} : SlR w (some ⟨g, k, none⟩) (n - k) 1 (fun j => F (k + j)) :=
  fun _ => ⟨g, k, rfl, fun j hj => h.cellAt (by omega)⟩
theorem slr_one {w : World} {g : Nat} {t : TypeId} {v : Value} (h : Blk w g t #[v]) : SlR w (some ⟨g, 0, none⟩) 1 1 (fun _ => v) :=
  fun _ => ⟨g, 0, rfl, fun j hj => by
    obtain rfl : j = 0 := by omega
    exact h.cell rfl⟩
theorem new_laws {l M : List Int} {x : Int} {k n : Nat} (h : M = l.take k ++ x :: l.drop k) (hn : l.length = n) (hk : k ≤ n) :
    (∀ j, j < k → intv M j = intv l j) ∧ intv M k = .int .i64 x ∧ (∀ j, j < n - k → intv M (k + 1 + j) = intv l (k + j)) ∧ M.length = n + 1 := by
  subst h
  have e : (l.take k).length = k := by rw [List.length_take]; omega
  refine ⟨fun j hj => ?_, ?_, fun j hj => ?_, ?_⟩
  · unfold intv ix
    rw [List.getD_eq_getElem?_getD, List.getD_eq_getElem?_getD, List.getElem?_append_left (by omega), List.getElem?_take, if_pos hj]
  · unfold intv ix
    rw [List.getD_eq_getElem?_getD, List.getElem?_append_right (by omega), e]
    simp
  · unfold intv ix
    rw [List.getD_eq_getElem?_getD, List.getD_eq_getElem?_getD, List.getElem?_append_right (by omega), e, show k + 1 + j - k = j + 1 by omega, List.getElem?_cons_succ, List.getElem?_drop]
  · rw [List.length_append, List.length_cons, List.length_drop, e]; omega

theorem intv_one (l : List Int) (j : Nat) : (intv l j).oneCell' = true := rfl
def PutOut (w : World) (b : Nat) (l : List Int) (e : Ending) (w' : World) : Prop := (∃ v, e = .returned v ∧ OwnS w' b 3 1 v l.length (intv l)) ∧ Ext w w'

set_option maxRecDepth 100000 in
set_option maxHeartbeats 4000000 in
theorem put_some (l : List Int) (x : Int) (b g c : Nat) (w : World) (hb : b ≤ w.heap.size) (hl : l.length < 1000000) (hO : OwnS w b 3 1 (.slice (some ⟨g, 0, none⟩) l.length c) l.length (intv l)) :
    Calls Tryd.prog 36 #[.slice (some ⟨g, 0, none⟩) l.length c, .int .i64 x] w (PutOut w b (putL l x)) := by
  have hcap : l.length ≤ c ∧ c ≤ 9223372036854775807 := by
    rcases hO.2 with ⟨h, _⟩ | ⟨_, _, _, h, _, _, h1, h2, _⟩
    · cases h
    · cases h; exact ⟨h1, h2⟩
  obtain ⟨hc1, hc2⟩ := hcap
  have HO := Lib.hid hO
  clear hO
  obtain ⟨n, hn⟩ : ∃ n, l.length = n := ⟨_, rfl⟩
  have HL := Lib.hid hn
  obtain ⟨i0, hi, hz0, hz1, hz2⟩ := info_parts Tryd.infoIntQ
  have HI := Lib.hid (And.intro hi (And.intro hz0 (And.intro hz1 hz2)))
  clear hi hz0 hz1 hz2
  rw [hn] at hc1 hl HO ⊢
  clear hn
  go_enter Tryd.func36, Tryd.ntmps36
  go_wp2_with fail
  go_loopg [5] n (fun q i wr => ∃ k : Nat, k ≤ n ∧ q = n - k ∧ i = .int .i64 k ∧ w = wr ∧ ∀ j, j < k → ix 0 l j < x)
  case atStart => exact ⟨0, Nat.zero_le _, rfl, rfl, rfl, fun j hj => absurd hj (by omega)⟩
  case round =>
    obtain ⟨k, hk, rfl, rfl, rfl, hall⟩ := hrel
    have HA := Lib.hid hall
    clear hall
    by_cases hlt : k < n
    · have c0 := HO.out.cellAt (j := k) (by omega)
      unfold intv at c0
      generalize hy : ix 0 l k = y at c0
      have HY := Lib.hid hy
      clear hy
      by_cases hyx : y < x
      · go_wp2_with fail
        go_roundg (n - (k + 1))
        case measure => go_light; omega
        exact ⟨k + 1, by omega, rfl, by simp, rfl, fun j hj => by
          by_cases e : j = k
          · subst e; rw [HY.out]; exact hyx
          · exact HA.out j (by omega)⟩
      by_cases hyx2 : y = x
      · have HP := Lib.hid (putL_same HA.out (by rw [HL.out]; exact hlt) (by rw [HY.out]; exact hyx2))
        subst hyx2
        go_wp2_with fail
        go_ret
        refine ⟨⟨_, rfl, ?_⟩, Ext.refl _⟩
        rw [HP.out, HL.out]
        exact HO.out
      · have hM := putL_new HA.out (by rw [HL.out]; omega) (fun _ => by rw [HY.out]; omega)
        have e1 : (y == x) = false := by simpa using hyx2
        go_wp2_with fail
        have g1 : ¬ c = k := by omega
        have g2 : k ≤ c := by omega
        have HM := Lib.hid (new_laws hM HL.out hk)
        clear hM
        go_region_law ((first | (refine step_pushAll (by rfl) _ _ 28 (by rfl) w.heap.size 3 i0 (.int .i64 0) 1 8 Tryd.underlying28 HI.out.1 HI.out.2.1 HI.out.2.2.1 HI.out.2.2.2 (by rfl) (by omega) (.slice (some ⟨w.heap.size, 0, none⟩) 0 0) 0 (intv (putL l x)) (by rfl) (own_empty 1 w.heap.size (intv (putL l x)) (g := w.heap.size) (Blk.new w 3 #[] _ rfl).drew (by omega)) (some ⟨g, 0, none⟩) k c (intv l) (by rfl) ((own_pre HO.out (by omega)).ext (((Ext.refl w).alloc (.cells #[] 3)).drew)) (fun _ _ => rfl) (by unfold maxLen; omega) (by omega) (by simp; try omega) (intv (putL l x)) (fun j hj => absurd hj (by omega)) (fun j hj => by rw [show 0 * 1 + j = j by omega]; exact HM.out.1 j (by omega)) ?_; intro v1 w1 hO1 hG1 hE1 hB1; replace hE1 := hE1 w (((Ext.refl w).alloc (.cells #[] 3)).drew) (Nat.le_refl _)) | (refine step_pushAll (by rfl) _ _ 28 (by rfl) w.heap.size 3 i0 (.int .i64 0) 1 8 Tryd.underlying28 HI.out.1 HI.out.2.1 HI.out.2.2.1 HI.out.2.2.2 (by rfl) (by omega) (.slice (some ⟨w.heap.size, 0, none⟩) 0 0) 0 (intv (putL l x)) (by rfl) (own_empty 1 w.heap.size (intv (putL l x)) (g := w.heap.size) ((Blk.new w 3 #[] _ rfl).alloc (.cells #[.int .i64 x] 3)).drew (by omega)) (some ⟨g, 0, none⟩) k c (intv l) (by rfl) ((own_pre HO.out (by omega)).ext ((((Ext.refl w).alloc (.cells #[] 3)).alloc (.cells #[.int .i64 x] 3)).drew)) (fun _ _ => rfl) (by unfold maxLen; omega) (by omega) (by simp; try omega) (intv (putL l x)) (fun j hj => absurd hj (by omega)) (fun j hj => by rw [show 0 * 1 + j = j by omega]; exact HM.out.1 j (by omega)) ?_; intro v1 w1 hO1 hG1 hE1 hB1; replace hE1 := hE1 w ((((Ext.refl w).alloc (.cells #[] 3)).alloc (.cells #[.int .i64 x] 3)).drew) (Nat.le_refl _); have hx1 := Blk.grown ((Blk.new (w.alloc (.cells #[] 3)) 3 #[.int .i64 x] (w.heap.size + 1) (by simp)).drew) hG1 (by simp [Value.ownBlock])) | (refine step_pushAll (by rfl) _ _ 28 (by rfl) w.heap.size 3 i0 (.int .i64 0) 1 8 Tryd.underlying28 HI.out.1 HI.out.2.1 HI.out.2.2.1 HI.out.2.2.2 (by rfl) (by omega) (.slice (some ⟨w.heap.size + 1, 0, none⟩) 0 0) 0 (intv (putL l x)) (by rfl) (own_empty 1 w.heap.size (intv (putL l x)) (g := w.heap.size + 1) ((Blk.new (w.alloc (.cells #[.int .i64 x] 3)) 3 #[] (w.heap.size + 1) (by simp)).drew) (by omega)) (some ⟨g, 0, none⟩) k c (intv l) (by rfl) ((own_pre HO.out (by omega)).ext ((((Ext.refl w).alloc (.cells #[.int .i64 x] 3)).alloc (.cells #[] 3)).drew)) (fun _ _ => rfl) (by unfold maxLen; omega) (by omega) (by simp; try omega) (intv (putL l x)) (fun j hj => absurd hj (by omega)) (fun j hj => by rw [show 0 * 1 + j = j by omega]; exact HM.out.1 j (by omega)) ?_; intro v1 w1 hO1 hG1 hE1 hB1; replace hE1 := hE1 w ((((Ext.refl w).alloc (.cells #[.int .i64 x] 3)).alloc (.cells #[] 3)).drew) (Nat.le_refl _); have hx1 := Blk.grown (((Blk.new w 3 #[.int .i64 x] _ rfl).alloc (.cells #[] 3)).drew) hG1 (by simp [Value.ownBlock])) | (refine step_pushAll (by rfl) _ _ 28 (by rfl) w.heap.size 3 i0 (.int .i64 0) 1 8 Tryd.underlying28 HI.out.1 HI.out.2.1 HI.out.2.2.1 HI.out.2.2.2 (by rfl) (by omega) v1 (0 + k) (intv (putL l x)) (by rfl) (hO1.ext ((Ext.refl w1).alloc (.cells #[.int .i64 x] 3))) (some ⟨w1.heap.size, 0, none⟩) 1 1 (fun _ => .int .i64 x) (by rfl) (slr_one (Blk.new w1 3 #[.int .i64 x] _ rfl)) (fun _ _ => rfl) (by unfold maxLen; omega) (by omega) (Nat.le_trans hE1.size (by simp)) (intv (putL l x)) (fun _ _ => rfl) (fun j hj => by obtain rfl : j = 0 := (by omega); exact (congrArg (intv (putL l x)) (by omega)).trans HM.out.2.1) ?_; intro v2 w2 hO2 hG2 hE2 hB2; replace hE2 := hE2 w (hE1.alloc (.cells #[.int .i64 x] 3)) (Nat.le_refl _)) | (refine step_pushAll (by rfl) _ _ 28 (by rfl) w.heap.size 3 i0 (.int .i64 0) 1 8 Tryd.underlying28 HI.out.1 HI.out.2.1 HI.out.2.2.1 HI.out.2.2.2 (by rfl) (by omega) v1 (0 + k) (intv (putL l x)) (by rfl) hO1 (some ⟨_, 0, none⟩) 1 1 (fun _ => .int .i64 x) (by rfl) (slr_one hx1) (fun _ _ => rfl) (by unfold maxLen; omega) (by omega) hE1.size (intv (putL l x)) (fun _ _ => rfl) (fun j hj => by obtain rfl : j = 0 := (by omega); exact (congrArg (intv (putL l x)) (by omega)).trans HM.out.2.1) ?_; intro v2 w2 hO2 hG2 hE2 hB2; replace hE2 := hE2 w hE1 (Nat.le_refl _)) | (refine step_pushAll (by rfl) _ _ 28 (by rfl) w.heap.size 3 i0 (.int .i64 0) 1 8 Tryd.underlying28 HI.out.1 HI.out.2.1 HI.out.2.2.1 HI.out.2.2.2 (by rfl) (by omega) v2 (0 + k + 1) (intv (putL l x)) (by rfl) hO2 (some ⟨g, k, none⟩) (n - k) (c - k) (fun j => intv l (k + j)) (by rfl) ((own_post HO.out).ext hE2) (fun _ _ => rfl) (by unfold maxLen; omega) (by omega) hE2.size (intv (putL l x)) (fun _ _ => rfl) (fun j hj => (congrArg (intv (putL l x)) (by omega)).trans (HM.out.2.2.1 j (by omega))) ?_; intro v3 w3 hO3 hG3 hE3 hB3; replace hE3 := hE3 w hE2 (Nat.le_refl _))))
        all_goals go_wp2_with fail
        all_goals go_ret
        all_goals exact ⟨⟨_, rfl, by rw [HM.out.2.2.2]; have hO := hO3.mono hb; rwa [show 0 + k + 1 + (n - k) = n + 1 by omega] at hO⟩, hE3⟩
    · have e : k = n := by omega
      subst e
      have hM := putL_new HA.out (by rw [HL.out]; omega) (fun h => absurd h (by rw [HL.out]; omega))
      by_cases g1 : c = k
      · go_wp2_with fail
        have g2 : k ≤ c := by omega
        have HM := Lib.hid (new_laws hM HL.out (Nat.le_refl _))
        clear hM
        go_region_law ((first | (refine step_pushAll (by rfl) _ _ 28 (by rfl) w.heap.size 3 i0 (.int .i64 0) 1 8 Tryd.underlying28 HI.out.1 HI.out.2.1 HI.out.2.2.1 HI.out.2.2.2 (by rfl) (by omega) (.slice (some ⟨w.heap.size, 0, none⟩) 0 0) 0 (intv (putL l x)) (by rfl) (own_empty 1 w.heap.size (intv (putL l x)) (g := w.heap.size) (Blk.new w 3 #[] _ rfl).drew (by omega)) (some ⟨g, 0, none⟩) k k (intv l) (by rfl) ((own_pre HO.out (by omega)).ext (((Ext.refl w).alloc (.cells #[] 3)).drew)) (fun _ _ => rfl) (by unfold maxLen; omega) (by omega) (by simp; try omega) (intv (putL l x)) (fun j hj => absurd hj (by omega)) (fun j hj => by rw [show 0 * 1 + j = j by omega]; exact HM.out.1 j (by omega)) ?_; intro v1 w1 hO1 hG1 hE1 hB1; replace hE1 := hE1 w (((Ext.refl w).alloc (.cells #[] 3)).drew) (Nat.le_refl _)) | (refine step_pushAll (by rfl) _ _ 28 (by rfl) w.heap.size 3 i0 (.int .i64 0) 1 8 Tryd.underlying28 HI.out.1 HI.out.2.1 HI.out.2.2.1 HI.out.2.2.2 (by rfl) (by omega) (.slice (some ⟨w.heap.size, 0, none⟩) 0 0) 0 (intv (putL l x)) (by rfl) (own_empty 1 w.heap.size (intv (putL l x)) (g := w.heap.size) ((Blk.new w 3 #[] _ rfl).alloc (.cells #[.int .i64 x] 3)).drew (by omega)) (some ⟨g, 0, none⟩) k k (intv l) (by rfl) ((own_pre HO.out (by omega)).ext ((((Ext.refl w).alloc (.cells #[] 3)).alloc (.cells #[.int .i64 x] 3)).drew)) (fun _ _ => rfl) (by unfold maxLen; omega) (by omega) (by simp; try omega) (intv (putL l x)) (fun j hj => absurd hj (by omega)) (fun j hj => by rw [show 0 * 1 + j = j by omega]; exact HM.out.1 j (by omega)) ?_; intro v1 w1 hO1 hG1 hE1 hB1; replace hE1 := hE1 w ((((Ext.refl w).alloc (.cells #[] 3)).alloc (.cells #[.int .i64 x] 3)).drew) (Nat.le_refl _); have hx1 := Blk.grown ((Blk.new (w.alloc (.cells #[] 3)) 3 #[.int .i64 x] (w.heap.size + 1) (by simp)).drew) hG1 (by simp [Value.ownBlock])) | (refine step_pushAll (by rfl) _ _ 28 (by rfl) w.heap.size 3 i0 (.int .i64 0) 1 8 Tryd.underlying28 HI.out.1 HI.out.2.1 HI.out.2.2.1 HI.out.2.2.2 (by rfl) (by omega) (.slice (some ⟨w.heap.size + 1, 0, none⟩) 0 0) 0 (intv (putL l x)) (by rfl) (own_empty 1 w.heap.size (intv (putL l x)) (g := w.heap.size + 1) ((Blk.new (w.alloc (.cells #[.int .i64 x] 3)) 3 #[] (w.heap.size + 1) (by simp)).drew) (by omega)) (some ⟨g, 0, none⟩) k k (intv l) (by rfl) ((own_pre HO.out (by omega)).ext ((((Ext.refl w).alloc (.cells #[.int .i64 x] 3)).alloc (.cells #[] 3)).drew)) (fun _ _ => rfl) (by unfold maxLen; omega) (by omega) (by simp; try omega) (intv (putL l x)) (fun j hj => absurd hj (by omega)) (fun j hj => by rw [show 0 * 1 + j = j by omega]; exact HM.out.1 j (by omega)) ?_; intro v1 w1 hO1 hG1 hE1 hB1; replace hE1 := hE1 w ((((Ext.refl w).alloc (.cells #[.int .i64 x] 3)).alloc (.cells #[] 3)).drew) (Nat.le_refl _); have hx1 := Blk.grown (((Blk.new w 3 #[.int .i64 x] _ rfl).alloc (.cells #[] 3)).drew) hG1 (by simp [Value.ownBlock])) | (refine step_pushAll (by rfl) _ _ 28 (by rfl) w.heap.size 3 i0 (.int .i64 0) 1 8 Tryd.underlying28 HI.out.1 HI.out.2.1 HI.out.2.2.1 HI.out.2.2.2 (by rfl) (by omega) v1 (0 + k) (intv (putL l x)) (by rfl) (hO1.ext ((Ext.refl w1).alloc (.cells #[.int .i64 x] 3))) (some ⟨w1.heap.size, 0, none⟩) 1 1 (fun _ => .int .i64 x) (by rfl) (slr_one (Blk.new w1 3 #[.int .i64 x] _ rfl)) (fun _ _ => rfl) (by unfold maxLen; omega) (by omega) (Nat.le_trans hE1.size (by simp)) (intv (putL l x)) (fun _ _ => rfl) (fun j hj => by obtain rfl : j = 0 := (by omega); exact (congrArg (intv (putL l x)) (by omega)).trans HM.out.2.1) ?_; intro v2 w2 hO2 hG2 hE2 hB2; replace hE2 := hE2 w (hE1.alloc (.cells #[.int .i64 x] 3)) (Nat.le_refl _)) | (refine step_pushAll (by rfl) _ _ 28 (by rfl) w.heap.size 3 i0 (.int .i64 0) 1 8 Tryd.underlying28 HI.out.1 HI.out.2.1 HI.out.2.2.1 HI.out.2.2.2 (by rfl) (by omega) v1 (0 + k) (intv (putL l x)) (by rfl) hO1 (some ⟨_, 0, none⟩) 1 1 (fun _ => .int .i64 x) (by rfl) (slr_one hx1) (fun _ _ => rfl) (by unfold maxLen; omega) (by omega) hE1.size (intv (putL l x)) (fun _ _ => rfl) (fun j hj => by obtain rfl : j = 0 := (by omega); exact (congrArg (intv (putL l x)) (by omega)).trans HM.out.2.1) ?_; intro v2 w2 hO2 hG2 hE2 hB2; replace hE2 := hE2 w hE1 (Nat.le_refl _)) | (refine step_pushAll (by rfl) _ _ 28 (by rfl) w.heap.size 3 i0 (.int .i64 0) 1 8 Tryd.underlying28 HI.out.1 HI.out.2.1 HI.out.2.2.1 HI.out.2.2.2 (by rfl) (by omega) v2 (0 + k + 1) (intv (putL l x)) (by rfl) hO2 (some ⟨g, 0, none⟩) 0 0 (fun j => intv l (k + j)) (by rfl) SlR.nil (fun _ _ => rfl) (by unfold maxLen; omega) (by omega) hE2.size (intv (putL l x)) (fun _ _ => rfl) (fun j hj => (congrArg (intv (putL l x)) (by omega)).trans (HM.out.2.2.1 j (by omega))) ?_; intro v3 w3 hO3 hG3 hE3 hB3; replace hE3 := hE3 w hE2 (Nat.le_refl _))))
        all_goals go_wp2_with fail
        all_goals go_ret
        all_goals exact ⟨⟨_, rfl, by rw [HM.out.2.2.2]; have hO := hO3.mono hb; rwa [show 0 + k + 1 + 0 = k + 1 by omega] at hO⟩, hE3⟩
      · go_wp2_with fail
        have g2 : k ≤ c := by omega
        have HM := Lib.hid (new_laws hM HL.out (Nat.le_refl _))
        clear hM
        go_region_law ((first | (refine step_pushAll (by rfl) _ _ 28 (by rfl) w.heap.size 3 i0 (.int .i64 0) 1 8 Tryd.underlying28 HI.out.1 HI.out.2.1 HI.out.2.2.1 HI.out.2.2.2 (by rfl) (by omega) (.slice (some ⟨w.heap.size, 0, none⟩) 0 0) 0 (intv (putL l x)) (by rfl) (own_empty 1 w.heap.size (intv (putL l x)) (g := w.heap.size) (Blk.new w 3 #[] _ rfl).drew (by omega)) (some ⟨g, 0, none⟩) k c (intv l) (by rfl) ((own_pre HO.out (by omega)).ext (((Ext.refl w).alloc (.cells #[] 3)).drew)) (fun _ _ => rfl) (by unfold maxLen; omega) (by omega) (by simp; try omega) (intv (putL l x)) (fun j hj => absurd hj (by omega)) (fun j hj => by rw [show 0 * 1 + j = j by omega]; exact HM.out.1 j (by omega)) ?_; intro v1 w1 hO1 hG1 hE1 hB1; replace hE1 := hE1 w (((Ext.refl w).alloc (.cells #[] 3)).drew) (Nat.le_refl _)) | (refine step_pushAll (by rfl) _ _ 28 (by rfl) w.heap.size 3 i0 (.int .i64 0) 1 8 Tryd.underlying28 HI.out.1 HI.out.2.1 HI.out.2.2.1 HI.out.2.2.2 (by rfl) (by omega) (.slice (some ⟨w.heap.size, 0, none⟩) 0 0) 0 (intv (putL l x)) (by rfl) (own_empty 1 w.heap.size (intv (putL l x)) (g := w.heap.size) ((Blk.new w 3 #[] _ rfl).alloc (.cells #[.int .i64 x] 3)).drew (by omega)) (some ⟨g, 0, none⟩) k c (intv l) (by rfl) ((own_pre HO.out (by omega)).ext ((((Ext.refl w).alloc (.cells #[] 3)).alloc (.cells #[.int .i64 x] 3)).drew)) (fun _ _ => rfl) (by unfold maxLen; omega) (by omega) (by simp; try omega) (intv (putL l x)) (fun j hj => absurd hj (by omega)) (fun j hj => by rw [show 0 * 1 + j = j by omega]; exact HM.out.1 j (by omega)) ?_; intro v1 w1 hO1 hG1 hE1 hB1; replace hE1 := hE1 w ((((Ext.refl w).alloc (.cells #[] 3)).alloc (.cells #[.int .i64 x] 3)).drew) (Nat.le_refl _); have hx1 := Blk.grown ((Blk.new (w.alloc (.cells #[] 3)) 3 #[.int .i64 x] (w.heap.size + 1) (by simp)).drew) hG1 (by simp [Value.ownBlock])) | (refine step_pushAll (by rfl) _ _ 28 (by rfl) w.heap.size 3 i0 (.int .i64 0) 1 8 Tryd.underlying28 HI.out.1 HI.out.2.1 HI.out.2.2.1 HI.out.2.2.2 (by rfl) (by omega) (.slice (some ⟨w.heap.size + 1, 0, none⟩) 0 0) 0 (intv (putL l x)) (by rfl) (own_empty 1 w.heap.size (intv (putL l x)) (g := w.heap.size + 1) ((Blk.new (w.alloc (.cells #[.int .i64 x] 3)) 3 #[] (w.heap.size + 1) (by simp)).drew) (by omega)) (some ⟨g, 0, none⟩) k c (intv l) (by rfl) ((own_pre HO.out (by omega)).ext ((((Ext.refl w).alloc (.cells #[.int .i64 x] 3)).alloc (.cells #[] 3)).drew)) (fun _ _ => rfl) (by unfold maxLen; omega) (by omega) (by simp; try omega) (intv (putL l x)) (fun j hj => absurd hj (by omega)) (fun j hj => by rw [show 0 * 1 + j = j by omega]; exact HM.out.1 j (by omega)) ?_; intro v1 w1 hO1 hG1 hE1 hB1; replace hE1 := hE1 w ((((Ext.refl w).alloc (.cells #[.int .i64 x] 3)).alloc (.cells #[] 3)).drew) (Nat.le_refl _); have hx1 := Blk.grown (((Blk.new w 3 #[.int .i64 x] _ rfl).alloc (.cells #[] 3)).drew) hG1 (by simp [Value.ownBlock])) | (refine step_pushAll (by rfl) _ _ 28 (by rfl) w.heap.size 3 i0 (.int .i64 0) 1 8 Tryd.underlying28 HI.out.1 HI.out.2.1 HI.out.2.2.1 HI.out.2.2.2 (by rfl) (by omega) v1 (0 + k) (intv (putL l x)) (by rfl) (hO1.ext ((Ext.refl w1).alloc (.cells #[.int .i64 x] 3))) (some ⟨w1.heap.size, 0, none⟩) 1 1 (fun _ => .int .i64 x) (by rfl) (slr_one (Blk.new w1 3 #[.int .i64 x] _ rfl)) (fun _ _ => rfl) (by unfold maxLen; omega) (by omega) (Nat.le_trans hE1.size (by simp)) (intv (putL l x)) (fun _ _ => rfl) (fun j hj => by obtain rfl : j = 0 := (by omega); exact (congrArg (intv (putL l x)) (by omega)).trans HM.out.2.1) ?_; intro v2 w2 hO2 hG2 hE2 hB2; replace hE2 := hE2 w (hE1.alloc (.cells #[.int .i64 x] 3)) (Nat.le_refl _)) | (refine step_pushAll (by rfl) _ _ 28 (by rfl) w.heap.size 3 i0 (.int .i64 0) 1 8 Tryd.underlying28 HI.out.1 HI.out.2.1 HI.out.2.2.1 HI.out.2.2.2 (by rfl) (by omega) v1 (0 + k) (intv (putL l x)) (by rfl) hO1 (some ⟨_, 0, none⟩) 1 1 (fun _ => .int .i64 x) (by rfl) (slr_one hx1) (fun _ _ => rfl) (by unfold maxLen; omega) (by omega) hE1.size (intv (putL l x)) (fun _ _ => rfl) (fun j hj => by obtain rfl : j = 0 := (by omega); exact (congrArg (intv (putL l x)) (by omega)).trans HM.out.2.1) ?_; intro v2 w2 hO2 hG2 hE2 hB2; replace hE2 := hE2 w hE1 (Nat.le_refl _)) | (refine step_pushAll (by rfl) _ _ 28 (by rfl) w.heap.size 3 i0 (.int .i64 0) 1 8 Tryd.underlying28 HI.out.1 HI.out.2.1 HI.out.2.2.1 HI.out.2.2.2 (by rfl) (by omega) v2 (0 + k + 1) (intv (putL l x)) (by rfl) hO2 (some ⟨g, k, none⟩) 0 (c - k) (fun j => intv l (k + j)) (by rfl) SlR.nil (fun _ _ => rfl) (by unfold maxLen; omega) (by omega) hE2.size (intv (putL l x)) (fun _ _ => rfl) (fun j hj => (congrArg (intv (putL l x)) (by omega)).trans (HM.out.2.2.1 j (by omega))) ?_; intro v3 w3 hO3 hG3 hE3 hB3; replace hE3 := hE3 w hE2 (Nat.le_refl _))))
        all_goals go_wp2_with fail
        all_goals go_ret
        all_goals exact ⟨⟨_, rfl, by rw [HM.out.2.2.2]; have hO := hO3.mono hb; rwa [show 0 + k + 1 + 0 = k + 1 by omega] at hO⟩, hE3⟩

set_option maxRecDepth 100000 in
set_option maxHeartbeats 4000000 in
theorem put_none (x : Int) (b : Nat) (w : World) (hb : b ≤ w.heap.size) :
    Calls Tryd.prog 36 #[.slice none 0 0, .int .i64 x] w (PutOut w b (putL [] x)) := by
  obtain ⟨i0, hi, hz0, hz1, hz2⟩ := info_parts Tryd.infoIntQ
  have HI := Lib.hid (And.intro hi (And.intro hz0 (And.intro hz1 hz2)))
  clear hi hz0 hz1 hz2
  have HM := Lib.hid (show (∀ j, j < 0 → intv (putL [] x) j = intv [] j) ∧ intv (putL [] x) 0 = .int .i64 x ∧ (∀ j, j < 0 → intv (putL [] x) (0 + 1 + j) = intv [] (0 + j)) ∧ (putL [] x).length = 0 + 1 from ⟨fun j hj => absurd hj (by omega), rfl, fun j hj => absurd hj (by omega), rfl⟩)
  have HL := Lib.hid (show ([] : List Int).length = 0 from rfl)
  go_enter Tryd.func36, Tryd.ntmps36
  go_wp2_with fail
  go_loopg [5] 0 (fun q i wr => q = 0 ∧ i = .int .i64 0 ∧ w = wr)
  case atStart => exact ⟨rfl, rfl, rfl⟩
  case round =>
    obtain ⟨rfl, rfl, rfl⟩ := hrel
    go_wp2_with fail
    go_region_law ((first | (refine step_pushAll (by rfl) _ _ 28 (by rfl) w.heap.size 3 i0 (.int .i64 0) 1 8 Tryd.underlying28 HI.out.1 HI.out.2.1 HI.out.2.2.1 HI.out.2.2.2 (by rfl) (by omega) (.slice (some ⟨w.heap.size, 0, none⟩) 0 0) 0 (intv (putL [] x)) (by rfl) (own_empty 1 w.heap.size (intv (putL [] x)) (g := w.heap.size) (Blk.new w 3 #[] _ rfl).drew (by omega)) none 0 0 (intv []) (by rfl) SlR.nil (fun _ _ => rfl) (by unfold maxLen; omega) (by omega) (by simp; try omega) (intv (putL [] x)) (fun j hj => absurd hj (by omega)) (fun j hj => by rw [show 0 * 1 + j = j by omega]; exact HM.out.1 j (by omega)) ?_; intro v1 w1 hO1 hG1 hE1 hB1; replace hE1 := hE1 w (((Ext.refl w).alloc (.cells #[] 3)).drew) (Nat.le_refl _)) | (refine step_pushAll (by rfl) _ _ 28 (by rfl) w.heap.size 3 i0 (.int .i64 0) 1 8 Tryd.underlying28 HI.out.1 HI.out.2.1 HI.out.2.2.1 HI.out.2.2.2 (by rfl) (by omega) (.slice (some ⟨w.heap.size, 0, none⟩) 0 0) 0 (intv (putL [] x)) (by rfl) (own_empty 1 w.heap.size (intv (putL [] x)) (g := w.heap.size) ((Blk.new w 3 #[] _ rfl).alloc (.cells #[.int .i64 x] 3)).drew (by omega)) none 0 0 (intv []) (by rfl) SlR.nil (fun _ _ => rfl) (by unfold maxLen; omega) (by omega) (by simp; try omega) (intv (putL [] x)) (fun j hj => absurd hj (by omega)) (fun j hj => by rw [show 0 * 1 + j = j by omega]; exact HM.out.1 j (by omega)) ?_; intro v1 w1 hO1 hG1 hE1 hB1; replace hE1 := hE1 w ((((Ext.refl w).alloc (.cells #[] 3)).alloc (.cells #[.int .i64 x] 3)).drew) (Nat.le_refl _); have hx1 := Blk.grown ((Blk.new (w.alloc (.cells #[] 3)) 3 #[.int .i64 x] (w.heap.size + 1) (by simp)).drew) hG1 (by simp [Value.ownBlock])) | (refine step_pushAll (by rfl) _ _ 28 (by rfl) w.heap.size 3 i0 (.int .i64 0) 1 8 Tryd.underlying28 HI.out.1 HI.out.2.1 HI.out.2.2.1 HI.out.2.2.2 (by rfl) (by omega) (.slice (some ⟨w.heap.size + 1, 0, none⟩) 0 0) 0 (intv (putL [] x)) (by rfl) (own_empty 1 w.heap.size (intv (putL [] x)) (g := w.heap.size + 1) ((Blk.new (w.alloc (.cells #[.int .i64 x] 3)) 3 #[] (w.heap.size + 1) (by simp)).drew) (by omega)) none 0 0 (intv []) (by rfl) SlR.nil (fun _ _ => rfl) (by unfold maxLen; omega) (by omega) (by simp; try omega) (intv (putL [] x)) (fun j hj => absurd hj (by omega)) (fun j hj => by rw [show 0 * 1 + j = j by omega]; exact HM.out.1 j (by omega)) ?_; intro v1 w1 hO1 hG1 hE1 hB1; replace hE1 := hE1 w ((((Ext.refl w).alloc (.cells #[.int .i64 x] 3)).alloc (.cells #[] 3)).drew) (Nat.le_refl _); have hx1 := Blk.grown (((Blk.new w 3 #[.int .i64 x] _ rfl).alloc (.cells #[] 3)).drew) hG1 (by simp [Value.ownBlock])) | (refine step_pushAll (by rfl) _ _ 28 (by rfl) w.heap.size 3 i0 (.int .i64 0) 1 8 Tryd.underlying28 HI.out.1 HI.out.2.1 HI.out.2.2.1 HI.out.2.2.2 (by rfl) (by omega) v1 (0 + 0) (intv (putL [] x)) (by rfl) (hO1.ext ((Ext.refl w1).alloc (.cells #[.int .i64 x] 3))) (some ⟨w1.heap.size, 0, none⟩) 1 1 (fun _ => .int .i64 x) (by rfl) (slr_one (Blk.new w1 3 #[.int .i64 x] _ rfl)) (fun _ _ => rfl) (by unfold maxLen; omega) (by omega) (Nat.le_trans hE1.size (by simp)) (intv (putL [] x)) (fun _ _ => rfl) (fun j hj => by obtain rfl : j = 0 := (by omega); exact (congrArg (intv (putL [] x)) (by omega)).trans HM.out.2.1) ?_; intro v2 w2 hO2 hG2 hE2 hB2; replace hE2 := hE2 w (hE1.alloc (.cells #[.int .i64 x] 3)) (Nat.le_refl _)) | (refine step_pushAll (by rfl) _ _ 28 (by rfl) w.heap.size 3 i0 (.int .i64 0) 1 8 Tryd.underlying28 HI.out.1 HI.out.2.1 HI.out.2.2.1 HI.out.2.2.2 (by rfl) (by omega) v1 (0 + 0) (intv (putL [] x)) (by rfl) hO1 (some ⟨_, 0, none⟩) 1 1 (fun _ => .int .i64 x) (by rfl) (slr_one hx1) (fun _ _ => rfl) (by unfold maxLen; omega) (by omega) hE1.size (intv (putL [] x)) (fun _ _ => rfl) (fun j hj => by obtain rfl : j = 0 := (by omega); exact (congrArg (intv (putL [] x)) (by omega)).trans HM.out.2.1) ?_; intro v2 w2 hO2 hG2 hE2 hB2; replace hE2 := hE2 w hE1 (Nat.le_refl _)) | (refine step_pushAll (by rfl) _ _ 28 (by rfl) w.heap.size 3 i0 (.int .i64 0) 1 8 Tryd.underlying28 HI.out.1 HI.out.2.1 HI.out.2.2.1 HI.out.2.2.2 (by rfl) (by omega) v2 (0 + 0 + 1) (intv (putL [] x)) (by rfl) hO2 none 0 0 (fun j => intv [] (0 + j)) (by rfl) SlR.nil (fun _ _ => rfl) (by unfold maxLen; omega) (by omega) hE2.size (intv (putL [] x)) (fun _ _ => rfl) (fun j hj => (congrArg (intv (putL [] x)) (by omega)).trans (HM.out.2.2.1 j (by omega))) ?_; intro v3 w3 hO3 hG3 hE3 hB3; replace hE3 := hE3 w hE2 (Nat.le_refl _))))
    all_goals go_wp2_with fail
    all_goals go_ret
    all_goals exact ⟨⟨_, rfl, by rw [HM.out.2.2.2]; exact hO3.mono hb⟩, hE3⟩

theorem put_any (l : List Int) (x : Int) (b : Nat) (v : Value) (w : World) (hb : b ≤ w.heap.size) (hl : l.length < 1000000) (hO : OwnS w b 3 1 v l.length (intv l)) :
    Calls Tryd.prog 36 #[v, .int .i64 x] w (PutOut w b (putL l x)) := by
  rcases id hO.2 with ⟨rfl, h0⟩ | ⟨g, cap, cur, rfl, _⟩
  · obtain rfl := List.eq_nil_of_length_eq_zero h0
    exact put_none x b w hb
  · exact put_some l x b g cap w hb hl hO
end Go.Proofs.YtmpiodlkhjjbfaaDoor
