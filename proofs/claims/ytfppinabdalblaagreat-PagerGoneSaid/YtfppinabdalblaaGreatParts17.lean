/- bitmap.Parts returns, and leaves what there was. -/
import Derived.Test.YtfppinabdalblaaGreatBits
import Derived.Test.YtfppinabdalblaaGreatRefl2
import Derived.Maps.AppendAt
namespace Go.Proofs.YtfppinabdalblaaGreat
open Go.RowKit
set_option linter.unusedVariables false
set_option linter.unusedSimpArgs false
attribute [local go_sem] Oper.semAt_some

theorem Tryz.infoPart : (Tryz.prog.info? 142).map (fun i => (i.zero, i.size, i.bytes)) = some (some (.agg #[.int .i64 0, .int .u64 0]), 2, 16) := by kernel_rfl
theorem cell_two_new (w : World) (x y : Value) (t : TypeId) : ∀ j u, [x, y][j]? = some u → (w.alloc (.cells #[x, y] t)).cell? ((⟨w.heap.size, 0, none⟩ : Addr).add j) = some u := by
  intro j u hj
  rcases j with _ | _ | j
  · exact cell_new w #[x, y] t 0 u (by simpa using hj)
  · exact cell_new w #[x, y] t 1 u (by simpa using hj)
  · simp at hj
theorem boxInt_own {β : Type} (B b : Nat) (t : TypeId) : OwnFrom B (fun (_ : β) W => ∃ u : Int, Boxed W b t (.int .i64 u)) := fun s W W' row ⟨u, h⟩ hg hr => ⟨u, h.kept hg (fun e => by
  obtain ⟨_, o, ho, hc⟩ := hr b e.symm
  rw [show W.heap[b]? = _ from h] at ho
  cases ho
  cases hc)⟩
def partsF (pre : List (Int × Int)) : List Value := pre.flatMap fun x => [Value.int .i64 x.1, .int .u64 x.2]
theorem partsF_snoc (pre : List (Int × Int)) (x : Int × Int) : partsF (pre ++ [x]) = partsF pre ++ [Value.int .i64 x.1, .int .u64 x.2] := by simp [partsF]

set_option maxRecDepth 100000 in
set_option maxHeartbeats 2000000 in
theorem parts17_any (p n : Int) (w : World) (hp : 0 ≤ p) (hp2 : p ≤ 4096) (hn : 1 ≤ n) (hn2 : n ≤ 4096) : Calls Tryz.prog 59 #[.int .i64 p, .int .i64 n] w fun e w' => ∃ v', e = .returned v' ∧ OneC v' ∧ Ext w w' := by
  obtain ⟨i0, hi, hz0, hz1, hz2⟩ := info_parts Tryz.infoPart
  have HI := Lib.hid (And.intro hi (And.intro hz0 (And.intro hz1 hz2)))
  clear hi hz0 hz1 hz2
  refine (callsIn_wide (n := 8)).1 ?_
  refine callsIn_of_wp_marks Tryz.func59 rfl trivial ?_ rfl
  simp only [Tryz.ntmps59, List.size_toArray, List.length_cons, List.length_nil, Nat.reduceAdd, Nat.reduceSub, Array.replicate_succ, Array.replicate_zero, List.push_toArray, List.append_toArray, List.nil_append, List.cons_append]
  have a1 : ¬ p < 0 := by omega
  have a2 : ¬ 1048576 < p := by omega
  have a3 : ¬ n < 1 := by omega
  have a4 : ¬ 1048576 < n := by omega
  obtain ⟨B0, hB0⟩ : ∃ B0, w.heap.size = B0 := ⟨_, rfl⟩
  gi_wp2_with (refine ⟨trivial, ?_⟩; gi_at_call 85; refine (words_in _ _ _ _).mono ?_; rintro e w' ⟨rfl, rfl⟩)
  have bo := ((Boxed.new w 73 (.slice none 0 0)).alloc (.cells #[.int .i64 p] 3)).alloc (.cells #[.int .i64 (p + n)] 3)
  have bp := (Boxed.new (w.alloc (.cells #[.slice none 0 0] 73)) 3 (.int .i64 p)).alloc (.cells #[.int .i64 (p + n)] 3)
  have be := Boxed.new ((w.alloc (.cells #[.slice none 0 0] 73)).alloc (.cells #[.int .i64 p] 3)) 3 (.int .i64 (p + n))
  have hB2 : Below w.heap.size w (((w.alloc (.cells #[.slice none 0 0] 73)).alloc (.cells #[.int .i64 p] 3)).alloc (.cells #[.int .i64 (p + n)] 3)) := (((Below.refl _ w).alloc (Nat.le_refl _) _).alloc (by simp) _).alloc (by simp; omega) _
  have hsz : (((w.alloc (.cells #[.slice none 0 0] 73)).alloc (.cells #[.int .i64 p] 3)).alloc (.cells #[.int .i64 (p + n)] 3)).heap.size = w.heap.size + 3 := by simp
  obtain ⟨W0, hW0⟩ : ∃ W0, ((w.alloc (.cells #[.slice none 0 0] 73)).alloc (.cells #[.int .i64 p] 3)).alloc (.cells #[.int .i64 (p + n)] 3) = W0 := ⟨_, rfl⟩
  rw [hW0] at bo bp be hB2 hsz ⊢
  simp only [World.size_alloc, hB0] at bo bp be hB2 hsz
  have HW := Lib.hid hB0
  clear hW0 a1 a2 a3 a4
  refine rangeR (by omega) (gf := 105) (lb := #[.pointer (some ⟨B0 + 1, 0, none⟩), .pointer (some ⟨B0 + 1 + 1, 0, none⟩)]) rfl (enters_of Tryz.func105 (by kernel_rfl) rfl) (words1_seq 7 (by omega) B0 (B0 + 1) p (p + n) W0 hp (by omega) bp be (by omega))
    (fun A B h => by
      rcases h with ⟨u, rfl⟩ | rfl
      · exact (KeepsOthers.setCell _ _ _).from _
      · exact (KeepsOthers.drew _).from _) (fun _ => rfl) (fun h k => h.trans k) (fun W l o o' => KpT.put (by omega) (by omega) W l o o')
    (fun pre W => ((∃ sv, Boxed W B0 73 sv ∧ W.ownsRow B0 142 2 sv pre.length (partsF pre) ∧ True) ∧ (∃ u : Int, Boxed W (B0 + 1) 3 (.int .i64 u)) ∧ (∃ u : Int, Boxed W (B0 + 1 + 1) 3 (.int .i64 u))) ∧ (Below B0 w W ∧ B0 + 3 ≤ W.heap.size))
    (fun _ _ _ => False)
    (OwnFrom.and (OwnFrom.and (Own.from (holdsRow_own B0 B0 _ _ 2 (fun (pre : List (Int × Int)) => pre.length) (fun (pre : List (Int × Int)) => partsF pre) (fun _ _ => True)) _) (OwnFrom.and (boxInt_own _ _ _) (boxInt_own _ _ _))) (OwnFrom.and (ownFrom_below (by omega) (by omega)) (ownFrom_size _ _)))
    (fun _ _ _ _ _ hs _ _ => hs)
    (fun pre A B hs hr => by
      obtain ⟨⟨⟨sv, h1, h2, _⟩, ⟨u1, h5⟩, ⟨u2, h6⟩⟩, h3, h4⟩ := hs
      rcases hr with ⟨u, rfl⟩ | rfl
      · exact ⟨⟨⟨sv, h1.other (by simp) _, h2.kept (grownBy_setCell' A (B0 + 1) _) (.inr (h5.not_row (by decide) h2).symm), trivial⟩, ⟨u, h5.set _⟩, ⟨u2, h6.other (by simp) _⟩⟩, h3.setCell (p := ⟨B0 + 1, 0, none⟩) (by simp) _, by simp; omega⟩
      · exact ⟨⟨⟨sv, h1, h2, trivial⟩, ⟨u1, h5⟩, ⟨u2, h6⟩⟩, h3.drew, h4⟩)
    (fun _ _ _ _ hs _ => hs)
    ⟨⟨⟨_, bo, World.ownsRow_nil _ _ _ _, trivial⟩, ⟨_, bp⟩, ⟨_, be⟩⟩, hB2, by omega⟩
    (fun x a' W => a' = { tmps := #[.int .i64 p, .int .i64 n, undef, undef, .pointer (some ⟨B0, 0, none⟩), .int .i64 x.1, .int .u64 x.2, .int .i64 p, .bool false, .bool false, .int .i64 p, .bool false, .bool false, .bool false, .int .i64 n, .bool false, .bool false, .bool false, .int .i64 n, .bool false, .bool false, .int .i64 p, .int .i64 p, .int .i64 n, .int .i64 (p + n), .func (.func 105) #[] #[.pointer (some ⟨B0 + 1, 0, none⟩), .pointer (some ⟨B0 + 1 + 1, 0, none⟩)], .int .i64 x.1, .int .u64 x.2, undef, undef, undef, undef, undef, undef, undef], defers := [] })
    (fun _ _ _ _ _ _ hs _ _ => hs)
    ?assign ?body ?done ?stop
  case assign =>
    rintro l pre x W K hi hK
    gi_wp2
    exact hK _ _ (KeepsFrom.refl _ _) (KpT.refl _ _ _) hi rfl
  case body =>
    rintro l pre x a' W hl hr ⟨⟨⟨sv, hv0, hrow, _⟩, ⟨u1, h5⟩, ⟨u2, h6⟩⟩, hB, hs1⟩ rfl hlt
    have hc := hv0.cell
    have H56 := Lib.hid (And.intro h5 h6)
    clear h5 h6 bo bp be
    gi_wp2_with (gi_at_builtin; refine wpListIn_append_own _ rfl _ _ 73 rfl B0 142 i0 (.agg #[.int .i64 0, .int .u64 0]) 2 16 Tryz.underlying73 HI.out.1 HI.out.2.1 HI.out.2.2.1 HI.out.2.2.2 rfl (by decide) _ _ _ rfl (hrow.alloc _) ⟨W.heap.size, 0, none⟩ 1 1 [.int .i64 x.1, .int .u64 x.2] rfl rfl (cell_two_new _ _ _ _) (by simp [Value.oneCell']) ?q1 ?q2 ?q3 ?_; (case q1 => unfold maxLen; omega); (case q2 => omega); (case q3 => simp; omega); intro v' w1 hown' hgrow _; obtain ⟨g', cap', rfl⟩ := ownsRow_succ hown'; obtain ⟨hv1, hv2, hr2, hk2, hb3⟩ := hv0.appended (by decide) hrow (by omega) (Nat.le_refl _) hown' hgrow; have hc1 := hv1.cell; have hf1 := hv1.frozen)
    have hsw := hb3.size
    have k1 := (H56.out.1.alloc (.cells #[.int .i64 x.1, .int .u64 x.2] 142)).kept hgrow (H56.out.1.not_row (by decide) hrow)
    have k2 := (H56.out.2.alloc (.cells #[.int .i64 x.1, .int .u64 x.2] 142)).kept hgrow (H56.out.2.not_row (by decide) hrow)
    have k3 := k1.other (B' := B0) (by omega) (.slice (some ⟨g', 0, none⟩) (pre.length + 1) cap')
    have k4 := k2.other (B' := B0) (by omega) (.slice (some ⟨g', 0, none⟩) (pre.length + 1) cap')
    exact ⟨hk2.from _, ⟨hb3, k3.trans H56.out.1.symm, k4.trans H56.out.2.symm⟩, ⟨⟨_, hv2, by rw [partsF_snoc]; simpa using hr2, trivial⟩, ⟨_, k3⟩, ⟨_, k4⟩⟩, hB.trans hb3, by omega⟩
  case done =>
    rintro D ys W hD _ ⟨⟨⟨sv, hv0, hrow, _⟩, _, _⟩, hB, hs1⟩ hK
    obtain ⟨A0, n0, c0, rfl⟩ : ∃ A n c, sv = .slice A n c := by rcases hrow.2 with ⟨rfl, _⟩ | ⟨g, cap, cur, rfl, _⟩ <;> exact ⟨_, _, _, rfl⟩
    have hc := hv0.cell
    have hf := hv0.frozen
    clear hrow bo bp be
    gi_wp2
    have hD3 : D ≠ B0 := by omega
    have hK2 : (W.setCell ⟨B0, 0, none⟩ (.slice A0 n0 c0)).heap[D]? = some (.deferred (some [])) := (Below.heap_setCell W ⟨B0, 0, none⟩ _ D (by simpa using hD3)).trans hK
    have hbx : Boxed ((W.setCell ⟨B0, 0, none⟩ (.slice A0 n0 c0)).putObj D (.deferred none)) B0 73 (.slice A0 n0 c0) := (World.putObj_heap_other hD3.symm).trans (hv0.set _)
    have hcc := hbx.cell
    refine ⟨by simp, .inl ⟨_, _, rfl, run_takeDeferred hK2, ?_⟩⟩
    refine ⟨.slice A0 n0 c0, ?_, .slice A0 n0 c0, rfl, trivial, ?_⟩
    · simp [results, Tryz.results59, loadVar, isAgg, run_underlying Tryz.underlying73, asAddr, Sem.run_bind, Result.andThen, go_sem, hcc]
    · unfold Ext
      rw [hB0]
      exact (hB.setCell (p := ⟨B0, 0, none⟩) (by simp) _).trans (belowK_b (w := w) (by omega) _ D _ _ (by omega) hK2 rfl rfl)
  case stop =>
    rintro D c pre W _ _ h _
    exact h.elim
end Go.Proofs.YtfppinabdalblaaGreat
