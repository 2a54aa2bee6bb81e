/- bitmap.Parts of 65 to 128 bits: two parts. -/
import Derived.Test.YtfppinabdalblaaGreatParts17
import Derived.Test.YtfppinabdalblaaGreatPgB
namespace Go.Proofs.YtfppinabdalblaaGreat
open Go.RowKit
set_option linter.unusedVariables false
set_option linter.unusedSimpArgs false
attribute [local go_sem] Oper.semAt_some

/-- A part: of which word, which of its bits. -/
def xPart (u to : Int) : Int × Int := (u / 64, IntKind.u64.wrap (onesV (IntKind.i64.wrap (to - u)) * 2 ^ min (u.tmod 64).toNat 64))
theorem xPart_one {u e : Int} {pre : List (Int × Int)} (h : (u = 0 ∧ pre = []) ∨ (u = 64 ∧ pre = [xPart 0 64]) ∨ (u = e ∧ pre = [xPart 0 64, xPart 64 e])) (hu : u < e) (ht : (u / 64 + 1) * 64 ≤ e) (he : e ≤ 128) :
    ((u / 64 + 1) * 64 = 0 ∧ pre ++ [(u / 64, IntKind.u64.wrap (onesV (IntKind.i64.wrap ((u / 64 + 1) * 64 - u)) * 2 ^ min (u.tmod 64).toNat 64))] = []) ∨ ((u / 64 + 1) * 64 = 64 ∧ pre ++ [(u / 64, IntKind.u64.wrap (onesV (IntKind.i64.wrap ((u / 64 + 1) * 64 - u)) * 2 ^ min (u.tmod 64).toNat 64))] = [xPart 0 64]) ∨ ((u / 64 + 1) * 64 = e ∧ pre ++ [(u / 64, IntKind.u64.wrap (onesV (IntKind.i64.wrap ((u / 64 + 1) * 64 - u)) * 2 ^ min (u.tmod 64).toNat 64))] = [xPart 0 64, xPart 64 e]) := by
  rcases h with ⟨rfl, rfl⟩ | ⟨rfl, rfl⟩ | ⟨rfl, rfl⟩
  · exact .inr (.inl ⟨rfl, rfl⟩)
  · obtain rfl : e = 128 := by omega
    exact .inr (.inr ⟨rfl, rfl⟩)
  · omega
theorem xPart_two {u e : Int} {pre : List (Int × Int)} (h : (u = 0 ∧ pre = []) ∨ (u = 64 ∧ pre = [xPart 0 64]) ∨ (u = e ∧ pre = [xPart 0 64, xPart 64 e])) (hu : u < e) (ht : e ≤ (u / 64 + 1) * 64) (he : 64 < e) :
    (e = 0 ∧ pre ++ [(u / 64, IntKind.u64.wrap (onesV (IntKind.i64.wrap (e - u)) * 2 ^ min (u.tmod 64).toNat 64))] = []) ∨ (e = 64 ∧ pre ++ [(u / 64, IntKind.u64.wrap (onesV (IntKind.i64.wrap (e - u)) * 2 ^ min (u.tmod 64).toNat 64))] = [xPart 0 64]) ∨ (e = e ∧ pre ++ [(u / 64, IntKind.u64.wrap (onesV (IntKind.i64.wrap (e - u)) * 2 ^ min (u.tmod 64).toNat 64))] = [xPart 0 64, xPart 64 e]) := by
  rcases h with ⟨rfl, rfl⟩ | ⟨rfl, rfl⟩ | ⟨rfl, rfl⟩
  · omega
  · exact .inr (.inr ⟨rfl, rfl⟩)
  · omega
theorem xPart_min {u e : Int} {pre : List (Int × Int)} (h : (u = 0 ∧ pre = []) ∨ (u = 64 ∧ pre = [xPart 0 64]) ∨ (u = e ∧ pre = [xPart 0 64, xPart 64 e])) (hu : u < e) (he1 : 64 < e) (he : e ≤ 128) :
    (min e ((u / 64 + 1) * 64) = 0 ∧ pre ++ [(u / 64, IntKind.u64.wrap (onesV (IntKind.i64.wrap (min e ((u / 64 + 1) * 64) - u)) * 2 ^ min (u.tmod 64).toNat 64))] = []) ∨ (min e ((u / 64 + 1) * 64) = 64 ∧ pre ++ [(u / 64, IntKind.u64.wrap (onesV (IntKind.i64.wrap (min e ((u / 64 + 1) * 64) - u)) * 2 ^ min (u.tmod 64).toNat 64))] = [xPart 0 64]) ∨ (min e ((u / 64 + 1) * 64) = e ∧ pre ++ [(u / 64, IntKind.u64.wrap (onesV (IntKind.i64.wrap (min e ((u / 64 + 1) * 64) - u)) * 2 ^ min (u.tmod 64).toNat 64))] = [xPart 0 64, xPart 64 e]) := by
  by_cases ht : (u / 64 + 1) * 64 ≤ e
  · rw [show min e ((u / 64 + 1) * 64) = (u / 64 + 1) * 64 by omega]
    exact xPart_one h hu ht he
  · rw [show min e ((u / 64 + 1) * 64) = e by omega]
    exact xPart_two h hu (by omega) he1
theorem xPart_end {u e : Int} {pre : List (Int × Int)} (h : (u = 0 ∧ pre = []) ∨ (u = 64 ∧ pre = [xPart 0 64]) ∨ (u = e ∧ pre = [xPart 0 64, xPart 64 e])) (hu : ¬ u < e) (he : 64 < e) : pre = [xPart 0 64, xPart 64 e] := by
  rcases h with ⟨rfl, rfl⟩ | ⟨rfl, rfl⟩ | ⟨rfl, rfl⟩
  · omega
  · omega
  · rfl
set_option maxRecDepth 100000 in
set_option maxHeartbeats 2000000 in
theorem words2_seq (n : Nat) (hn : 1 ≤ n) (n₀ b : Nat) (e : Int) (w : World) (he1 : 64 < e) (he : e ≤ 128) (hb : Boxed w b 3 (.int .i64 0)) (hb2 : Boxed w (b + 1) 3 (.int .i64 e)) (hn₀ : n₀ ≤ b) :
    SeqR n Tryz.prog 105 #[.pointer (some ⟨b, 0, none⟩), .pointer (some ⟨b + 1, 0, none⟩)] (fun x : Int × Int => #[Value.int .i64 x.1, Value.int .u64 x.2]) (SetT b) (KpT n₀ b) (fun ys => ys = [xPart 0 64, xPart 64 e]) (fun _ => True) 129 w := fun l J Jx W hW hJ hJx hY h0 => by
  have hbW : Boxed W b 3 (.int .i64 0) := (hW.block _ hb.lt).trans hb
  have hbW2 : Boxed W (b + 1) 3 (.int .i64 e) := (hW.block _ hb2.lt).trans hb2
  have HY := Lib.hid hY
  have HJ := Lib.hid hJ
  clear hY hJ hJx hW hb hb2
  refine callsIn_of_wp Tryz.func105 rfl trivial ?_ rfl
  simp only [Tryz.ntmps105, List.size_toArray, List.length_cons, List.length_nil, Nat.reduceAdd, Nat.reduceSub, Array.replicate_succ, Array.replicate_zero, List.push_toArray, List.append_toArray, List.nil_append, List.cons_append]
  gi_wp2
  gi_loopw [] (fun wr => ∃ (u : Int) (pre : List (Int × Int)), ((u = 0 ∧ pre = []) ∨ (u = 64 ∧ pre = [xPart 0 64]) ∨ (u = e ∧ pre = [xPart 0 64, xPart 64 e])) ∧ J pre wr ∧ Boxed wr b 3 (.int .i64 u) ∧ Boxed wr (b + 1) 3 (.int .i64 e) ∧ Below n₀ W wr) (fun wr => (e - atOf b wr).toNat)
  case atStart => exact ⟨0, [], .inl ⟨rfl, rfl⟩, h0, hbW, hbW2, Below.refl _ _⟩
  case round =>
    obtain ⟨u, pre, hcs, hJs, hbx, hbe, hB⟩ := hrel
    have HR := Lib.hid (And.intro hJs hB)
    have HC := Lib.hid hcs
    have hu : 0 ≤ u := by rcases hcs with ⟨h, _⟩ | ⟨h, _⟩ | ⟨h, _⟩ <;> omega
    have c0 := hbx.cell
    have f0 := hbx.frozen
    have c1 := hbe.cell
    have HBx := Lib.hid (And.intro hbx hbe)
    clear hJs hbx hbe hbW hbW2 h0
    by_cases hu0 : u < e
    · have hu1 : 0 ≤ u := by omega
      have hlen1 : pre.length < 129 := by rcases hcs with ⟨_, h⟩ | ⟨_, h⟩ | ⟨_, h⟩ <;> (rw [h]; simp)
      clear hcs
      have hm := Int.tmod_nonneg 64 hu1
      have hJ1 := HJ.out _ _ _ HR.out.1 (.inr (rfl : wr.drew = wr.drew))
      gi_wp2
      obtain ⟨fn, tmps, assign, body, hy, hRd⟩ := HY.out pre (u / 64, IntKind.u64.wrap (onesV (IntKind.i64.wrap (min e ((u / 64 + 1) * 64) - u)) * 2 ^ min (u.tmod 64).toNat 64)) _ hJ1 hlen1
      dsimp only at hy
      gi_region_with ((first | (refine ⟨trivial, ?_⟩; gi_at_call 106; refine (callsIn_wide.2 (ones17_any _ _)).mono ?_; rintro e1 w1 ⟨rfl, rfl⟩) | (refine hRd.mono ?_; rintro e1 W3 h3; obtain ⟨bv, rfl, H3⟩ := two_of h3)))
      all_goals (
        clear hy hRd
        rcases H3 with ⟨rfl, hJ3, hk3⟩ | ⟨rfl, hJx3⟩
        · have hb3 : Boxed W3 b 3 (.int .i64 u) := hk3.2.1.trans HBx.out.1
          have he3 : Boxed W3 (b + 1) 3 (.int .i64 e) := hk3.2.2.trans HBx.out.2
          have c3 := hb3.cell
          have f3 := hb3.frozen
          have H3 := Lib.hid (And.intro hJ3 (And.intro hk3 (And.intro hb3 he3)))
          clear hJ3 hk3 hb3 he3 hJ1
          gi_wp2
          go_roundw
          case rel => exact ⟨min e ((u / 64 + 1) * 64), _, xPart_min HC.out hu0 he1 he, HJ.out _ _ _ H3.out.1 (.inl ⟨min e ((u / 64 + 1) * 64), rfl⟩), H3.out.2.2.1.set _, H3.out.2.2.2.other (by omega) _, (HR.out.2.drew.trans H3.out.2.1.1).setCell (p := ⟨b, 0, none⟩) hn₀ _⟩
          case measure => rw [atOf_box (H3.out.2.2.1.set _), atOf_box HBx.out.1]; omega
        · have H3 := Lib.hid hJx3
          clear hJx3 hJ1
          gi_wp2
          refine bodyPost_ret (results_none rfl _ _ _) rfl ?_
          exact ⟨⟨_, rfl⟩, .inr ⟨_, H3.out⟩⟩)
    · gi_wp2
      go_end0
      exact ⟨⟨_, rfl⟩, .inl (xPart_end HC.out (by omega) he1 ▸ HR.out.1)⟩
set_option maxRecDepth 100000 in
set_option maxHeartbeats 2000000 in
theorem pg_parts' (p n : Int) (w : World) (hp0 : p = 0) (hn : 64 < n) (hn2 : n ≤ 128) : Calls Tryz.prog 59 #[.int .i64 p, .int .i64 n] w fun e w' => ∃ g cap cs, e = .returned (.slice (some ⟨g, 0, none⟩) 2 cap) ∧ 2 ≤ cap ∧ w.heap.size ≤ g ∧ w'.heap[g]? = some (.cells cs 142) ∧ cs.toList.take 4 = partsF [xPart 0 64, xPart 64 n] ∧ Ext w w' := by
  have HP := Lib.hid hp0
  have hp : 0 ≤ p := by omega
  have hpz : p ≤ 0 := by omega
  clear hp0
  obtain ⟨i0, hi, hz0, hz1, hz2⟩ := info_parts Tryz.infoPart
  have HI := Lib.hid (And.intro hi (And.intro hz0 (And.intro hz1 hz2)))
  clear hi hz0 hz1 hz2
  refine (callsIn_wide (n := 8)).1 ?_
  refine callsIn_of_wp_marks Tryz.func59 rfl trivial ?_ rfl
  simp only [Tryz.ntmps59, List.size_toArray, List.length_cons, List.length_nil, Nat.reduceAdd, Nat.reduceSub, Array.replicate_succ, Array.replicate_zero, List.push_toArray, List.append_toArray, List.nil_append, List.cons_append]
  have a1 : ¬ p < 0 := by omega
  have a2 : ¬ 1048576 < p := by omega
  have a3 : ¬ n < 1 := by omega
  have a4 : ¬ 1048576 < n := by omega
  obtain ⟨B0, hB0⟩ : ∃ B0, w.heap.size = B0 := ⟨_, rfl⟩
  gi_wp2_with (refine ⟨trivial, ?_⟩; gi_at_call 85; refine (words_in _ _ _ _).mono ?_; rintro e w' ⟨rfl, rfl⟩)
  have bo := ((Boxed.new w 73 (.slice none 0 0)).alloc (.cells #[.int .i64 p] 3)).alloc (.cells #[.int .i64 (p + n)] 3)
  have bp := (Boxed.new (w.alloc (.cells #[.slice none 0 0] 73)) 3 (.int .i64 p)).alloc (.cells #[.int .i64 (p + n)] 3)
  have be := Boxed.new ((w.alloc (.cells #[.slice none 0 0] 73)).alloc (.cells #[.int .i64 p] 3)) 3 (.int .i64 (p + n))
  have hB2 : Below w.heap.size w (((w.alloc (.cells #[.slice none 0 0] 73)).alloc (.cells #[.int .i64 p] 3)).alloc (.cells #[.int .i64 (p + n)] 3)) := (((Below.refl _ w).alloc (Nat.le_refl _) _).alloc (by simp) _).alloc (by simp; omega) _
  have hsz : (((w.alloc (.cells #[.slice none 0 0] 73)).alloc (.cells #[.int .i64 p] 3)).alloc (.cells #[.int .i64 (p + n)] 3)).heap.size = w.heap.size + 3 := by simp
  obtain ⟨W0, hW0⟩ : ∃ W0, ((w.alloc (.cells #[.slice none 0 0] 73)).alloc (.cells #[.int .i64 p] 3)).alloc (.cells #[.int .i64 (p + n)] 3) = W0 := ⟨_, rfl⟩
  rw [hW0] at bo bp be hB2 hsz ⊢
  simp only [World.size_alloc, hB0] at bo bp be hB2 hsz
  have HW := Lib.hid hB0
  clear hW0 a1 a2 a3 a4
  refine rangeR (by omega) (gf := 105) (lb := #[.pointer (some ⟨B0 + 1, 0, none⟩), .pointer (some ⟨B0 + 1 + 1, 0, none⟩)]) rfl (enters_of Tryz.func105 (by kernel_rfl) rfl) (words2_seq 7 (by omega) B0 (B0 + 1) (p + n) W0 (by omega) (by omega) (HP.out ▸ bp) be (by omega))
    (fun A B h => by
      rcases h with ⟨u, rfl⟩ | rfl
      · exact (KeepsOthers.setCell _ _ _).from _
      · exact (KeepsOthers.drew _).from _) (fun _ => rfl) (fun h k => h.trans k) (fun W l o o' => KpT.put (by omega) (by omega) W l o o')
    (fun pre W => ((∃ sv, Boxed W B0 73 sv ∧ W.ownsRow B0 142 2 sv pre.length (partsF pre) ∧ True) ∧ (∃ u : Int, Boxed W (B0 + 1) 3 (.int .i64 u)) ∧ (∃ u : Int, Boxed W (B0 + 1 + 1) 3 (.int .i64 u))) ∧ (Below B0 w W ∧ B0 + 3 ≤ W.heap.size))
    (fun _ _ _ => False)
    (OwnFrom.and (OwnFrom.and (Own.from (holdsRow_own B0 B0 _ _ 2 (fun (pre : List (Int × Int)) => pre.length) (fun (pre : List (Int × Int)) => partsF pre) (fun _ _ => True)) _) (OwnFrom.and (boxInt_own _ _ _) (boxInt_own _ _ _))) (OwnFrom.and (ownFrom_below (by omega) (by omega)) (ownFrom_size _ _)))
    (fun _ _ _ _ _ hs _ _ => hs)
    (fun pre A B hs hr => by
      obtain ⟨⟨⟨sv, h1, h2, _⟩, ⟨u1, h5⟩, ⟨u2, h6⟩⟩, h3, h4⟩ := hs
      rcases hr with ⟨u, rfl⟩ | rfl
      · exact ⟨⟨⟨sv, h1.other (by simp) _, h2.kept (grownBy_setCell' A (B0 + 1) _) (.inr (h5.not_row (by decide) h2).symm), trivial⟩, ⟨u, h5.set _⟩, ⟨u2, h6.other (by simp) _⟩⟩, h3.setCell (p := ⟨B0 + 1, 0, none⟩) (by simp) _, by simp; omega⟩
      · exact ⟨⟨⟨sv, h1, h2, trivial⟩, ⟨u1, h5⟩, ⟨u2, h6⟩⟩, h3.drew, h4⟩)
    (fun _ _ _ _ hs _ => hs)
    ⟨⟨⟨_, bo, World.ownsRow_nil _ _ _ _, trivial⟩, ⟨_, bp⟩, ⟨_, be⟩⟩, hB2, by omega⟩
    (fun x a' W => a' = { tmps := #[.int .i64 p, .int .i64 n, undef, undef, .pointer (some ⟨B0, 0, none⟩), .int .i64 x.1, .int .u64 x.2, .int .i64 p, .bool false, .bool false, .int .i64 p, .bool false, .bool false, .bool false, .int .i64 n, .bool false, .bool false, .bool false, .int .i64 n, .bool false, .bool false, .int .i64 p, .int .i64 p, .int .i64 n, .int .i64 (p + n), .func (.func 105) #[] #[.pointer (some ⟨B0 + 1, 0, none⟩), .pointer (some ⟨B0 + 1 + 1, 0, none⟩)], .int .i64 x.1, .int .u64 x.2, undef, undef, undef, undef, undef, undef, undef], defers := [] })
    (fun _ _ _ _ _ _ hs _ _ => hs)
    ?assign ?body ?done ?stop
  case assign =>
    rintro l pre x W K hi hK
    gi_wp2
    exact hK _ _ (KeepsFrom.refl _ _) (KpT.refl _ _ _) hi rfl
  case body =>
    rintro l pre x a' W hl hr ⟨⟨⟨sv, hv0, hrow, _⟩, ⟨u1, h5⟩, ⟨u2, h6⟩⟩, hB, hs1⟩ rfl hlt
    have hc := hv0.cell
    have H56 := Lib.hid (And.intro h5 h6)
    clear h5 h6 bo bp be
    gi_wp2_with (gi_at_builtin; refine wpListIn_append_own _ rfl _ _ 73 rfl B0 142 i0 (.agg #[.int .i64 0, .int .u64 0]) 2 16 Tryz.underlying73 HI.out.1 HI.out.2.1 HI.out.2.2.1 HI.out.2.2.2 rfl (by decide) _ _ _ rfl (hrow.alloc _) ⟨W.heap.size, 0, none⟩ 1 1 [.int .i64 x.1, .int .u64 x.2] rfl rfl (cell_two_new _ _ _ _) (by simp [Value.oneCell']) ?q1 ?q2 ?q3 ?_; (case q1 => unfold maxLen; omega); (case q2 => omega); (case q3 => simp; omega); intro v' w1 hown' hgrow _; obtain ⟨g', cap', rfl⟩ := ownsRow_succ hown'; obtain ⟨hv1, hv2, hr2, hk2, hb3⟩ := hv0.appended (by decide) hrow (by omega) (Nat.le_refl _) hown' hgrow; have hc1 := hv1.cell; have hf1 := hv1.frozen)
    have hsw := hb3.size
    have k1 := (H56.out.1.alloc (.cells #[.int .i64 x.1, .int .u64 x.2] 142)).kept hgrow (H56.out.1.not_row (by decide) hrow)
    have k2 := (H56.out.2.alloc (.cells #[.int .i64 x.1, .int .u64 x.2] 142)).kept hgrow (H56.out.2.not_row (by decide) hrow)
    have k3 := k1.other (B' := B0) (by omega) (.slice (some ⟨g', 0, none⟩) (pre.length + 1) cap')
    have k4 := k2.other (B' := B0) (by omega) (.slice (some ⟨g', 0, none⟩) (pre.length + 1) cap')
    exact ⟨hk2.from _, ⟨hb3, k3.trans H56.out.1.symm, k4.trans H56.out.2.symm⟩, ⟨⟨_, hv2, by rw [partsF_snoc]; simpa using hr2, trivial⟩, ⟨_, k3⟩, ⟨_, k4⟩⟩, hB.trans hb3, by omega⟩
  case done =>
    rintro D ys W hD hS ⟨⟨⟨sv, hv0, hrow, _⟩, _, _⟩, hB, hs1⟩ hK
    subst hS
    rcases hrow.2 with ⟨_, h9⟩ | ⟨g, c0, cur, rfl, hg, hh, hnc, hcap, hsz2, hcur⟩
    · simp at h9
    have hgB : g ≠ B0 := fun e => by
      rw [e, show W.heap[B0]? = _ from hv0] at hh
      simp at hh
    have hgD : g ≠ D := fun e => by rw [e, hK] at hh; cases hh
    have hc := hv0.cell
    have hf := hv0.frozen
    have HG := Lib.hid (And.intro hh (And.intro hnc (And.intro hcur hg)))
    clear hrow bo bp be hh hnc hcur hcap hsz2
    gi_wp2
    have hD3 : D ≠ B0 := by omega
    have hK2 : (W.setCell ⟨B0, 0, none⟩ (.slice (some ⟨g, 0, none⟩) 2 c0)).heap[D]? = some (.deferred (some [])) := (Below.heap_setCell W ⟨B0, 0, none⟩ _ D (by simpa using hD3)).trans hK
    have hbx : Boxed ((W.setCell ⟨B0, 0, none⟩ (.slice (some ⟨g, 0, none⟩) 2 c0)).putObj D (.deferred none)) B0 73 (.slice (some ⟨g, 0, none⟩) 2 c0) := (World.putObj_heap_other hD3.symm).trans (hv0.set _)
    have hcc := hbx.cell
    refine ⟨by simp, .inl ⟨_, _, rfl, run_takeDeferred hK2, ?_⟩⟩
    refine ⟨.slice (some ⟨g, 0, none⟩) 2 c0, ?_, g, c0, cur, rfl, HG.out.2.1, ?_, ?_, ?_, ?_⟩
    · simp [results, Tryz.results59, loadVar, isAgg, run_underlying Tryz.underlying73, asAddr, Sem.run_bind, Result.andThen, go_sem, hcc]
    · have := HG.out.2.2.2; omega
    · exact (World.putObj_heap_other hgD).trans ((Below.heap_setCell W ⟨B0, 0, none⟩ _ g (by simpa using hgB)).trans HG.out.1)
    · have := HG.out.2.2.1
      rw [HP.out, Int.zero_add] at this
      simpa using this
    · unfold Ext
      rw [hB0]
      exact (hB.setCell (p := ⟨B0, 0, none⟩) (by simp) _).trans (belowK_b (w := w) (by omega) _ D _ _ (by omega) hK2 rfl rfl)
  case stop =>
    rintro D c pre W _ _ h _
    exact h.elim
theorem pg_parts (n : Int) (w : World) (hn : 64 < n) (hn2 : n ≤ 128) : Calls Tryz.prog 59 #[.int .i64 0, .int .i64 n] w fun e w' => ∃ g cap cs, e = .returned (.slice (some ⟨g, 0, none⟩) 2 cap) ∧ 2 ≤ cap ∧ w.heap.size ≤ g ∧ w'.heap[g]? = some (.cells cs 142) ∧ cs.toList.take 4 = partsF [xPart 0 64, xPart 64 n] ∧ Ext w w' := pg_parts' 0 n w rfl hn hn2
theorem onesV_64 : onesV 64 = 18446744073709551615 := by decide +kernel
theorem onesV_n {x : Int} (h1 : 1 ≤ x) (h2 : x ≤ 64) : onesV x = ((2 ^ (min x.toNat 64) - 1 : Nat) : Int) := by
  unfold onesV
  rw [if_neg (by omega), if_neg (by omega)]
  rw [show min x.toNat 64 = x.toNat by omega]
  exact pg_ones_val x.toNat (by omega)
theorem xPart_0 : xPart 0 64 = (0, 18446744073709551615) := by decide +kernel
theorem xPart_1 {n : Int} {q : Nat} (h1 : 64 < n) (h2 : n ≤ 128) (hq : q = 2 ^ (min (n - 64).toNat 64) - 1) : xPart 64 n = (1, (q : Int)) := by
  unfold xPart
  have e1 : IntKind.i64.wrap (n - 64) = n - 64 := Go.IntWalk.i64_in _ (by omega)
  have hqb : q < 18446744073709551616 := by
    have : 2 ^ (min (n - 64).toNat 64) ≤ 2 ^ 64 := Nat.pow_le_pow_right (by decide) (by omega)
    have h3 : 0 < 2 ^ (min (n - 64).toNat 64) := Nat.two_pow_pos _
    omega
  have e2 : (64 : Int).tmod 64 = 0 := rfl
  rw [e1, onesV_n (by omega) (by omega), ← hq, e2]
  refine Prod.ext rfl ?_
  show IntKind.u64.wrap ((q : Int) * 1) = (q : Int)
  rw [IntKind.wrap_u64]
  omega
/-- Parts of so many bits, known ahead. -/
def pgMk (x y z : Nat) : FuncId → Array Value → World → Option (Array Value × TypeId × Nat) := fun f args w =>
  if f == 59 then match args.toList with
    | [.int .i64 0, .float _ k] => if k == x then some (#[.int .i64 0, kf z, .int .i64 1, kf y], 142, 2) else none
    | _ => none
  else none
theorem pgMk_ok {σ : Nat → Value} {W0 : World} {H : Nat} {x y z : Nat} {n : Int} {q : Nat} (h1 : 64 < n) (h2 : n ≤ 128) (hx : σ x = .int .i64 n) (hq : q = 2 ^ (min (n - 64).toNat 64) - 1) (hy : σ y = .int .u64 (q : Int)) (hz : σ z = .int .u64 18446744073709551615) : MkOK Tryz.prog σ W0 H (pgMk x y z) := by
  intro f args args' cs e m Γ A w w' h ha hw
  unfold pgMk at h
  split at h
  case isFalse => cases h
  rename_i hf
  have hf := eq_of_beq hf
  subst hf
  split at h
  case h_2 => cases h
  rename_i fk k hargs
  split at h
  case isFalse => cases h
  rename_i hk
  have hk := eq_of_beq hk
  subst hk
  cases h
  have ea : args = #[.int .i64 0, .float fk k] := Array.ext' (by simpa using hargs)
  subst ea
  obtain ⟨u0, e0, r0⟩ := ha.get (i := 0) rfl
  obtain ⟨u1, e1, r1⟩ := ha.get (i := 1) rfl
  have ea' : args' = #[u0, u1] := by
    have hs2 : args'.size = 2 := ha.1.symm
    refine Array.ext (by rw [hs2]; rfl) fun i h1 h2 => ?_
    rcases (show i = 0 ∨ i = 1 by omega) with rfl | rfl
    · rw [Array.getElem?_eq_getElem h1] at e0; exact Option.some.inj e0
    · rw [Array.getElem?_eq_getElem h1] at e1; exact Option.some.inj e1
  subst ea'
  cases r0
  cases r1
  rw [hx]
  refine (pg_parts n w' h1 h2).mono ?_
  rintro x w'' ⟨g, cap, cs, rfl, hc, hg, hh, ht, hE⟩
  refine ⟨g, cap, cs, _, rfl, hE, hg, hh, ?_, hc, by decide⟩
  rw [xPart_0, xPart_1 h1 h2 hq] at ht
  have hcell : ∀ (i : Nat) (v : Value), (partsF [(0, 18446744073709551615), (1, (q : Int))])[i]? = some v → cs[i]? = some v := by
    intro i v hi
    rw [← ht, List.getElem?_take] at hi
    split at hi
    · simpa using hi
    · cases hi
  have hlen : 4 ≤ cs.size := by
    have := congrArg List.length ht
    simp [partsF] at this
    omega
  refine ⟨hlen, fun i v hv => ?_⟩
  rcases i with _ | _ | _ | _ | i
  · cases hv; exact ⟨_, hcell 0 _ rfl, .int _ _⟩
  · cases hv
    refine ⟨_, hcell 1 _ rfl, ?_⟩
    have := RV.tok (σ := σ) (A := A) .f64 z
    rw [hz] at this
    exact this
  · cases hv; exact ⟨_, hcell 2 _ rfl, .int _ _⟩
  · cases hv
    refine ⟨_, hcell 3 _ rfl, ?_⟩
    have := RV.tok (σ := σ) (A := A) .f64 y
    rw [hy] at this
    exact this
  · simp at hv
end Go.Proofs.YtfppinabdalblaaGreat
