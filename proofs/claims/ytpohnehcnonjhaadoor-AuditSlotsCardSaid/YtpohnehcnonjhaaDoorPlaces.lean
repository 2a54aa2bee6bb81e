/- slices.Collect over word.set: word.Places. -/
import Derived.Test.YtpohnehcnonjhaaDoorSet2
import Derived.Maps.AppendAt
namespace Go.Proofs.YtpohnehcnonjhaaDoor
open Go.RowKit
set_option linter.unusedVariables false
set_option linter.unusedSimpArgs false
attribute [local go_sem] Oper.semAt_some

set_option maxHeartbeats 400000 in
theorem set_in (n v : Nat) (w : World) :
    CallsIn Fence.wide n Tryd.prog 30 #[.int .u64 v] w fun e w' => e = .returned (.func (.func 40) #[] #[.pointer (some ⟨w.heap.size, 0, none⟩)]) ∧ w' = w.alloc (.cells #[.int .u64 v] 23) := by
  refine callsIn_of_wp Tryd.func30 rfl trivial ?_ rfl
  simp only [Tryd.ntmps30, List.size_toArray, List.length_cons, List.length_nil, Nat.reduceAdd, Nat.reduceSub, Array.replicate_succ, Array.replicate_zero, List.push_toArray, List.append_toArray, List.nil_append, List.cons_append]
  gi_wp2
  go_ret
  exact ⟨rfl, rfl⟩

theorem Tryd.infoIntP : (Tryd.prog.info? 3).map (fun i => (i.zero, i.size, i.bytes)) = some (some (.int .i64 0), 1, 8) := by kernel_rfl
def natv (l : List Nat) (j : Nat) : Value := .int .i64 ((ix 0 l j : Nat) : Int)
theorem natv_old {l : List Nat} {x j : Nat} (h : j < l.length * 1) : natv (l ++ [x]) j = natv l j := by unfold natv; rw [ix_app_lt 0 l x (by omega)]
theorem natv_new {l : List Nat} {x j : Nat} (h : j < 1) : natv (l ++ [x]) (l.length * 1 + j) = .int .i64 (x : Int) := by
  obtain rfl : j = 0 := by omega
  unfold natv
  rw [Nat.mul_one, Nat.add_zero, ix_app_end]

set_option maxRecDepth 100000 in
set_option maxHeartbeats 2000000 in
/-- AppendSeq(nil, set(v)). -/
theorem appendSeq_in (n : Nat) (hn : 4 ≤ n) (b n₀ v : Nat) (w : World) (hv : v < 18446744073709551616) (hb : Boxed w b 23 (.int .u64 v)) (hn₀ : n₀ ≤ b) (hg : 1 < n₀) (hT : TabB w) :
    CallsIn Fence.wide n Tryd.prog 39 #[.slice none 0 0, .func (.func 40) #[] #[.pointer (some ⟨b, 0, none⟩)]] w fun e w' =>
      ∃ A c, e = .returned (.slice A (places v).length c) ∧ OwnS w' w.heap.size 3 1 (.slice A (places v).length c) (places v).length (natv (places v)) ∧ Below n₀ w w' := by
  obtain ⟨i0, hi, hz0, hz1, hz2⟩ := info_parts Tryd.infoIntP
  have HI := Lib.hid (And.intro hi (And.intro hz0 (And.intro hz1 hz2)))
  clear hi hz0 hz1 hz2
  refine callsIn_of_wp_marks Tryd.func39 rfl trivial ?_ rfl
  simp only [Tryd.ntmps39, List.size_toArray, List.length_cons, List.length_nil, Nat.reduceAdd, Nat.reduceSub, Array.replicate_succ, Array.replicate_zero, List.push_toArray, List.append_toArray, List.nil_append, List.cons_append]
  have hbl := hb.lt
  gi_wp2
  obtain ⟨B1, hB1⟩ : ∃ B1, w.heap.size = B1 := ⟨_, rfl⟩
  have bx := Boxed.new w 28 (.slice none 0 0)
  have hb2 := hb.alloc (.cells #[.slice none 0 0] 28)
  have hT2 : TabB (w.alloc (.cells #[.slice none 0 0] 28)) := hT.ext ((Ext.refl _).alloc _)
  have hB0 : Below n₀ w (w.alloc (.cells #[.slice none 0 0] 28)) := (Below.refl _ w).alloc (by omega) _
  have hsz : (w.alloc (.cells #[.slice none 0 0] 28)).heap.size = B1 + 1 := by simp; omega
  rw [hB1] at bx hbl ⊢
  obtain ⟨W0, hW0⟩ : ∃ W0, w.alloc (.cells #[.slice none 0 0] 28) = W0 := ⟨_, rfl⟩
  rw [hW0] at bx hb2 hT2 hB0 hsz ⊢
  clear hW0
  refine rangeR (by omega) (gf := 40) (lb := #[.pointer (some ⟨b, 0, none⟩)]) rfl (enters_of Tryd.func40 (by kernel_rfl) rfl) (set1_seq (n - 1) (by omega) n₀ b v W0 hv hb2 hn₀ hg hT2)
    (fun A B ⟨u, h⟩ => h ▸ (KeepsOthers.setCell _ _ _).from _) (fun _ => rfl) (fun h k => h.trans k) (fun W l o o' => KpS.put (by omega) (by omega) W l o o')
    (fun pre W => (∃ sv, Boxed W B1 28 sv ∧ W.ownsRow B1 3 1 sv pre.length (pre.map fun x => Value.int .i64 ((x : Nat) : Int)) ∧ True) ∧ (Below n₀ w W ∧ B1 + 1 ≤ W.heap.size))
    (fun _ _ _ => False)
    (OwnFrom.and (Own.from (holdsRow_own B1 B1 _ _ 1 (fun (pre : List Nat) => pre.length) (fun (pre : List Nat) => pre.map fun x => Value.int .i64 ((x : Nat) : Int)) (fun _ _ => True)) _) (OwnFrom.and (ownFrom_below (by omega) (by omega)) (ownFrom_size _ _)))
    (fun _ _ _ _ _ hs _ _ => hs)
    (fun pre A B hs hr => by
      obtain ⟨u, rfl⟩ := hr
      obtain ⟨⟨sv, h1, h2, _⟩, h3, h4⟩ := hs
      exact ⟨⟨sv, h1.other (by omega) _, ownsRow_setCell_below h2 (by simp; omega) _, trivial⟩, h3.setCell (p := ⟨b, 0, none⟩) hn₀ _, by simp; omega⟩)
    (fun _ _ _ _ hs _ => hs)
    ⟨⟨_, bx, World.ownsRow_nil _ _ _ _, trivial⟩, hB0, by omega⟩
    (fun x a' W => a' = { tmps := #[.slice none 0 0, .func (.func 40) #[] #[.pointer (some ⟨b, 0, none⟩)], .pointer (some ⟨B1, 0, none⟩), undef, .slice none 0 0, .int .i64 (x : Int), .func (.func 40) #[] #[.pointer (some ⟨b, 0, none⟩)], .int .i64 (x : Int), undef, undef, undef, undef, undef], defers := [] })
    (fun _ _ _ _ _ _ hs _ _ => hs)
    ?assign ?body ?done ?stop
  case assign =>
    rintro l pre x W K hi hK
    gi_wp2
    exact hK _ _ (KeepsFrom.refl _ _) (KpS.refl _ _ _) hi rfl
  case body =>
    rintro l pre x a' W hl hr ⟨⟨sv, hv0, hrow, _⟩, hB, hs1⟩ rfl hlt
    have hc := hv0.cell
    gi_wp2_with (gi_at_builtin; refine wpListIn_append_own _ rfl _ _ 28 rfl B1 3 i0 (.int .i64 0) 1 8 Tryd.underlying28 HI.out.1 HI.out.2.1 HI.out.2.2.1 HI.out.2.2.2 rfl (by decide) _ _ _ rfl (hrow.alloc _) ⟨W.heap.size, 0, none⟩ 1 1 [.int .i64 (x : Int)] rfl rfl (cell_one_new _ _ _) (by simp [Value.oneCell']) ?q1 ?q2 ?q3 ?_; (case q1 => unfold maxLen; omega); (case q2 => omega); (case q3 => simp; omega); intro v' w1 hown' hgrow _; obtain ⟨g', cap', rfl⟩ := ownsRow_succ hown'; obtain ⟨hv1, hv2, hr2, hk2, hb3⟩ := hv0.appended (by decide) hrow (by omega) (Nat.le_refl _) hown' hgrow; have hc1 := hv1.cell; have hf1 := hv1.frozen)
    have hsw := hb3.size
    exact ⟨hk2.from _, ⟨hb3.mono (by omega), hb3.block b (by omega)⟩, ⟨_, hv2, by simpa using hr2, trivial⟩, hB.trans (hb3.mono (by omega)), by omega⟩
  case done =>
    rintro D ys W hD rfl ⟨⟨sv, hv0, hrow, _⟩, hB, hs1⟩ hK
    have hO : OwnS W B1 3 1 sv (places v).length (natv (places v)) := by
      unfold OwnS
      have e : (List.range ((places v).length * 1)).map (natv (places v)) = (places v).map fun x => Value.int .i64 ((x : Nat) : Int) := by
        apply List.ext_getElem
        · simp
        · intro i h1 h2
          simp at h1
          simp [natv, ix_lt h1]
      rw [e]
      exact hrow
    obtain ⟨A, c, rfl, hcl, _⟩ := hO.form
    have hc := hv0.cell
    have HO := Lib.hid hO
    clear hO hrow
    gi_wp2
    refine ⟨by simp, .inl ⟨_, _, rfl, run_takeDeferred hK, ?_⟩⟩
    refine ⟨_, results_tmp rfl _ _ _, A, c, rfl, ?_, ?_⟩
    · rw [hB1]; exact ownsRow_putObj HO.out _ hK rfl
    · exact hB.trans (belowK_b (w := w) (by omega) W D _ _ (by omega) hK rfl rfl)
  case stop =>
    rintro D c pre W _ _ h _
    exact h.elim

set_option maxHeartbeats 1000000 in
theorem collect_in (n : Nat) (hn : 5 ≤ n) (b n₀ v : Nat) (w : World) (hv : v < 18446744073709551616) (hb : Boxed w b 23 (.int .u64 v)) (hn₀ : n₀ ≤ b) (hg : 1 < n₀) (hT : TabB w) :
    CallsIn Fence.wide n Tryd.prog 29 #[.func (.func 40) #[] #[.pointer (some ⟨b, 0, none⟩)]] w fun e w' =>
      ∃ A c, e = .returned (.slice A (places v).length c) ∧ OwnS w' w.heap.size 3 1 (.slice A (places v).length c) (places v).length (natv (places v)) ∧ Below n₀ w w' := by
  refine callsIn_of_wp Tryd.func29 rfl trivial ?_ rfl
  simp only [Tryd.ntmps29, List.size_toArray, List.length_cons, List.length_nil, Nat.reduceAdd, Nat.reduceSub, Array.replicate_succ, Array.replicate_zero, List.push_toArray, List.append_toArray, List.nil_append, List.cons_append]
  gi_wp2
  refine ⟨trivial, fun _ => by omega, ?_⟩
  refine (appendSeq_in (n - 1) (by omega) b n₀ v _ hv hb hn₀ hg hT).mono ?_
  rintro e w' ⟨A, c, rfl, hO, hB⟩
  gi_wp2
  go_ret
  exact ⟨A, c, rfl, hO, hB⟩

/-- Where the bits lie, in a slice of the call's own. -/
def PlacesOut (v : Nat) (w : World) (e : Ending) (w' : World) : Prop := (∃ A c, e = .returned (.slice A (places v).length c) ∧ OwnS w' w.heap.size 3 1 (.slice A (places v).length c) (places v).length (natv (places v))) ∧ Ext w w'
set_option maxHeartbeats 1000000 in
theorem places_any (v : Nat) (w : World) (hv : v < 18446744073709551616) (hT : TabB w) :
    Calls Tryd.prog 19 #[.int .u64 v] w (PlacesOut v w) := by
  have hlt := hT.lt
  have hb := Boxed.new w 23 (.int .u64 v)
  have hT2 : TabB (w.alloc (.cells #[.int .u64 v] 23)) := hT.ext ((Ext.refl _).alloc _)
  have HH := Lib.hid (And.intro hb hT2)
  clear hb hT2
  refine (callsIn_wide (n := 9)).1 ?_
  refine callsIn_of_wp Tryd.func19 rfl trivial ?_ rfl
  simp only [Tryd.ntmps19, List.size_toArray, List.length_cons, List.length_nil, Nat.reduceAdd, Nat.reduceSub, Array.replicate_succ, Array.replicate_zero, List.push_toArray, List.append_toArray, List.nil_append, List.cons_append]
  gi_wp2_with (refine ⟨trivial, ?_⟩; gi_at_call 30; refine (set_in _ v _).mono ?_; rintro e w' ⟨rfl, rfl⟩)
  refine ⟨trivial, ?_⟩
  refine (collect_in _ (by omega) w.heap.size w.heap.size v _ hv HH.out.1 (Nat.le_refl _) hlt HH.out.2).mono ?_
  rintro e w' ⟨A, c, rfl, hO, hB⟩
  gi_wp2
  go_ret
  exact ⟨⟨A, c, rfl, hO.mono (by simp)⟩, ((Below.refl _ w).alloc (Nat.le_refl _) _).trans hB⟩
end Go.Proofs.YtpohnehcnonjhaaDoor
