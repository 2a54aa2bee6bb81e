/- bitmap.words, and its iterator. -/
import Derived.Test.YtfppinabdalblaaGreatRangeR
import Derived.Test.YtfppinabdalblaaGreatProg
import Derived.Laws.Bits64b
namespace Go.Proofs.YtfppinabdalblaaGreat
open Go.RowKit
set_option linter.unusedVariables false
set_option linter.unusedSimpArgs false
attribute [local go_sem] Oper.semAt_some

def onesV (x : Int) : Int := IntKind.u64.wrap (IntKind.u64.wrap (2 ^ (if x < 0 then 0 else if 64 < x then 64 else x).toNat) - 1)
set_option maxHeartbeats 1000000 in
theorem ones17_any (x : Int) (w : World) : Calls Tryz.prog 106 #[.int .i64 x] w fun e w' => e = .returned (.int .u64 (onesV x)) ∧ w = w' := by
  by_cases hx : x < 0
  · have e : onesV x = IntKind.u64.wrap (IntKind.u64.wrap 1 - 1) := by unfold onesV; rw [if_pos hx]; rfl
    rw [e]
    clear e
    go_enter Tryz.func106, Tryz.ntmps106
    go_wp2
    all_goals first | omega | (go_ret; exact ⟨rfl, rfl⟩)
  · by_cases hy : 64 < x
    · have e : onesV x = IntKind.u64.wrap (IntKind.u64.wrap 18446744073709551616 - 1) := by unfold onesV; rw [if_neg hx, if_pos hy]; rfl
      rw [e]
      clear e
      go_enter Tryz.func106, Tryz.ntmps106
      go_wp2
      all_goals first | omega | (go_ret; exact ⟨rfl, rfl⟩)
    · have e : onesV x = IntKind.u64.wrap (IntKind.u64.wrap (2 ^ x.toNat) - 1) := by unfold onesV; rw [if_neg hx, if_neg hy]
      rw [e]
      clear e
      go_enter Tryz.func106, Tryz.ntmps106
      go_wp2
      all_goals first | omega | (go_ret; exact ⟨rfl, rfl⟩)
theorem two_of {e : Ending} {A C : Prop} (h : (e = .returned (.bool true) ∧ A) ∨ (e = .returned (.bool false) ∧ C)) : ∃ bv, e = .returned (.bool bv) ∧ ((bv = true ∧ A) ∨ (bv = false ∧ C)) := by
  rcases h with ⟨rfl, h⟩ | ⟨rfl, h⟩
  · exact ⟨true, rfl, .inl ⟨rfl, h⟩⟩
  · exact ⟨false, rfl, .inr ⟨rfl, h⟩⟩
theorem words_in (n : Nat) (p e : Int) (w : World) :
    CallsIn Fence.wide n Tryz.prog 85 #[.int .i64 p, .int .i64 e] w fun x w' => x = .returned (.func (.func 105) #[] #[.pointer (some ⟨w.heap.size, 0, none⟩), .pointer (some ⟨w.heap.size + 1, 0, none⟩)]) ∧ w' = (w.alloc (.cells #[.int .i64 p] 3)).alloc (.cells #[.int .i64 e] 3) := by
  refine callsIn_of_wp Tryz.func85 rfl trivial ?_ rfl
  simp only [Tryz.ntmps85, List.size_toArray, List.length_cons, List.length_nil, Nat.reduceAdd, Nat.reduceSub, Array.replicate_succ, Array.replicate_zero, List.push_toArray, List.append_toArray, List.nil_append, List.cons_append]
  gi_wp2
  go_ret
  exact ⟨rfl, rfl⟩
/-- What a round keeps: all below n₀, and the blocks b, b + 1. -/
def KpT (n₀ b : Nat) (W W' : World) : Prop := Below n₀ W W' ∧ W'.heap[b]? = W.heap[b]? ∧ W'.heap[b + 1]? = W.heap[b + 1]?
theorem KpT.refl (n₀ b : Nat) (W : World) : KpT n₀ b W W := ⟨Below.refl _ _, rfl, rfl⟩
theorem KpT.trans {n₀ b : Nat} {A B C : World} (h : KpT n₀ b A B) (k : KpT n₀ b B C) : KpT n₀ b A C := ⟨h.1.trans k.1, k.2.1.trans h.2.1, k.2.2.trans h.2.2⟩
theorem KpT.put {n₀ b : Nat} {w : World} (hn : n₀ ≤ w.heap.size) (hb : b + 1 < w.heap.size) (W : World) (l : Nat) (o o' : Obj) (hl : w.heap.size ≤ l) (h : W.heap[l]? = some o) (hc : o.isCells = false) (hw : o.isWalk = false) : KpT n₀ b W (W.putObj l o') :=
  ⟨belowK_b hn W l o o' hl h hc hw, World.putObj_heap_other (by omega), World.putObj_heap_other (by omega)⟩
/-- The iterator's own step. -/
def SetT (b : Nat) (A B : World) : Prop := (∃ v : Int, B = A.setCell ⟨b, 0, none⟩ (.int .i64 v)) ∨ B = A.drew
def atOf (b : Nat) (w : World) : Int := match w.cell? ⟨b, 0, none⟩ with | some (.int _ x) => x | _ => 0
theorem atOf_box {b : Nat} {t : TypeId} {w : World} {u : Int} (h : Boxed w b t (.int .i64 u)) : atOf b w = u := by
  unfold atOf; rw [h.cell]
set_option maxRecDepth 100000 in
set_option maxHeartbeats 2000000 in
theorem words1_seq (n : Nat) (hn : 1 ≤ n) (n₀ b : Nat) (p e : Int) (w : World) (hp : 0 ≤ p) (he : e ≤ 8192) (hb : Boxed w b 3 (.int .i64 p)) (hb2 : Boxed w (b + 1) 3 (.int .i64 e)) (hn₀ : n₀ ≤ b) :
    SeqR n Tryz.prog 105 #[.pointer (some ⟨b, 0, none⟩), .pointer (some ⟨b + 1, 0, none⟩)] (fun x : Int × Int => #[Value.int .i64 x.1, Value.int .u64 x.2]) (SetT b) (KpT n₀ b) (fun _ => True) (fun _ => True) 129 w := fun l J Jx W hW hJ hJx hY h0 => by
  have hbW : Boxed W b 3 (.int .i64 p) := (hW.block _ hb.lt).trans hb
  have hbW2 : Boxed W (b + 1) 3 (.int .i64 e) := (hW.block _ hb2.lt).trans hb2
  have HY := Lib.hid hY
  have HJ := Lib.hid hJ
  clear hY hJ hJx hW hb hb2
  refine callsIn_of_wp Tryz.func105 rfl trivial ?_ rfl
  simp only [Tryz.ntmps105, List.size_toArray, List.length_cons, List.length_nil, Nat.reduceAdd, Nat.reduceSub, Array.replicate_succ, Array.replicate_zero, List.push_toArray, List.append_toArray, List.nil_append, List.cons_append]
  gi_wp2
  gi_loopw [] (fun wr => ∃ (u : Int) (pre : List (Int × Int)), p ≤ u ∧ (u < e → (pre.length : Int) ≤ u / 64 - p / 64) ∧ J pre wr ∧ Boxed wr b 3 (.int .i64 u) ∧ Boxed wr (b + 1) 3 (.int .i64 e) ∧ Below n₀ W wr) (fun wr => (e - atOf b wr).toNat)
  case atStart => exact ⟨p, [], by omega, fun _ => by simp only [List.length_nil]; omega, h0, hbW, hbW2, Below.refl _ _⟩
  case round =>
    obtain ⟨u, pre, hu, hlen, hJs, hbx, hbe, hB⟩ := hrel
    have HR := Lib.hid (And.intro hJs hB)
    have c0 := hbx.cell
    have f0 := hbx.frozen
    have c1 := hbe.cell
    have HBx := Lib.hid (And.intro hbx hbe)
    clear hJs hbx hbe hbW hbW2 h0
    by_cases hu0 : u < e
    · have hu1 : 0 ≤ u := by omega
      have hlen1 : pre.length < 129 := by have := hlen hu0; omega
      have hm := Int.tmod_nonneg 64 hu1
      have hJ1 := HJ.out _ _ _ HR.out.1 (.inr (rfl : wr.drew = wr.drew))
      gi_wp2
      · obtain ⟨fn, tmps, assign, body, hy, hRd⟩ := HY.out pre (u / 64, IntKind.u64.wrap (onesV (IntKind.i64.wrap ((u / 64 + 1) * 64 - u)) * 2 ^ min (u.tmod 64).toNat 64)) _ hJ1 hlen1
        dsimp only at hy
        gi_region_with ((first | (refine ⟨trivial, ?_⟩; gi_at_call 106; refine (callsIn_wide.2 (ones17_any _ _)).mono ?_; rintro e1 w1 ⟨rfl, rfl⟩) | (refine hRd.mono ?_; rintro e1 W3 h3; obtain ⟨bv, rfl, H3⟩ := two_of h3)))
        all_goals (
          clear hy hRd
          rcases H3 with ⟨rfl, hJ3, hk3⟩ | ⟨rfl, hJx3⟩
          · have hb3 : Boxed W3 b 3 (.int .i64 u) := hk3.2.1.trans HBx.out.1
            have he3 : Boxed W3 (b + 1) 3 (.int .i64 e) := hk3.2.2.trans HBx.out.2
            have c3 := hb3.cell
            have f3 := hb3.frozen
            have H3 := Lib.hid (And.intro hJ3 (And.intro hk3 (And.intro hb3 he3)))
            clear hJ3 hk3 hb3 he3 hJ1
            gi_wp2
            go_roundw
            case rel => exact ⟨(u / 64 + 1) * 64, _, by omega, fun hx => by rw [List.length_append, List.length_singleton]; have := hlen hu0; omega, HJ.out _ _ _ H3.out.1 (.inl ⟨(u / 64 + 1) * 64, rfl⟩), H3.out.2.2.1.set _, H3.out.2.2.2.other (by omega) _, (HR.out.2.drew.trans H3.out.2.1.1).setCell (p := ⟨b, 0, none⟩) hn₀ _⟩
            case measure => rw [atOf_box (H3.out.2.2.1.set _), atOf_box HBx.out.1]; omega
          · have H3 := Lib.hid hJx3
            clear hJx3 hJ1
            gi_wp2
            refine bodyPost_ret (results_none rfl _ _ _) rfl ?_
            exact ⟨⟨_, rfl⟩, .inr ⟨_, H3.out⟩⟩)
      · obtain ⟨fn, tmps, assign, body, hy, hRd⟩ := HY.out pre (u / 64, IntKind.u64.wrap (onesV (IntKind.i64.wrap (e - u)) * 2 ^ min (u.tmod 64).toNat 64)) _ hJ1 hlen1
        dsimp only at hy
        gi_region_with ((first | (refine ⟨trivial, ?_⟩; gi_at_call 106; refine (callsIn_wide.2 (ones17_any _ _)).mono ?_; rintro e1 w1 ⟨rfl, rfl⟩) | (refine hRd.mono ?_; rintro e1 W3 h3; obtain ⟨bv, rfl, H3⟩ := two_of h3)))
        all_goals (
          clear hy hRd
          rcases H3 with ⟨rfl, hJ3, hk3⟩ | ⟨rfl, hJx3⟩
          · have hb3 : Boxed W3 b 3 (.int .i64 u) := hk3.2.1.trans HBx.out.1
            have he3 : Boxed W3 (b + 1) 3 (.int .i64 e) := hk3.2.2.trans HBx.out.2
            have c3 := hb3.cell
            have f3 := hb3.frozen
            have H3 := Lib.hid (And.intro hJ3 (And.intro hk3 (And.intro hb3 he3)))
            clear hJ3 hk3 hb3 he3 hJ1
            gi_wp2
            go_roundw
            case rel => exact ⟨e, _, by omega, fun hx => by rw [List.length_append, List.length_singleton]; have := hlen hu0; omega, HJ.out _ _ _ H3.out.1 (.inl ⟨e, rfl⟩), H3.out.2.2.1.set _, H3.out.2.2.2.other (by omega) _, (HR.out.2.drew.trans H3.out.2.1.1).setCell (p := ⟨b, 0, none⟩) hn₀ _⟩
            case measure => rw [atOf_box (H3.out.2.2.1.set _), atOf_box HBx.out.1]; omega
          · have H3 := Lib.hid hJx3
            clear hJx3 hJ1
            gi_wp2
            refine bodyPost_ret (results_none rfl _ _ _) rfl ?_
            exact ⟨⟨_, rfl⟩, .inr ⟨_, H3.out⟩⟩)
    · gi_wp2
      go_end0
      exact ⟨⟨_, rfl⟩, .inl ⟨_, HR.out.1⟩⟩
end Go.Proofs.YtfppinabdalblaaGreat
