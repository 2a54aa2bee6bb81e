/- word.set's iterator. -/
import Derived.Test.YtpohnehcnonjhaaDoorSet
namespace Go.Proofs.YtpohnehcnonjhaaDoor
open Go.RowKit
set_option linter.unusedVariables false
set_option linter.unusedSimpArgs false
attribute [local go_sem] Oper.semAt_some

/-- What a round keeps: all below n₀, and the block b. -/
def KpS (n₀ b : Nat) (W W' : World) : Prop := Below n₀ W W' ∧ W'.heap[b]? = W.heap[b]?
theorem KpS.refl (n₀ b : Nat) (W : World) : KpS n₀ b W W := ⟨Below.refl _ _, rfl⟩
theorem KpS.trans {n₀ b : Nat} {A B C : World} (h : KpS n₀ b A B) (k : KpS n₀ b B C) : KpS n₀ b A C := ⟨h.1.trans k.1, k.2.trans h.2⟩
theorem KpS.put {n₀ b : Nat} {w : World} (hn : n₀ ≤ w.heap.size) (hb : b < w.heap.size) (W : World) (l : Nat) (o o' : Obj) (hl : w.heap.size ≤ l) (h : W.heap[l]? = some o) (hc : o.isCells = false) (hw : o.isWalk = false) : KpS n₀ b W (W.putObj l o') :=
  ⟨belowK_b hn W l o o' hl h hc hw, World.putObj_heap_other (by omega)⟩
theorem KpS.alloc {n₀ b : Nat} {A B : World} (h : KpS n₀ b A B) (h1 : n₀ ≤ B.heap.size) (h2 : b < B.heap.size) (o : Obj) : KpS n₀ b A (B.alloc o) := ⟨h.1.alloc h1 o, (Below.heap_alloc B o b h2).trans h.2⟩
theorem KpS.setCell {n₀ b : Nat} {A B : World} (h : KpS n₀ b A B) {p : Addr} (h1 : n₀ ≤ p.block) (h2 : b ≠ p.block) (v : Value) : KpS n₀ b A (B.setCell p v) := ⟨h.1.setCell h1 v, (Below.heap_setCell B p v b h2).trans h.2⟩
/-- The iterator's own step. -/
def SetR (b : Nat) (A B : World) : Prop := ∃ v : Nat, B = A.setCell ⟨b, 0, none⟩ (.int .u64 v)
def leftOf (b : Nat) (w : World) : Nat := match w.cell? ⟨b, 0, none⟩ with | some (.int _ x) => x.toNat | _ => 0
theorem leftOf_box {b : Nat} {t : TypeId} {w : World} {u : Nat} (h : Boxed w b t (.int .u64 u)) : leftOf b w = u := by
  unfold leftOf; rw [h.cell]; simp

set_option maxRecDepth 100000 in
set_option maxHeartbeats 2000000 in
theorem set1_seq (n : Nat) (hn : 1 ≤ n) (n₀ b v : Nat) (w : World) (hv : v < 18446744073709551616) (hb : Boxed w b 23 (.int .u64 v)) (hn₀ : n₀ ≤ b) (hg : 1 < n₀) (hT : TabB w) :
    SeqR n Tryd.prog 40 #[.pointer (some ⟨b, 0, none⟩)] (fun x : Nat => #[Value.int .i64 (x : Int)]) (SetR b) (KpS n₀ b) (fun ys => ys = places v) (fun pre => pre <+: places v) 64 w := fun l J Jx W hW hJ hJx hY h0 => by
  have hbW : Boxed W b 23 (.int .u64 v) := (hW.block _ hb.lt).trans hb
  have hTW : TabB W := hT.ext hW
  have HY := Lib.hid hY
  have HJ := Lib.hid hJ
  clear hY hJ hJx hW hb hT
  refine callsIn_of_wp Tryd.func40 rfl trivial ?_ rfl
  simp only [Tryd.ntmps40, List.size_toArray, List.length_cons, List.length_nil, Nat.reduceAdd, Nat.reduceSub, Array.replicate_succ, Array.replicate_zero, List.push_toArray, List.append_toArray, List.nil_append, List.cons_append]
  gi_wp2
  gi_loopw [] (fun wr => ∃ (u : Nat) (pre : List Nat), u < 18446744073709551616 ∧ places v = pre ++ places u ∧ J pre wr ∧ Boxed wr b 23 (.int .u64 u) ∧ Below n₀ W wr) (fun wr => leftOf b wr)
  case atStart => exact ⟨v, [], hv, by simp, h0, hbW, Below.refl _ _⟩
  case round =>
    obtain ⟨u, pre, hu, hpl, hJs, hbx, hB⟩ := hrel
    have HR := Lib.hid (And.intro hpl (And.intro hJs hB))
    have c0 := hbx.cell
    have f0 := hbx.frozen
    have HBx := Lib.hid hbx
    clear hpl hJs hbx hbW h0
    by_cases hu0 : u = 0
    · subst hu0
      gi_wp2
      refine ⟨trivial, ?_⟩
      gi_wp2
      refine ⟨fun _ h => (by cases h), ?_⟩
      gi_wp2
      go_end0
      exact ⟨⟨_, rfl⟩, .inl ⟨_, rfl, by have h := HR.out.1; rw [places_zero, List.append_nil] at h; rw [h]; exact HR.out.2.1⟩⟩
    · have e0 : ((u : Int) != 0) = true := by simpa using hu0
      obtain ⟨s1, s2, s3⟩ := places_step hu0 hu
      have hlen : pre.length < 64 := by have h := places_len v; rw [HR.out.1, List.length_append, s1, List.length_cons] at h; omega
      obtain ⟨fn, tmps, assign, body, hy, hRd⟩ := HY.out pre (Lib.ctz 64 u) _ HR.out.2.1 hlen
      have htz := tz_any u hu hu0 wr (hTW.below hg HR.out.2.2)
      have HTz := Lib.hid htz
      have u1 : 1 ≤ u := by omega
      have ha : bits .and .u64 (u : Int) ((u : Int) - 1) = ((u &&& (u - 1) : Nat) : Int) := by
        rw [show (u : Int) - 1 = ((u - 1 : Nat) : Int) by omega]; exact bits_and_u64_nat u (u - 1) hu (by omega)
      have HS := Lib.hid (And.intro s1 (And.intro s2 s3))
      clear s1 s2 s3 htz hu0 hlen
      generalize u &&& (u - 1) = u2 at ha HS
      generalize Lib.ctz 64 u = k at hy hRd HTz HS
      gi_wp2_with (refine ⟨trivial, ?_⟩; gi_at_call 41; refine (callsIn_wide.2 HTz.out).mono ?_; rintro e w' ⟨rfl, rfl⟩)
      obtain ⟨wr, rfl⟩ : ∃ x, x = w' := ⟨_, rfl⟩
      refine hRd.mono ?_
      rintro e W3 (⟨rfl, hJ3, hk3⟩ | ⟨rfl, hJx3⟩)
      · have hb3 : Boxed W3 b 23 (.int .u64 u) := hk3.2.trans HBx.out
        have c3 := hb3.cell
        have f3 := hb3.frozen
        have H3 := Lib.hid (And.intro hJ3 (And.intro hk3 hb3))
        clear hJ3 hk3 hb3
        gi_wp2
        go_roundw
        case rel => exact ⟨u2, pre ++ [k], by have := HS.out.2.2; omega, by rw [HR.out.1, HS.out.1]; simp, HJ.out _ _ _ H3.out.1 ⟨u2, rfl⟩, H3.out.2.2.set _, (HR.out.2.2.trans H3.out.2.1.1).setCell (p := ⟨b, 0, none⟩) hn₀ _⟩
        case measure => rw [leftOf_box (H3.out.2.2.set _), leftOf_box HBx.out]; exact HS.out.2.2
      · have H3 := Lib.hid hJx3
        clear hJx3
        gi_wp2
        go_end0
        exact ⟨⟨_, rfl⟩, .inr ⟨pre ++ [k], ⟨places u2, by rw [HR.out.1, HS.out.1]; simp⟩, H3.out⟩⟩
end Go.Proofs.YtpohnehcnonjhaaDoor
