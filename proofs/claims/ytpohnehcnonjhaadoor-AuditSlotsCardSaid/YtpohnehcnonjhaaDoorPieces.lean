/- Pieces of pages: plain words; the iterator of audit.pieces. -/
import Derived.Test.YtpohnehcnonjhaaDoorRows
import Derived.Test.YtpohnehcnonjhaaDoorRangeR
import Derived.RangeFuncNested
import Derived.RangeFuncBound
import Derived.RangeFuncCalls
import Derived.RangeFuncLeaves
import Derived.RangeFuncBox
import Derived.Shelf.Abstract
import Derived.Shelf.RegionOpen
import Derived.OwnWalkIn
import Derived.TacticsInMore
import Derived.LoopNIn
import Derived.LoopIn
namespace Go.Proofs.YtpohnehcnonjhaaDoor
open Go.RowKit
set_option linter.unusedVariables false
set_option linter.unusedSimpArgs false
attribute [local go_sem] Oper.semAt_some

/-- A run, a span, a hand, as they are read. -/
structure RunD where
  a : Int
  n : Int
structure SpanD where
  page : Int
  pages : Int
  cls : Int
  gen : Int
  phase : Int
  alloc : Nat
  mark : Nat
structure HandD where
  thread : Int
  a : Int
  n : Int
def noRun : RunD := ⟨0, 0⟩
def noSpan : SpanD := ⟨0, 0, 0, 0, 0, 0, 0⟩
def noHand : HandD := ⟨0, 0, 0⟩
def runv (l : List RunD) (j : Nat) : Value := if j % 2 = 0 then .int .i64 (ix noRun l (j / 2)).a else .int .i64 (ix noRun l (j / 2)).n
def spanv (l : List SpanD) (j : Nat) : Value :=
  match j % 7 with
  | 0 => .int .i64 (ix noSpan l (j / 7)).page
  | 1 => .int .i64 (ix noSpan l (j / 7)).pages
  | 2 => .int .i64 (ix noSpan l (j / 7)).cls
  | 3 => .int .i64 (ix noSpan l (j / 7)).gen
  | 4 => .int .i64 (ix noSpan l (j / 7)).phase
  | 5 => .int .u64 (ix noSpan l (j / 7)).alloc
  | _ => .int .u64 (ix noSpan l (j / 7)).mark
def handv (l : List HandD) (j : Nat) : Value := if j % 3 = 0 then .int .i64 (ix noHand l (j / 3)).thread else if j % 3 = 1 then .int .i64 (ix noHand l (j / 3)).a else .int .i64 (ix noHand l (j / 3)).n
def RunsR (w : World) (A : Option Addr) (l : List RunD) : Prop := SlR w A l.length 2 (runv l)
def SpansR (w : World) (A : Option Addr) (l : List SpanD) : Prop := SlR w A l.length 7 (spanv l)
def HandsR (w : World) (A : Option Addr) (l : List HandD) : Prop := SlR w A l.length 3 (handv l)
theorem runv0 (l : List RunD) (k : Nat) : runv l (k * 2) = .int .i64 (ix noRun l k).a := by simp [runv]
theorem runv1 (l : List RunD) (k : Nat) : runv l (k * 2 + 1) = .int .i64 (ix noRun l k).n := by simp [runv, show (k * 2 + 1) / 2 = k by omega]
theorem spanv0 (l : List SpanD) (k : Nat) : spanv l (k * 7) = .int .i64 (ix noSpan l k).page := by simp [spanv]
theorem spanv1 (l : List SpanD) (k : Nat) : spanv l (k * 7 + 1) = .int .i64 (ix noSpan l k).pages := by simp [spanv, show (k * 7 + 1) % 7 = 1 by omega, show (k * 7 + 1) / 7 = k by omega]
theorem spanv2 (l : List SpanD) (k : Nat) : spanv l (k * 7 + 2) = .int .i64 (ix noSpan l k).cls := by simp [spanv, show (k * 7 + 2) % 7 = 2 by omega, show (k * 7 + 2) / 7 = k by omega]
theorem spanv3 (l : List SpanD) (k : Nat) : spanv l (k * 7 + 3) = .int .i64 (ix noSpan l k).gen := by simp [spanv, show (k * 7 + 3) % 7 = 3 by omega, show (k * 7 + 3) / 7 = k by omega]
theorem spanv4 (l : List SpanD) (k : Nat) : spanv l (k * 7 + 4) = .int .i64 (ix noSpan l k).phase := by simp [spanv, show (k * 7 + 4) % 7 = 4 by omega, show (k * 7 + 4) / 7 = k by omega]
theorem spanv5 (l : List SpanD) (k : Nat) : spanv l (k * 7 + 5) = .int .u64 (ix noSpan l k).alloc := by simp [spanv, show (k * 7 + 5) % 7 = 5 by omega, show (k * 7 + 5) / 7 = k by omega]
theorem spanv6 (l : List SpanD) (k : Nat) : spanv l (k * 7 + 6) = .int .u64 (ix noSpan l k).mark := by simp [spanv, show (k * 7 + 6) % 7 = 6 by omega, show (k * 7 + 6) / 7 = k by omega]
theorem handv0 (l : List HandD) (k : Nat) : handv l (k * 3) = .int .i64 (ix noHand l k).thread := by simp [handv]
theorem handv1 (l : List HandD) (k : Nat) : handv l (k * 3 + 1) = .int .i64 (ix noHand l k).a := by simp [handv, show (k * 3 + 1) % 3 = 1 by omega, show (k * 3 + 1) / 3 = k by omega]
theorem handv2 (l : List HandD) (k : Nat) : handv l (k * 3 + 2) = .int .i64 (ix noHand l k).n := by simp [handv, show (k * 3 + 2) % 3 = 2 by omega, show (k * 3 + 2) / 3 = k by omega]

/-- A piece: what it is of, where it begins, how many pages. -/
structure Pc where
  kind : Int
  a : Int
  n : Int
def encPc (x : Pc) : Array Value := #[.int .i64 x.kind, .agg #[.int .i64 x.a, .int .i64 x.n]]
def pcs (fr : List RunD) (sp : List SpanD) (hd : List HandD) : List Pc := fr.map (fun x => ⟨1, x.a, x.n⟩) ++ (sp.map (fun x => ⟨2, x.page, x.pages⟩) ++ hd.map (fun x => ⟨3, x.a, x.n⟩))
theorem pcs_len (fr : List RunD) (sp : List SpanD) (hd : List HandD) : (pcs fr sp hd).length = fr.length + (sp.length + hd.length) := by simp [pcs]
def noPc : Pc := ⟨0, 0, 0⟩
theorem pc_run {fr : List RunD} {sp : List SpanD} {hd : List HandD} {k : Nat} (h : k < fr.length) : ix noPc (pcs fr sp hd) k = ⟨1, (ix noRun fr k).a, (ix noRun fr k).n⟩ := by
  rw [ix_lt (by rw [pcs_len]; omega), ix_lt h]
  unfold pcs
  rw [List.getElem_append_left (by simpa using h), List.getElem_map]
theorem pc_span {fr : List RunD} {sp : List SpanD} {hd : List HandD} {k : Nat} (h : k < sp.length) : ix noPc (pcs fr sp hd) (fr.length + k) = ⟨2, (ix noSpan sp k).page, (ix noSpan sp k).pages⟩ := by
  rw [ix_lt (by rw [pcs_len]; omega), ix_lt h]
  unfold pcs
  rw [List.getElem_append_right (by simp), List.getElem_append_left (by simpa using h), List.getElem_map]
  simp
theorem pc_hand {fr : List RunD} {sp : List SpanD} {hd : List HandD} {k : Nat} (h : k < hd.length) : ix noPc (pcs fr sp hd) (fr.length + sp.length + k) = ⟨3, (ix noHand hd k).a, (ix noHand hd k).n⟩ := by
  rw [ix_lt (by rw [pcs_len]; omega), ix_lt h]
  unfold pcs
  rw [List.getElem_append_right (by simp; omega), List.getElem_append_right (by simp; omega), List.getElem_map]
  simp [show fr.length + sp.length + k - fr.length - sp.length = k by omega]
theorem take_pc {xs : List Pc} {k : Nat} (h : k < xs.length) : xs.take (k + 1) = xs.take k ++ [ix noPc xs k] := by
  rw [List.take_succ_eq_append_getElem h, ix_lt h]

/-- What a round keeps: all that lay below n₀, and the three boxes from m on. -/
def KpB (n₀ m : Nat) (W W' : World) : Prop := Below n₀ W W' ∧ ∀ b, m ≤ b → b < m + 3 → W'.heap[b]? = W.heap[b]?
theorem KpB.refl (n₀ m : Nat) (W : World) : KpB n₀ m W W := ⟨Below.refl _ _, fun _ _ _ => rfl⟩
theorem KpB.trans {n₀ m : Nat} {A B C : World} (h : KpB n₀ m A B) (k : KpB n₀ m B C) : KpB n₀ m A C := ⟨h.1.trans k.1, fun b h1 h2 => (k.2 b h1 h2).trans (h.2 b h1 h2)⟩
theorem KpB.alloc {n₀ m : Nat} {A B : World} (h : KpB n₀ m A B) (h1 : n₀ ≤ B.heap.size) (h2 : m + 3 ≤ B.heap.size) (o : Obj) : KpB n₀ m A (B.alloc o) :=
  ⟨h.1.alloc h1 o, fun b k1 k2 => (Below.heap_alloc B o b (by omega)).trans (h.2 b k1 k2)⟩
theorem KpB.setCell {n₀ m : Nat} {A B : World} (h : KpB n₀ m A B) {p : Addr} (h1 : n₀ ≤ p.block) (h2 : p.block < m ∨ m + 3 ≤ p.block) (v : Value) : KpB n₀ m A (B.setCell p v) :=
  ⟨h.1.setCell h1 v, fun b k1 k2 => (Below.heap_setCell B p v b (by omega)).trans (h.2 b k1 k2)⟩
theorem KpB.put {n₀ m : Nat} {w : World} (hn : n₀ ≤ w.heap.size) (hm : m + 3 ≤ w.heap.size) (W : World) (l : Nat) (o o' : Obj) (hl : w.heap.size ≤ l) (h : W.heap[l]? = some o) (hc : o.isCells = false) (hw : o.isWalk = false) : KpB n₀ m W (W.putObj l o') :=
  ⟨belowK_b hn W l o o' hl h hc hw, fun b k1 k2 => World.putObj_heap_other (by omega)⟩
theorem KpB.box {n₀ m : Nat} {A B : World} (h : KpB n₀ m A B) {b : Nat} {t : TypeId} {v : Value} (hb : Boxed A b t v) (h1 : m ≤ b) (h2 : b < m + 3) : Boxed B b t v := (h.2 b h1 h2).trans hb
/-- A slice that lies below n₀. -/
def SlB (n₀ : Nat) (w : World) (A : Option Addr) (n sz : Nat) (f : Nat → Value) : Prop := 0 < n → ∃ b off, A = some ⟨b, off, none⟩ ∧ b < n₀ ∧ ∀ j, j < n * sz → w.cell? ⟨b, off + j, none⟩ = some (f j)
theorem SlB.of {w : World} {A : Option Addr} {n sz : Nat} {f : Nat → Value} (h : SlR w A n sz f) (hsz : 0 < sz) : SlB w.heap.size w A n sz f := by
  intro hn
  obtain ⟨b, off, hA, hc⟩ := h hn
  exact ⟨b, off, hA, World.block_lt_of_cell? _ _ (hc 0 (Nat.mul_pos hn hsz)), hc⟩
theorem SlB.below {n₀ : Nat} {w w' : World} {A : Option Addr} {n sz : Nat} {f : Nat → Value} (h : SlB n₀ w A n sz f) (hb : Below n₀ w w') : SlB n₀ w' A n sz f := by
  intro hn
  obtain ⟨b, off, hA, hlt, hc⟩ := h hn
  exact ⟨b, off, hA, hlt, fun j hj => (hb.cell (p := ⟨b, off + j, none⟩) hlt).trans (hc j hj)⟩

set_option maxRecDepth 100000 in
set_option maxHeartbeats 4000000 in
theorem pieces1_in (n : Nat) (hn : 1 ≤ n) (l n₀ m : Nat) (fr : List RunD) (sp : List SpanD) (hd : List HandD) (fA sA hA : Option Addr) (fc sc hc : Nat) (hfl : fr.length ≤ maxLen) (hsl : sp.length ≤ maxLen) (hhl : hd.length ≤ maxLen) (J Jx : List Pc → World → Prop)
    (W : World) (hn₀ : n₀ ≤ W.heap.size) (hm : m + 3 ≤ W.heap.size) (hJ : AbidesFrom W.heap.size J)
    (hY : ∀ pre x W1, J pre W1 → pre.length < (pcs fr sp hd).length → YieldAt Fence.wide (n - 1) Tryd.prog l (encPc x) W1 fun e W' =>
      (e = .returned (.bool true) ∧ J (pre ++ [x]) W' ∧ KpB n₀ m W1 W') ∨ (e = .returned (.bool false) ∧ Jx (pre ++ [x]) W'))
    (hB0 : Boxed W m 48 (.slice fA fr.length fc)) (hB1 : Boxed W (m + 1) 36 (.slice sA sp.length sc)) (hB2 : Boxed W (m + 2) 66 (.slice hA hd.length hc))
    (hF : SlB n₀ W fA fr.length 2 (runv fr)) (hS : SlB n₀ W sA sp.length 7 (spanv sp)) (hH : SlB n₀ W hA hd.length 3 (handv hd)) (h0 : J [] W) :
    CallsIn Fence.wide n Tryd.prog 53 #[.func (.yield l) #[] #[], .pointer (some ⟨m, 0, none⟩), .pointer (some ⟨m + 1, 0, none⟩), .pointer (some ⟨m + 2, 0, none⟩)] W fun e W' => (∃ v, e = .returned v) ∧
      ((∃ ys, ys = pcs fr sp hd ∧ J ys W') ∨ (∃ pre, pre <+: pcs fr sp hd ∧ Jx pre W')) := by
  unfold maxLen at hfl hsl hhl
  refine callsIn_of_wp Tryd.func53 rfl trivial ?_ rfl
  simp only [Tryd.ntmps53, List.size_toArray, List.length_cons, List.length_nil, Nat.reduceAdd, Nat.reduceSub, Array.replicate_succ, Array.replicate_zero, List.push_toArray, List.append_toArray, List.nil_append, List.cons_append]
  have c0 := hB0.cell
  have HY := Lib.hid hY
  have HJ := Lib.hid hJ
  have HB := Lib.hid (And.intro hB0 (And.intro hB1 hB2))
  have HS := Lib.hid (And.intro hF (And.intro hS hH))
  clear hY hJ hB0 hB1 hB2 hF hS hH
  gi_wp2
  gi_loopw [13] (fun i wr => ∃ k : Nat, k ≤ fr.length ∧ i = .int .i64 k ∧ J ((pcs fr sp hd).take (k)) wr ∧ KpB n₀ m W wr ∧ W.heap.size ≤ wr.heap.size) (fun i _ => fr.length - (intOf i).toNat)
  case atStart => exact ⟨0, Nat.zero_le _, rfl, h0, KpB.refl _ _ _, Nat.le_refl _⟩
  case round =>
    obtain ⟨k, hk, rfl, hJk, hKp, hsz⟩ := hrel
    have HR := Lib.hid (And.intro hJk hKp)
    clear hJk c0 h0
    by_cases hlt : k < fr.length
    · obtain ⟨b, off, rfl, hb, hc⟩ := (HS.out.1.below hKp.1) (by omega)
      have c0 := hc (k * 2) (by omega)
      rw [runv0] at c0
      have c1 := hc (k * 2 + 1) (by omega)
      rw [runv1, ← Nat.add_assoc] at c1
      have hJ1 : J ((pcs fr sp hd).take (k)) (wr.alloc (.cells #[.int .i64 (ix noRun fr k).a, .int .i64 (ix noRun fr k).n] 47)) := HJ.out _ _ _ none HR.out.1 (World.grownBy_alloc _ _ none) (fun r e => by cases e)
      obtain ⟨fn, tmps, assign, body, hy, hR⟩ := HY.out _ ⟨1, (ix noRun fr k).a, (ix noRun fr k).n⟩ _ hJ1 (by rw [pcs_len, List.length_take, pcs_len]; omega)
      dsimp only [encPc] at hy
      have hpc : (pcs fr sp hd).take (k + 1) = (pcs fr sp hd).take (k) ++ [⟨1, (ix noRun fr k).a, (ix noRun fr k).n⟩] := by rw [take_pc (by rw [pcs_len]; omega), pc_run hlt]
      have hKa : KpB n₀ m W (wr.alloc (.cells #[.int .i64 (ix noRun fr k).a, .int .i64 (ix noRun fr k).n] 47)) := hKp.alloc (by omega) (by omega) _
      have HPC := Lib.hid (And.intro hpc hKa)
      clear hc hKp hJ1 hpc hKa
      gi_wp2
      refine hR.mono ?_
      rintro e W3 (⟨rfl, hJ3, hk3⟩ | ⟨rfl, hJx3⟩)
      · have hs3 := hk3.1.size
        rw [World.size_alloc] at hs3
        have hF3 := Lib.hid (And.intro hJ3 hk3)
        clear hJ3 hk3
        gi_wp2
        go_roundw
        case rel => exact ⟨k + 1, by omega, by simp, by rw [HPC.out.1]; exact hF3.out.1, HPC.out.2.trans hF3.out.2, by omega⟩
        case measure => simp [intOf]; omega
      · have hF3 := Lib.hid hJx3
        clear hJx3
        gi_wp2
        refine bodyPost_ret (results_none rfl _ _ _) rfl ?_
        exact ⟨⟨_, rfl⟩, .inr ⟨_, List.take_prefix (k + 1) _, by rw [HPC.out.1]; exact hF3.out⟩⟩
    · obtain rfl : k = fr.length := by omega
      have HR0 := HR
      have hsz0 := hsz
      have c0 := (HR.out.2.box HB.out.2.1 (by omega) (by omega)).cell
      clear hKp HR hk hlt hsz
      obtain ⟨wo0, rfl⟩ : ∃ wo : World, wo = wr := ⟨_, rfl⟩
      gi_wp2
      gi_loopw [24] (fun i wr => ∃ k : Nat, k ≤ sp.length ∧ i = .int .i64 k ∧ J ((pcs fr sp hd).take (fr.length + k)) wr ∧ KpB n₀ m W wr ∧ W.heap.size ≤ wr.heap.size) (fun i _ => sp.length - (intOf i).toNat)
      case atStart => exact ⟨0, Nat.zero_le _, rfl, HR0.out.1, HR0.out.2, hsz0⟩
      case round =>
        obtain ⟨k, hk, rfl, hJk, hKp, hsz⟩ := hrel
        have HR := Lib.hid (And.intro hJk hKp)
        clear hJk c0
        by_cases hlt : k < sp.length
        · obtain ⟨b, off, rfl, hb, hc⟩ := (HS.out.2.1.below hKp.1) (by omega)
          have c0 := hc (k * 7) (by omega)
          rw [spanv0] at c0
          have c1 := hc (k * 7 + 1) (by omega)
          rw [spanv1, ← Nat.add_assoc] at c1
          have c2 := hc (k * 7 + 2) (by omega)
          rw [spanv2, ← Nat.add_assoc] at c2
          have c3 := hc (k * 7 + 3) (by omega)
          rw [spanv3, ← Nat.add_assoc] at c3
          have c4 := hc (k * 7 + 4) (by omega)
          rw [spanv4, ← Nat.add_assoc] at c4
          have c5 := hc (k * 7 + 5) (by omega)
          rw [spanv5, ← Nat.add_assoc] at c5
          have c6 := hc (k * 7 + 6) (by omega)
          rw [spanv6, ← Nat.add_assoc] at c6
          have hJ1 : J ((pcs fr sp hd).take (fr.length + k)) (wr.alloc (.cells #[.int .i64 (ix noSpan sp k).page, .int .i64 (ix noSpan sp k).pages, .int .i64 (ix noSpan sp k).cls, .int .i64 (ix noSpan sp k).gen, .int .i64 (ix noSpan sp k).phase, .int .u64 (ix noSpan sp k).alloc, .int .u64 (ix noSpan sp k).mark] 25)) := HJ.out _ _ _ none HR.out.1 (World.grownBy_alloc _ _ none) (fun r e => by cases e)
          obtain ⟨fn, tmps, assign, body, hy, hR⟩ := HY.out _ ⟨2, (ix noSpan sp k).page, (ix noSpan sp k).pages⟩ _ hJ1 (by rw [pcs_len, List.length_take, pcs_len]; omega)
          dsimp only [encPc] at hy
          have hpc : (pcs fr sp hd).take (fr.length + k + 1) = (pcs fr sp hd).take (fr.length + k) ++ [⟨2, (ix noSpan sp k).page, (ix noSpan sp k).pages⟩] := by rw [take_pc (by rw [pcs_len]; omega), pc_span hlt]
          have hKa : KpB n₀ m W (wr.alloc (.cells #[.int .i64 (ix noSpan sp k).page, .int .i64 (ix noSpan sp k).pages, .int .i64 (ix noSpan sp k).cls, .int .i64 (ix noSpan sp k).gen, .int .i64 (ix noSpan sp k).phase, .int .u64 (ix noSpan sp k).alloc, .int .u64 (ix noSpan sp k).mark] 25)) := hKp.alloc (by omega) (by omega) _
          have HPC := Lib.hid (And.intro hpc hKa)
          clear hc hKp hJ1 hpc hKa
          gi_wp2
          refine hR.mono ?_
          rintro e W3 (⟨rfl, hJ3, hk3⟩ | ⟨rfl, hJx3⟩)
          · have hs3 := hk3.1.size
            rw [World.size_alloc] at hs3
            have hF3 := Lib.hid (And.intro hJ3 hk3)
            clear hJ3 hk3
            gi_wp2
            go_roundw
            case rel => exact ⟨k + 1, by omega, by simp, by rw [← Nat.add_assoc, HPC.out.1]; exact hF3.out.1, HPC.out.2.trans hF3.out.2, by omega⟩
            case measure => simp [intOf]; omega
          · have hF3 := Lib.hid hJx3
            clear hJx3
            gi_wp2
            refine bodyPost_ret (results_none rfl _ _ _) rfl ?_
            exact ⟨⟨_, rfl⟩, .inr ⟨_, List.take_prefix (fr.length + k + 1) _, by rw [HPC.out.1]; exact hF3.out⟩⟩
        · obtain rfl : k = sp.length := by omega
          have HR1 := HR
          have hsz1 := hsz
          have c0 := (HR.out.2.box HB.out.2.2 (by omega) (by omega)).cell
          clear hKp HR hk hlt hsz
          obtain ⟨wo1, rfl⟩ : ∃ wo : World, wo = wr := ⟨_, rfl⟩
          gi_wp2
          gi_loopw [39] (fun i wr => ∃ k : Nat, k ≤ hd.length ∧ i = .int .i64 k ∧ J ((pcs fr sp hd).take (fr.length + sp.length + k)) wr ∧ KpB n₀ m W wr ∧ W.heap.size ≤ wr.heap.size) (fun i _ => hd.length - (intOf i).toNat)
          case atStart => exact ⟨0, Nat.zero_le _, rfl, HR1.out.1, HR1.out.2, hsz1⟩
          case round =>
            obtain ⟨k, hk, rfl, hJk, hKp, hsz⟩ := hrel
            have HR := Lib.hid (And.intro hJk hKp)
            clear hJk c0
            by_cases hlt : k < hd.length
            · obtain ⟨b, off, rfl, hb, hc⟩ := (HS.out.2.2.below hKp.1) (by omega)
              have c0 := hc (k * 3) (by omega)
              rw [handv0] at c0
              have c1 := hc (k * 3 + 1) (by omega)
              rw [handv1, ← Nat.add_assoc] at c1
              have c2 := hc (k * 3 + 2) (by omega)
              rw [handv2, ← Nat.add_assoc] at c2
              have hJ1 : J ((pcs fr sp hd).take (fr.length + sp.length + k)) (wr.alloc (.cells #[.int .i64 (ix noHand hd k).thread, .int .i64 (ix noHand hd k).a, .int .i64 (ix noHand hd k).n] 86)) := HJ.out _ _ _ none HR.out.1 (World.grownBy_alloc _ _ none) (fun r e => by cases e)
              obtain ⟨fn, tmps, assign, body, hy, hR⟩ := HY.out _ ⟨3, (ix noHand hd k).a, (ix noHand hd k).n⟩ _ hJ1 (by rw [pcs_len, List.length_take, pcs_len]; omega)
              dsimp only [encPc] at hy
              have hpc : (pcs fr sp hd).take (fr.length + sp.length + k + 1) = (pcs fr sp hd).take (fr.length + sp.length + k) ++ [⟨3, (ix noHand hd k).a, (ix noHand hd k).n⟩] := by rw [take_pc (by rw [pcs_len]; omega), pc_hand hlt]
              have hKa : KpB n₀ m W (wr.alloc (.cells #[.int .i64 (ix noHand hd k).thread, .int .i64 (ix noHand hd k).a, .int .i64 (ix noHand hd k).n] 86)) := hKp.alloc (by omega) (by omega) _
              have HPC := Lib.hid (And.intro hpc hKa)
              clear hc hKp hJ1 hpc hKa
              gi_wp2
              refine hR.mono ?_
              rintro e W3 (⟨rfl, hJ3, hk3⟩ | ⟨rfl, hJx3⟩)
              · have hs3 := hk3.1.size
                rw [World.size_alloc] at hs3
                have hF3 := Lib.hid (And.intro hJ3 hk3)
                clear hJ3 hk3
                gi_wp2
                go_roundw
                case rel => exact ⟨k + 1, by omega, by simp, by rw [← Nat.add_assoc, HPC.out.1]; exact hF3.out.1, HPC.out.2.trans hF3.out.2, by omega⟩
                case measure => simp [intOf]; omega
              · have hF3 := Lib.hid hJx3
                clear hJx3
                gi_wp2
                refine bodyPost_ret (results_none rfl _ _ _) rfl ?_
                exact ⟨⟨_, rfl⟩, .inr ⟨_, List.take_prefix (fr.length + sp.length + k + 1) _, by rw [HPC.out.1]; exact hF3.out⟩⟩
            · obtain rfl : k = hd.length := by omega
              clear hKp
              gi_wp2
              go_end0
              exact ⟨⟨_, rfl⟩, .inl ⟨_, rfl, by have h := HR.out.1; rwa [List.take_of_length_le (by rw [pcs_len]; omega)] at h⟩⟩
/- END pieces1_in -/
end Go.Proofs.YtpohnehcnonjhaaDoor
