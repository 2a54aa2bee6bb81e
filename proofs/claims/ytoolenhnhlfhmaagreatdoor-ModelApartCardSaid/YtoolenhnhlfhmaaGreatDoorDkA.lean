/- Walks: the desk's get. -/
import Derived.Test.YtoolenhnhlfhmaaGreatDoorGJ
namespace Go.Proofs.YtoolenhnhlfhmaaGreatDoor
open Go.RowKit Go.Sort
set_option linter.unusedVariables false
set_option linter.unusedSimpArgs false

/-- A mark. -/
structure MarkD where
  kind : Int
  thread : Int
  entry : Int
  page : Int
  n : Int
  mask : Nat
def markV (x : MarkD) : Value := .agg #[.int .i64 x.kind, .int .i64 x.thread, .int .i64 x.entry, .int .i64 x.page, .int .i64 x.n, .int .u64 (x.mask : Int)]
def markA (x : MarkD) : Array Value := #[.int .i64 x.kind, .int .i64 x.thread, .int .i64 x.entry, .int .i64 x.page, .int .i64 x.n, .int .u64 (x.mask : Int)]
/-- Numbers of a word's size. -/
structure MarkOk (x : MarkD) : Prop where
  page : -9223372036854775808 ≤ x.page ∧ x.page ≤ 9223372036854775807
  n : -9223372036854775808 ≤ x.n ∧ x.n ≤ 9223372036854775807
  mask : x.mask < 18446744073709551616
/-- Pages that a free run has. -/
def FitG (r : RunD) (x : MarkD) : Prop := r.at_ ≤ x.page ∧ 1 ≤ x.n ∧ x.page - r.at_ < r.n ∧ x.n ≤ r.n - (x.page - r.at_)
/-- What is left of it. -/
def leftA (r : RunD) (x : MarkD) : List RunD := if 0 < x.page - r.at_ then [⟨r.at_, x.page - r.at_⟩] else []
def leftB (r : RunD) (x : MarkD) : List RunD := if 0 < r.at_ + r.n - x.page - x.n then [⟨x.page + x.n, r.at_ + r.n - x.page - x.n⟩] else []
def leftR (r : RunD) (x : MarkD) : List RunD := leftA r x ++ leftB r x
theorem leftA_len (r : RunD) (x : MarkD) : (leftA r x).length ≤ 1 := by unfold leftA; split <;> simp
theorem leftR_len (r : RunD) (x : MarkD) : (leftR r x).length ≤ 2 := by unfold leftR leftA leftB; split <;> split <;> simp
/-- A run appended to a list of the call's own. -/
def PushP (base : Nat) (l : List RunD) (r : RunD) (w : World) (v : Value) (w' : World) : Prop := ∃ A c, v = .slice A (l ++ [r]).length c ∧ OwnS w' base 54 2 (.slice A (l ++ [r]).length c) (l ++ [r]).length (runV (l ++ [r])) ∧ ∀ w0, Ext w0 w → w0.heap.size ≤ base → Ext w0 w'
theorem runV_snoc_lo (l : List RunD) (r : RunD) (j : Nat) (hj : j < l.length * 2) : runV (l ++ [r]) j = runV l j := by
  unfold runV
  rw [ix_app_lt noRun l r (by omega)]
theorem runV_snoc_hi (l : List RunD) (r : RunD) (j : Nat) (hj : j < 2) : runV (l ++ [r]) (l.length * 2 + j) = runX r j := by
  have hj' : j = 0 ∨ j = 1 := by omega
  rcases hj' with rfl | rfl
  · rw [Nat.add_zero, runV0, ix_app_end]; rfl
  · rw [runV1, ix_app_end]; rfl
theorem wpList_pushRun {w : World} {ops : Array Oper} {rest : List Oper} {o : Oper} {a : Act} {Q : Exit → Act → World → Prop} (hgd : o.guard = none) (s x : Operand)
    (ho : o.op = .call { callee := .builtin .append, args := #[s, x], argTypes := #[25, 25] }) (base : Nat) (l : List RunD) (r : RunD) (A : Option Addr) (c g c1 : Nat) (hs : a.eval s = .slice A l.length c)
    (hown : OwnS w base 54 2 (.slice A l.length c) l.length (runV l)) (hx : a.eval x = .slice (some ⟨g, 0, none⟩) 1 c1) (h0 : w.cell? ⟨g, 0, none⟩ = some (.int .i64 r.at_)) (h1 : w.cell? ⟨g, 1, none⟩ = some (.int .i64 r.n))
    (hl : l.length ≤ 1000000) (hbase : base ≤ w.heap.size)
    (h : ∀ A' c' w', OwnS w' base 54 2 (.slice A' (l.length + 1) c') (l.length + 1) (runV (l ++ [r])) → (∀ w0, Ext w0 w → w0.heap.size ≤ base → Ext w0 w') → wpList Tryz.prog ops Q rest (a.put o.dst (.slice A' (l.length + 1) c')) w') : wpList Tryz.prog ops Q (o :: rest) a w := by
  obtain ⟨i0, hi0, hz0, hzs, hzb⟩ := info_parts Tryz.infoMRun
  refine wpList_push hgd s x 25 ho base 54 i0 (.agg #[.int .i64 0, .int .i64 0]) 2 16 Tryz.underlying25 hi0 hz0 hzs hzb rfl (by decide) _ l.length (runV l) hs hown ⟨g, 0, none⟩ c1 (runX r) hx (fun j hj => ?_) (fun j hj => ?_) (by unfold maxLen; omega) (by omega) hbase _ rfl (runV (l ++ [r])) (fun j hj => runV_snoc_lo l r j hj) (fun j hj => runV_snoc_hi l r j hj) (fun g' cap w' k1 k2 k3 k4 k5 => h _ _ w' k1 k3)
  · have hj' : j = 0 ∨ j = 1 := by omega
    rcases hj' with rfl | rfl
    · exact h0
    · exact h1
  · unfold runX; split <;> rfl

/-- The first. -/
theorem wpList_pushRun1 {w : World} {ops : Array Oper} {rest : List Oper} {o : Oper} {a : Act} {Q : Exit → Act → World → Prop} (hgd : o.guard = none) (s x : Operand)
    (ho : o.op = .call { callee := .builtin .append, args := #[s, x], argTypes := #[25, 25] }) (base : Nat) (r : RunD) (g c1 : Nat) (hs : a.eval s = .slice none 0 0)
    (hx : a.eval x = .slice (some ⟨g, 0, none⟩) 1 c1) (h0 : w.cell? ⟨g, 0, none⟩ = some (.int .i64 r.at_)) (h1 : w.cell? ⟨g, 1, none⟩ = some (.int .i64 r.n)) (hbase : base ≤ w.heap.size)
    (h : ∀ A' c' w', Hid (OwnS w' base 54 2 (.slice A' 1 c') 1 (runV [r]) ∧ (∀ w0, Ext w0 w → w0.heap.size ≤ base → Ext w0 w')) → wpList Tryz.prog ops Q rest (a.put o.dst (.slice A' 1 c')) w') : wpList Tryz.prog ops Q (o :: rest) a w :=
  wpList_pushRun hgd s x ho base [] r none 0 g c1 hs (OwnS.nil _ _ _ _ _) hx h0 h1 (by simp) hbase fun A' c' w' k1 k2 => h A' c' w' ⟨k1, k2⟩
/-- The second. -/
theorem wpList_pushRun2 {w : World} {ops : Array Oper} {rest : List Oper} {o : Oper} {a : Act} {Q : Exit → Act → World → Prop} (hgd : o.guard = none) (s x : Operand)
    (ho : o.op = .call { callee := .builtin .append, args := #[s, x], argTypes := #[25, 25] }) (base : Nat) (r0 r : RunD) (A : Option Addr) (c g c1 : Nat) (hs : a.eval s = .slice A 1 c)
    (hown : OwnS w base 54 2 (.slice A 1 c) 1 (runV [r0])) (hx : a.eval x = .slice (some ⟨g, 0, none⟩) 1 c1) (h0 : w.cell? ⟨g, 0, none⟩ = some (.int .i64 r.at_)) (h1 : w.cell? ⟨g, 1, none⟩ = some (.int .i64 r.n)) (hbase : base ≤ w.heap.size)
    (h : ∀ A' c' w', Hid (OwnS w' base 54 2 (.slice A' 2 c') 2 (runV [r0, r]) ∧ (∀ w0, Ext w0 w → w0.heap.size ≤ base → Ext w0 w')) → wpList Tryz.prog ops Q rest (a.put o.dst (.slice A' 2 c')) w') : wpList Tryz.prog ops Q (o :: rest) a w :=
  wpList_pushRun hgd s x ho base [r0] r A c g c1 hs hown hx h0 h1 (by simp) hbase fun A' c' w' k1 k2 => h A' c' w' ⟨k1, k2⟩
theorem cell_newg (w : World) (cs : Array Value) (t : TypeId) (g i : Nat) (v : Value) (hg : w.heap.size = g) (h : cs[i]? = some v) : (w.alloc (.cells cs t)).cell? ⟨g, i, none⟩ = some v := hg ▸ cell_new w cs t i v h
theorem VarR.ofOwn {w : World} {lb sz n c : Nat} {e : TypeId} {A B : Option Addr} {V : Nat → Value} (hO : OwnS w lb e sz (.slice B n c) n V) (hA : ∀ g, A.map (·.block) = some g → g < lb) : VarR w A B n c sz V := by
  rcases hO.2 with ⟨h1, h2⟩ | ⟨g, cap, cur, h1, _⟩
  · injection h1 with h1 h3 h4
    exact .inl ⟨h1, h2, h4⟩
  · injection h1 with h1 h3 h4
    subst h1
    obtain ⟨cur, hr, hb, _, _, _, hcur⟩ := hO.row
    exact .inr ⟨g, e, cur, rfl, hr, fun h => by have := hA g h.symm; omega, hcur⟩
/-- What get has come to. -/
def GetP (m : ModelD) (d base : Nat) (F H S G : Value) (x : MarkD) (w : World) (e : Ending) (w' : World) : Prop :=
  KeepD base d w w' ∧ w.heap.size ≤ w'.heap.size ∧ ((e = .returned (.bool false) ∧ (∀ i, i < m.free.length → ¬ FitG (ix noRun m.free i) x) ∧ DeskR w' d base m F H S G) ∨
    (e = .returned (.bool true) ∧ ∃ i k F' H', i < m.free.length ∧ FitG (ix noRun m.free i) x ∧ (∀ j, j < i → ¬ FitG (ix noRun m.free j) x) ∧ PlaceH m.hands k x.page ∧
      DeskR w' d base { m with free := cutIn m.free i (i + 1) (leftR (ix noRun m.free i) x), hands := cutIn m.hands k k [⟨x.thread, x.page, x.n⟩] } F' H' S G))
set_option maxHeartbeats 4000000 in
set_option maxRecDepth 100000 in
theorem get_any (m : ModelD) (d base : Nat) (F H S G : Value) (x : MarkD) (w : World) (hl : m.free.length ≤ 900000 ∧ m.hands.length ≤ 900000) (hx : MarkOk x)
    (hb : ∀ i, i < m.free.length → 0 ≤ (ix noRun m.free i).at_ ∧ 1 ≤ (ix noRun m.free i).n ∧ (ix noRun m.free i).at_ + (ix noRun m.free i).n ≤ 4096) (hs : Rises noHand m.hands handK) (hbase : base ≤ w.heap.size) (hD : DeskR w d base m F H S G) :
    Calls Tryz.prog 56 #[.pointer (some ⟨d, 0, none⟩), markV x] w (GetP m d base F H S G x w) := by
  obtain ⟨A, c, rfl, hnc⟩ := hD.own.free.ofSlice
  obtain ⟨l1, l2⟩ := hl
  obtain ⟨⟨pg0, pg1⟩, ⟨n0, n1⟩, hmk⟩ := hx
  obtain ⟨W0, hW0⟩ : ∃ W0, W0 = w.alloc (.cells (markA x) 34) := ⟨_, rfl⟩
  have hE0 : Ext w W0 := hW0 ▸ (Ext.refl w).alloc _
  have hbx : Blk W0 w.heap.size 34 (markA x) := hW0 ▸ Blk.new _ _ _ _ rfl
  have hdlt := hD.blk.lt
  have hsl := own_sl' hD.own.free
  have c1 := hD.blk.cell (i := 1) (v := .slice A m.free.length c) rfl
  unfold markV
  unfold markA at hW0 hbx
  have HW := Lib.hid hW0
  have HD := Lib.hid (And.intro hD (And.intro hs (And.intro hb (And.intro hE0 (And.intro hbx hsl)))))
  clear hD hs hb hE0 hbx hW0 hsl
  go_enter Tryz.func56, Tryz.ntmps56
  go_wp2
  rw [← HW.out]
  clear c1
  go_loopg [16] m.free.length (fun q i wr => ∃ k, k ≤ m.free.length ∧ q = m.free.length - k ∧ i = .int .i64 (k : Int) ∧ Ext W0 wr ∧ ∀ j, j < k → ¬ FitG (ix noRun m.free j) x)
  case atStart => exact ⟨0, Nat.zero_le _, rfl, rfl, Ext.refl _, fun j hj => absurd hj (by omega)⟩
  case round =>
    obtain ⟨k, hk, rfl, rfl, hE, hno⟩ := hrel
    by_cases hlt : k < m.free.length
    · obtain ⟨b, off, rfl, hcl⟩ := HD.out.2.2.2.2.2 (by omega)
      have hEw := HD.out.2.2.2.1.trans hE
      have a0 := hEw.cell (hcl (k * 2 + 0) (by omega))
      have a1 := hEw.cell (hcl (k * 2 + 1) (by omega))
      rw [Nat.add_zero, runV0] at a0
      rw [runV1, ← Nat.add_assoc] at a1
      obtain ⟨r0, r1, r2⟩ := HD.out.2.2.1 k hlt
      obtain ⟨r, hr⟩ : ∃ r, ix noRun m.free k = r := ⟨_, rfl⟩
      rw [hr] at a0 a1 r0 r1 r2
      have q0 : (0 : Int) ≤ (k : Int) := by omega
      have q1 : (k : Int) < (m.free.length : Int) := by omega
      have hbx := HD.out.2.2.2.2.1.ext hE
      have x1 := hbx.cell (i := 1) (v := .int .i64 x.thread) rfl
      have x3 := hbx.cell (i := 3) (v := .int .i64 x.page) rfl
      have x4 := hbx.cell (i := 4) (v := .int .i64 x.n) rfl
      have hwl : w.heap.size < wr.heap.size := hbx.lt
      have hwn : ¬ w.heap.size = wr.heap.size := by omega
      have HR := Lib.hid (And.intro hE (And.intro hno (And.intro hr (And.intro hEw hbx))))
      clear hE hno hr hEw hbx hcl
      by_cases hfit : FitG r x
      · obtain ⟨t0, t1, t2, t3⟩ := hfit
        have e0 : decide (x.page < r.at_) = false := decide_eq_false (by omega)
        have e1 : decide (x.n < 1) = false := decide_eq_false (by omega)
        have e2 : decide (r.n ≤ x.page - r.at_) = false := decide_eq_false (by omega)
        have e3 : decide (r.n - (x.page - r.at_) < x.n) = false := decide_eq_false (by omega)
        obtain ⟨W1, hW1⟩ : ∃ W1, W1 = wr.alloc (.cells #[.int .i64 r.at_, .int .i64 r.n] 54) := ⟨_, rfl⟩
        have hE1 : Ext wr W1 := hW1 ▸ (Ext.refl wr).alloc _
        have hz1 : W1.heap.size = wr.heap.size + 1 := by rw [hW1]; simp
        have hrb : Blk W1 wr.heap.size 54 #[.int .i64 r.at_, .int .i64 r.n] := hW1 ▸ Blk.new _ _ _ _ rfl
        have hD1 := HD.out.1.ext (HR.out.2.2.2.1.trans hE1)
        have hx1 := HR.out.2.2.2.2.ext hE1
        have hbd : b < w.heap.size := (World.ownsRow.lt HD.out.1.own.free b rfl).2
        have hfacts : ∀ wl, Ext W1 wl → (wl.cell? ⟨d, 1, none⟩ = some (.slice (some ⟨b, off, none⟩) m.free.length c) ∧ wl.cell? ⟨w.heap.size, 1, none⟩ = some (.int .i64 x.thread) ∧ wl.cell? ⟨w.heap.size, 3, none⟩ = some (.int .i64 x.page) ∧ wl.cell? ⟨w.heap.size, 4, none⟩ = some (.int .i64 x.n) ∧ wl.cell? ⟨wr.heap.size, 0, none⟩ = some (.int .i64 r.at_) ∧ wl.cell? ⟨wr.heap.size, 1, none⟩ = some (.int .i64 r.n)) := fun wl hE =>
          ⟨hE.cell (hD1.blk.cell (i := 1) rfl), hE.cell (hx1.cell (i := 1) rfl), hE.cell (hx1.cell (i := 3) rfl), hE.cell (hx1.cell (i := 4) rfl), hE.cell (hrb.cell (i := 0) rfl), hE.cell (hrb.cell (i := 1) rfl)⟩
        have hrep : ∀ wl B vc N, N = (leftR r x).length → Ext W1 wl → OwnS wl (wr.heap.size + 1) 54 2 (.slice B N vc) N (runV (leftR r x)) → Calls Tryz.prog 83 #[.slice (some ⟨b, off, none⟩) m.free.length c, .int .i64 (k : Int), .int .i64 ((k : Int) + 1), .slice B N vc] wl fun e w' =>
            ∃ A' N' c' v, e = .returned (.slice A' N' c') ∧ w'.cell? ⟨d, 1, none⟩ = some v ∧ w'.frozen? ⟨d, 1, none⟩ = false ∧ w'.cell? ⟨w.heap.size, 1, none⟩ = some (.int .i64 x.thread) ∧ w'.cell? ⟨w.heap.size, 3, none⟩ = some (.int .i64 x.page) ∧ w'.cell? ⟨w.heap.size, 4, none⟩ = some (.int .i64 x.n) ∧ Hid (DeskR (w'.setCell ⟨d, 1, none⟩ (.slice A' N' c')) d base { m with free := cutIn m.free k (k + 1) (leftR r x) } (.slice A' N' c') H S G ∧ KeepD base d w (w'.setCell ⟨d, 1, none⟩ (.slice A' N' c')) ∧ w.heap.size ≤ (w'.setCell ⟨d, 1, none⟩ (.slice A' N' c')).heap.size) := fun wl B vc N hN hE hO => by
          subst hN
          have hDl := hD1.ext hE
          have hxl := hx1.ext hE
          have hEl := (HR.out.2.2.2.1.trans hE1).trans hE
          rw [show ((k : Int) + 1) = ((k + 1 : Nat) : Int) by omega]
          refine (repRunL base c k (k + 1) vc (some ⟨b, off, none⟩) B m.free (leftR r x) wl (by omega) (by omega) (fun h => by omega) (by have := leftR_len r x; omega) (Nat.le_trans hbase hEl.size) hDl.own.free (VarR.ofOwn hO fun g hg => ?_)).mono fun e w' ⟨A', c', he, hO', hg⟩ => ?_
          · injection hg with hg
            have := hEl.size
            have := HR.out.2.2.2.1.size
            simp only at hg
            omega
          · have hb2 := hDl.blk.grown hg (Ne.symm hDl.nes.1)
            have hx2 := hxl.grown hg (fun h => own_ne_blk hDl.own.free hxl (by decide) h.symm)
            exact ⟨A', _, c', _, he, hb2.cell (i := 1) rfl, hb2.frozen 1, hx2.cell (i := 1) rfl, hx2.cell (i := 3) rfl, hx2.cell (i := 4) rfl, Lib.hid ⟨hDl.setFree hg _ hO', ((KeepD.ext hEl).trans (KeepD.grown hDl.own.free hg)).trans (KeepD.set _ _), by simpa using Nat.le_trans hEl.size hg.size⟩⟩
        have hnd : ¬ d = w.heap.size := by omega
        have hnd' : ¬ w.heap.size = d := by omega
        have HA := Lib.hid (And.intro hfacts (And.intro hrep (And.intro hz1 (Ext.refl W1))))
        have HW1 := Lib.hid hW1
        have HZ := Lib.hid (show wr.heap.size + 1 ≤ W1.heap.size by omega)
        have HX := Lib.hid (show Ext W1 (wr.alloc (.cells #[.int .i64 r.at_, .int .i64 r.n] 54)) by rw [← hW1]; exact Ext.refl _)
        clear hfacts hrep hE1 hz1 hrb hD1 hx1 hW1 hbd
        have hgv : ∀ W B N c', DeskR W d base { m with free := cutIn m.free k (k + 1) (leftR r x) } (.slice B N c') H S G ∧ KeepD base d w W ∧ w.heap.size ≤ W.heap.size → Calls Tryz.prog 84 #[.pointer (some ⟨d, 0, none⟩), .int .i64 x.thread, .int .i64 x.page, .int .i64 x.n] W fun e w' => e = .returned (.tuple #[]) ∧ Hid (GetP m d base (.slice (some ⟨b, off, none⟩) m.free.length c) H S G x w (.returned (.bool true)) w') := fun W B N c' ⟨hW, hk1, hk2⟩ =>
          (gives_any { m with free := cutIn m.free k (k + 1) (leftR r x) } d base _ H S G x.thread x.page x.n W l2 HD.out.2.1 (Nat.le_trans hbase hk2) hW).mono fun e w' ⟨he, ⟨i, H', hp, hDk⟩, hk3, hk4⟩ =>
            ⟨he, Lib.hid ⟨hk1.trans hk3, Nat.le_trans hk2 hk4, .inr ⟨rfl, k, i, _, H', hlt, HR.out.2.2.1 ▸ ⟨t0, t1, t2, t3⟩, HR.out.2.1, hp, by rw [HR.out.2.2.1]; exact hDk⟩⟩⟩
        have HG := Lib.hid hgv
        clear hgv
        have hab : (decide (r.at_ < x.page) = true ∧ leftA r x = [⟨r.at_, x.page - r.at_⟩]) ∨ (decide (r.at_ < x.page) = false ∧ leftA r x = []) := by
          unfold leftA
          by_cases h : 0 < x.page - r.at_
          · exact .inl ⟨decide_eq_true (by omega), by rw [if_pos h]⟩
          · exact .inr ⟨decide_eq_false (by omega), by rw [if_neg h]⟩
        have hbb : (decide (x.n < r.at_ + r.n - x.page) = true ∧ leftB r x = [⟨x.page + x.n, r.at_ + r.n - x.page - x.n⟩]) ∨ (decide (x.n < r.at_ + r.n - x.page) = false ∧ leftB r x = []) := by
          unfold leftB
          by_cases h : 0 < r.at_ + r.n - x.page - x.n
          · exact .inl ⟨decide_eq_true (by omega), by rw [if_pos h]⟩
          · exact .inr ⟨decide_eq_false (by omega), by rw [if_neg h]⟩
        rcases hab with ⟨ea, la⟩ | ⟨ea, la⟩ <;> rcases hbb with ⟨eb, lb⟩ | ⟨eb, lb⟩
        · have hL : leftR r x = [⟨r.at_, x.page - r.at_⟩, ⟨x.page + x.n, r.at_ + r.n - x.page - x.n⟩] := by unfold leftR; rw [la, lb]; rfl
          have HL := Lib.hid (And.intro (show 2 = (leftR r x).length by rw [hL]; rfl) hL)
          clear la lb hL
          obtain ⟨f1, f2, f3, f4, f5, f6⟩ := HA.out.1 _ HX.out
          go_wp2_with (first
            | (at_builtin; refine wpList_pushRun1 rfl _ _ rfl (wr.heap.size + 1) ⟨r.at_, x.page - r.at_⟩ (wr.heap.size + 1) 1 rfl rfl ?p0 ?p1 ?p2 ?_; (case p0 => exact cell_newg _ _ _ _ _ _ (by simp) rfl); (case p1 => exact cell_newg _ _ _ _ _ _ (by simp) rfl); (case p2 => simp); intro A1 c1 w1 HP1; have HY := Lib.hid (HX.out.trans (HP1.out.2 _ ((Ext.refl _).alloc _) (by simp))); obtain ⟨g1, g2, g3, g4, g5, g6⟩ := HA.out.1 _ HY.out)
            | (at_builtin; refine wpList_pushRun2 rfl _ _ rfl (wr.heap.size + 1) ⟨r.at_, x.page - r.at_⟩ ⟨x.page + x.n, r.at_ + r.n - x.page - x.n⟩ A1 c1 w1.heap.size 1 rfl ?p3 rfl ?p0 ?p1 ?p2 ?_; (case p0 => exact cell_newg _ _ _ _ _ _ rfl rfl); (case p1 => exact cell_newg _ _ _ _ _ _ rfl rfl); (case p2 => exact Nat.le_trans HZ.out (Nat.le_trans HY.out.size (by simp))); (case p3 => exact HP1.out.1.ext ((Ext.refl _).alloc _)); intro A2 c2 w2 HP2; have HY2 := Lib.hid (HP2.out.2 _ (HY.out.alloc _) (Nat.le_of_eq HA.out.2.2.1)); obtain ⟨h1, h2, h3, h4, h5, h6⟩ := HA.out.1 _ HY2.out; have HO := Lib.hid (show OwnS w2 (wr.heap.size + 1) 54 2 (.slice A2 2 c2) 2 (runV (leftR r x)) by rw [HL.out.2]; exact HP2.out.1))
            | (go_at_call 83; (with_reducible refine (HA.out.2.1 _ A2 c2 2 HL.out.1 HY2.out HO.out).mono ?_); rintro e w3 ⟨A', N', c', v, rfl, k1, k2, k3, k4, k5, HF⟩)
            | (go_at_call 84; (with_reducible refine (HG.out _ _ _ _ HF.out).mono ?_); rintro e w4 ⟨rfl, HP⟩))
          go_ret
          exact HP.out
        · have hL : leftR r x = [⟨r.at_, x.page - r.at_⟩] := by unfold leftR; rw [la, lb]; rfl
          have HL := Lib.hid (And.intro (show 1 = (leftR r x).length by rw [hL]; rfl) hL)
          clear la lb hL
          obtain ⟨f1, f2, f3, f4, f5, f6⟩ := HA.out.1 _ HX.out
          go_wp2_with (first
            | (at_builtin; refine wpList_pushRun1 rfl _ _ rfl (wr.heap.size + 1) ⟨r.at_, x.page - r.at_⟩ (wr.heap.size + 1) 1 rfl rfl ?p0 ?p1 ?p2 ?_; (case p0 => exact cell_newg _ _ _ _ _ _ (by simp) rfl); (case p1 => exact cell_newg _ _ _ _ _ _ (by simp) rfl); (case p2 => simp); intro A1 c1 w1 HP1; have HY := Lib.hid (HX.out.trans (HP1.out.2 _ ((Ext.refl _).alloc _) (by simp))); obtain ⟨g1, g2, g3, g4, g5, g6⟩ := HA.out.1 _ HY.out; have HO := Lib.hid (show OwnS w1 (wr.heap.size + 1) 54 2 (.slice A1 1 c1) 1 (runV (leftR r x)) by rw [HL.out.2]; exact HP1.out.1))
            | (go_at_call 83; (with_reducible refine (HA.out.2.1 _ A1 c1 1 HL.out.1 HY.out HO.out).mono ?_); rintro e w2 ⟨A', N', c', v, rfl, k1, k2, k3, k4, k5, HF⟩)
            | (go_at_call 84; (with_reducible refine (HG.out _ _ _ _ HF.out).mono ?_); rintro e w3 ⟨rfl, HP⟩))
          go_ret
          exact HP.out
        · have hL : leftR r x = [⟨x.page + x.n, r.at_ + r.n - x.page - x.n⟩] := by unfold leftR; rw [la, lb]; rfl
          have HL := Lib.hid (And.intro (show 1 = (leftR r x).length by rw [hL]; rfl) hL)
          clear la lb hL
          obtain ⟨f1, f2, f3, f4, f5, f6⟩ := HA.out.1 _ HX.out
          go_wp2_with (first
            | (at_builtin; refine wpList_pushRun1 rfl _ _ rfl (wr.heap.size + 1) ⟨x.page + x.n, r.at_ + r.n - x.page - x.n⟩ (wr.heap.size + 1) 1 rfl rfl ?p0 ?p1 ?p2 ?_; (case p0 => exact cell_newg _ _ _ _ _ _ (by simp) rfl); (case p1 => exact cell_newg _ _ _ _ _ _ (by simp) rfl); (case p2 => simp); intro A1 c1 w1 HP1; have HY := Lib.hid (HX.out.trans (HP1.out.2 _ ((Ext.refl _).alloc _) (by simp))); obtain ⟨g1, g2, g3, g4, g5, g6⟩ := HA.out.1 _ HY.out; have HO := Lib.hid (show OwnS w1 (wr.heap.size + 1) 54 2 (.slice A1 1 c1) 1 (runV (leftR r x)) by rw [HL.out.2]; exact HP1.out.1))
            | (go_at_call 83; (with_reducible refine (HA.out.2.1 _ A1 c1 1 HL.out.1 HY.out HO.out).mono ?_); rintro e w2 ⟨A', N', c', v, rfl, k1, k2, k3, k4, k5, HF⟩)
            | (go_at_call 84; (with_reducible refine (HG.out _ _ _ _ HF.out).mono ?_); rintro e w3 ⟨rfl, HP⟩))
          go_ret
          exact HP.out
        · have hL : leftR r x = [] := by unfold leftR; rw [la, lb]; rfl
          have HL := Lib.hid (show (0 = (leftR r x).length) ∧ ∀ W, OwnS W (wr.heap.size + 1) 54 2 (.slice none 0 0) 0 (runV (leftR r x)) from ⟨by rw [hL]; rfl, fun W => OwnS.nil _ _ _ _ _⟩)
          clear la lb hL
          obtain ⟨f1, f2, f3, f4, f5, f6⟩ := HA.out.1 _ HX.out
          go_wp2_with (first
            | (go_at_call 83; (with_reducible refine (HA.out.2.1 _ none 0 0 HL.out.1 HX.out (HL.out.2 _)).mono ?_); rintro e w2 ⟨A', N', c', v, rfl, k1, k2, k3, k4, k5, HF⟩)
            | (go_at_call 84; (with_reducible refine (HG.out _ _ _ _ HF.out).mono ?_); rintro e w3 ⟨rfl, HP⟩))
          go_ret
          exact HP.out
      · have HF := Lib.hid hfit
        have hds : decide (x.page < r.at_) = true ∨ (decide (x.page < r.at_) = false ∧ decide (x.n < 1) = true) ∨ (decide (x.page < r.at_) = false ∧ decide (x.n < 1) = false ∧ decide (r.n ≤ x.page - r.at_) = true ∧ r.at_ ≤ x.page) ∨ (decide (x.page < r.at_) = false ∧ decide (x.n < 1) = false ∧ decide (r.n ≤ x.page - r.at_) = false ∧ decide (r.n - (x.page - r.at_) < x.n) = true ∧ r.at_ ≤ x.page ∧ x.page - r.at_ < r.n) := by
          unfold FitG at hfit
          simp only [decide_eq_true_eq, decide_eq_false_iff_not]
          omega
        clear hfit
        rcases hds with d0 | ⟨d0, d1⟩ | ⟨d0, d1, d2, d3⟩ | ⟨d0, d1, d2, d3, d4, d5⟩
        all_goals
          go_wp2
          go_roundg (m.free.length - (k + 1))
          case measure => go_light; omega
          case rel =>
            refine ⟨k + 1, by omega, rfl, by go_num, HR.out.1.alloc _, fun j hj => ?_⟩
            by_cases e : j = k
            · rw [e, HR.out.2.2.1]; exact HF.out
            · exact HR.out.2.1 j (by omega)
    · obtain rfl : k = m.free.length := by omega
      have HR := Lib.hid (And.intro hE hno)
      clear hE hno
      go_wp2
      go_ret
      exact ⟨KeepD.ext (HD.out.2.2.2.1.trans HR.out.1), (HD.out.2.2.2.1.trans HR.out.1).size, .inl ⟨rfl, HR.out.2, HD.out.1.ext (HD.out.2.2.2.1.trans HR.out.1)⟩⟩
end Go.Proofs.YtoolenhnhlfhmaaGreatDoor
