/- Walks: what the desk does with a mark. -/
import Derived.Test.YtoolenhnhlfhmaaGreatDoorGN
namespace Go.Proofs.YtoolenhnhlfhmaaGreatDoor
open Go.RowKit Go.Sort
set_option linter.unusedVariables false
set_option linter.unusedSimpArgs false

/-- A desk's model is one whose rows may be looked into. -/
structure DeskOk (m : ModelD) : Prop where
  l1 : m.free.length ≤ 900000
  l2 : m.hands.length ≤ 900000
  l3 : m.spans.length ≤ 900000
  l4 : m.gone.length ≤ 900000
  fr : ∀ i, i < m.free.length → 0 ≤ (ix noRun m.free i).at_ ∧ 1 ≤ (ix noRun m.free i).n ∧ (ix noRun m.free i).at_ + (ix noRun m.free i).n ≤ 4096
  hd : ∀ i, i < m.hands.length → 0 ≤ (ix noHand m.hands i).at_ ∧ 1 ≤ (ix noHand m.hands i).n ∧ (ix noHand m.hands i).at_ + (ix noHand m.hands i).n ≤ 4096
  r1 : Rises noRun m.free runK
  r2 : Rises noHand m.hands handK
  r3 : Rises noHold m.spans pageK
  gn : sortI m.gone = m.gone
  al : ∀ i, i < m.spans.length → (ix noHold m.spans i).alloc < 18446744073709551616

def GetR (m : ModelD) (x : MarkD) (m' : ModelD) : Prop := ∃ i k, i < m.free.length ∧ FitG (ix noRun m.free i) x ∧ (∀ j, j < i → ¬ FitG (ix noRun m.free j) x) ∧ PlaceH m.hands k x.page ∧ m' = { m with free := cutIn m.free i (i + 1) (leftR (ix noRun m.free i) x), hands := cutIn m.hands k k [⟨x.thread, x.page, x.n⟩] }
def GetN (m : ModelD) (x : MarkD) : Prop := ∀ i, i < m.free.length → ¬ FitG (ix noRun m.free i) x
def BackR (m : ModelD) (x : MarkD) (m' : ModelD) : Prop := ∃ j k, j < m.hands.length ∧ HandP m x j ∧ (ix noHand m.hands j).n = x.n ∧ PlaceR m.free k x.page ∧ m' = { m with free := cutIn m.free (backFrom m.free k x) (backTo m.free k x) [backRun m.free k x], hands := cutIn m.hands j (j + 1) [] }
def BackN (m : ModelD) (x : MarkD) : Prop := ∀ j, j < m.hands.length → HandP m x j → (∀ q, q < j → ¬ HandP m x q) → (ix noHand m.hands j).n ≠ x.n
def LayR (m : ModelD) (x : MarkD) (m' : ModelD) : Prop := ∃ j k, j < m.hands.length ∧ HandP m x j ∧ LayC m x (ix noHand m.hands j) ∧ PlaceS m.spans k (ix noHand m.hands j).at_ ∧ m' = { m with spans := cutIn m.spans k k [layHold x (ix noHand m.hands j)], hands := cutIn m.hands j (j + 1) [] }
def LayN (m : ModelD) (x : MarkD) : Prop := ∀ j, j < m.hands.length → HandP m x j → (∀ q, q < j → ¬ HandP m x q) → ¬ LayC m x (ix noHand m.hands j)
def DropR (m : ModelD) (x : MarkD) (m' : ModelD) : Prop := ∃ i k, i < m.spans.length ∧ (ix noHold m.spans i).page = x.page ∧ DropC x (ix noHold m.spans i) ∧ PlaceH m.hands k x.page ∧ m' = { m with spans := stayL (fun h => h.page = x.page) m.spans, hands := cutIn m.hands k k [⟨x.thread, x.page, x.n⟩] }
def DropN (m : ModelD) (x : MarkD) : Prop := ∀ i, i < m.spans.length → (ix noHold m.spans i).page = x.page → ¬ DropC x (ix noHold m.spans i)
def TurnR (m : ModelD) (x : MarkD) (m' : ModelD) : Prop := ∃ i h', i < m.spans.length ∧ (ix noHold m.spans i).page = x.page ∧ turnO (ix noHold m.spans i) x = some h' ∧ m' = { m with spans := m.spans.set i h' }
def TurnN (m : ModelD) (x : MarkD) : Prop := (∀ j, j < m.spans.length → (ix noHold m.spans j).page ≠ x.page) ∨ ∃ i, i < m.spans.length ∧ (ix noHold m.spans i).page = x.page ∧ turnO (ix noHold m.spans i) x = none
def OtherK (x : MarkD) : Prop := x.kind ≠ 1 ∧ x.kind ≠ 15 ∧ x.kind ≠ 2 ∧ x.kind ≠ 9 ∧ x.kind ≠ 10 ∧ x.kind ≠ 12 ∧ x.kind ≠ 13 ∧ x.kind ≠ 14
/-- What a desk's model is behind a mark that may be. -/
def DoesR (m : ModelD) (x : MarkD) (m' : ModelD) : Prop := ThreadP x.thread ∧ ((x.kind = 1 ∧ GetR m x m') ∨ (x.kind = 15 ∧ CommitC m x ∧ m' = { m with gone := stayL (ToldOf x) m.gone }) ∨ (x.kind = 2 ∧ LayR m x m') ∨ (x.kind = 9 ∧ DropR m x m') ∨ (x.kind = 10 ∧ BackR m x m') ∨
  (x.kind = 12 ∧ CycC m ∧ m' = { m with spans := m.spans.map waits }) ∨ (x.kind = 13 ∧ ¬ HasP m x.thread x.page x.n ∧ m' = m) ∨ (x.kind = 14 ∧ RelC m x ∧ m' = { m with gone := goneTo m x }) ∨ (OtherK x ∧ TurnR m x m'))
/-- Why a mark may not be. -/
def DoesN (m : ModelD) (x : MarkD) : Prop := ¬ ThreadP x.thread ∨ (x.kind = 1 ∧ GetN m x) ∨ (x.kind = 15 ∧ ¬ CommitC m x) ∨ (x.kind = 2 ∧ LayN m x) ∨ (x.kind = 9 ∧ DropN m x) ∨ (x.kind = 10 ∧ BackN m x) ∨
  (x.kind = 12 ∧ ¬ CycC m) ∨ (x.kind = 13 ∧ HasP m x.thread x.page x.n) ∨ (x.kind = 14 ∧ ¬ RelC m x) ∨ (OtherK x ∧ TurnN m x)
def DoesP (m : ModelD) (d base : Nat) (x : MarkD) (w : World) (e : Ending) (w' : World) : Prop :=
  KeepD base d w w' ∧ w.heap.size ≤ w'.heap.size ∧ ((e = .returned (.bool false) ∧ DoesN m x ∧ ∃ F' H' S' G', DeskR w' d base m F' H' S' G') ∨ (e = .returned (.bool true) ∧ ∃ m' F' H' S' G', DoesR m x m' ∧ DeskR w' d base m' F' H' S' G'))
theorem DoesP.from {m : ModelD} {d base : Nat} {x : MarkD} {w w1 : World} {e : Ending} {w' : World} (h : DoesP m d base x w1 e w') (hE : Ext w w1) : DoesP m d base x w e w' := ⟨(KeepD.ext hE).trans h.1, Nat.le_trans hE.size h.2.1, h.2.2⟩
theorem DoesP.bool {m : ModelD} {d base : Nat} {x : MarkD} {w : World} {e : Ending} {w' : World} (h : DoesP m d base x w e w') : ∃ b, e = .returned (.bool b) := h.2.2.elim (fun h => ⟨_, h.1⟩) (fun h => ⟨_, h.1⟩)

set_option maxHeartbeats 4000000 in
set_option maxRecDepth 100000 in
theorem does1_any (m : ModelD) (d base : Nat) (F H S G : Value) (x : MarkD) (w : World) (ho : DeskOk m) (hx : MarkOk x) (hT : Tab w) (hB : TabB w) (hbase : base ≤ w.heap.size) (hD : DeskR w d base m F H S G) (ht : ThreadP x.thread) (hk : x.kind = 1) :
    Calls Tryz.prog 27 #[.pointer (some ⟨d, 0, none⟩), markV x] w (DoesP m d base x w) := by
  obtain ⟨W0, hW0⟩ : ∃ W0, W0 = w.alloc (.cells (markA x) 34) := ⟨_, rfl⟩
  have hE0 : Ext w W0 := hW0 ▸ (Ext.refl w).alloc _
  have hbx : Blk W0 w.heap.size 34 (markA x) := hW0 ▸ Blk.new _ _ _ _ rfl
  have hp : Calls Tryz.prog 56 #[.pointer (some ⟨d, 0, none⟩), markV x] W0 fun e w' => ∃ b, e = .returned (.bool b) ∧ Hid (DoesP m d base x w e w') := by
    refine (get_any m d base F H S G x W0 ⟨ho.l1, ho.l2⟩ hx ho.fr ho.r2 (Nat.le_trans hbase hE0.size) (hD.ext hE0)).mono fun e w' hs => ?_
    have hq : DoesP m d base x W0 e w' := by
      obtain ⟨h1, h2, ⟨rfl, hn, hD'⟩ | ⟨rfl, i, k, F1, H1, q1, q2, q3, q4, hD'⟩⟩ := hs
      · exact ⟨h1, h2, .inl ⟨rfl, .inr (.inl ⟨hk, hn⟩), _, _, _, _, hD'⟩⟩
      · exact ⟨h1, h2, .inr ⟨rfl, _, F1, H1, S, G, ⟨ht, .inl ⟨hk, i, k, q1, q2, q3, q4, rfl⟩⟩, hD'⟩⟩
    obtain ⟨b, rfl⟩ := hq.bool
    exact ⟨b, rfl, Lib.hid (hq.from hE0)⟩
  have HA : Hid (∀ W, Calls Tryz.prog 55 #[.int .i64 x.thread] W fun e w' => e = .returned (.bool true) ∧ W = w') := Lib.hid fun W => by have := anybody_any x.thread W; rw [B_yes ht] at this; exact this
  have x0 := hbx.cell (i := 0) (v := .int .i64 x.kind) rfl
  have x1 := hbx.cell (i := 1) (v := .int .i64 x.thread) rfl
  have x2 := hbx.cell (i := 2) (v := .int .i64 x.entry) rfl
  have x3 := hbx.cell (i := 3) (v := .int .i64 x.page) rfl
  have x4 := hbx.cell (i := 4) (v := .int .i64 x.n) rfl
  have x5 := hbx.cell (i := 5) (v := .int .u64 (x.mask : Int)) rfl
  have HP := Lib.hid hp
  clear hp hbx hE0 hD ho hx hT hB ht hbase
  unfold markA at hW0
  unfold markV at HP ⊢
  rw [hk] at x0 HP hW0 ⊢
  have HW0 := Lib.hid hW0
  clear hW0 hk
  go_enter Tryz.func27, Tryz.ntmps27
  go_upto_region 1 with fail
  rw [← HW0.out]
  go_wp2_with (first
    | (go_at_call 55; (with_reducible refine (HA.out _).mono ?_); rintro e w1 ⟨rfl, rfl⟩)
    | (go_at_call 56; (with_reducible refine HP.out.mono ?_); rintro e w1 ⟨b, rfl, hs⟩; have HS := Lib.hid hs; clear hs))
  go_ret
  exact HS.out.out

set_option maxHeartbeats 4000000 in
set_option maxRecDepth 100000 in
theorem does15_any (m : ModelD) (d base : Nat) (F H S G : Value) (x : MarkD) (w : World) (ho : DeskOk m) (hx : MarkOk x) (hT : Tab w) (hB : TabB w) (hbase : base ≤ w.heap.size) (hD : DeskR w d base m F H S G) (ht : ThreadP x.thread) (hk : x.kind = 15) :
    Calls Tryz.prog 27 #[.pointer (some ⟨d, 0, none⟩), markV x] w (DoesP m d base x w) := by
  obtain ⟨W0, hW0⟩ : ∃ W0, W0 = w.alloc (.cells (markA x) 34) := ⟨_, rfl⟩
  have hE0 : Ext w W0 := hW0 ▸ (Ext.refl w).alloc _
  have hbx : Blk W0 w.heap.size 34 (markA x) := hW0 ▸ Blk.new _ _ _ _ rfl
  have hp : Calls Tryz.prog 57 #[.pointer (some ⟨d, 0, none⟩), markV x] W0 fun e w' => ∃ b, e = .returned (.bool b) ∧ Hid (DoesP m d base x w e w') := by
    refine (commit_any m d base F H S G x W0 ⟨ho.l2, ho.l4⟩ hx ho.hd (hB.ext hE0) (Nat.le_trans hbase hE0.size) (hD.ext hE0)).mono fun e w' hs => ?_
    have hq : DoesP m d base x W0 e w' := by
      obtain ⟨h1, h2, ⟨rfl, hn, G1, hD'⟩ | ⟨rfl, q1, G1, hD'⟩⟩ := hs
      · exact ⟨h1, h2, .inl ⟨rfl, .inr (.inr (.inl ⟨hk, hn⟩)), _, _, _, _, hD'⟩⟩
      · exact ⟨h1, h2, .inr ⟨rfl, _, F, H, S, G1, ⟨ht, .inr (.inl ⟨hk, q1, rfl⟩)⟩, hD'⟩⟩
    obtain ⟨b, rfl⟩ := hq.bool
    exact ⟨b, rfl, Lib.hid (hq.from hE0)⟩
  have HA : Hid (∀ W, Calls Tryz.prog 55 #[.int .i64 x.thread] W fun e w' => e = .returned (.bool true) ∧ W = w') := Lib.hid fun W => by have := anybody_any x.thread W; rw [B_yes ht] at this; exact this
  have x0 := hbx.cell (i := 0) (v := .int .i64 x.kind) rfl
  have x1 := hbx.cell (i := 1) (v := .int .i64 x.thread) rfl
  have x2 := hbx.cell (i := 2) (v := .int .i64 x.entry) rfl
  have x3 := hbx.cell (i := 3) (v := .int .i64 x.page) rfl
  have x4 := hbx.cell (i := 4) (v := .int .i64 x.n) rfl
  have x5 := hbx.cell (i := 5) (v := .int .u64 (x.mask : Int)) rfl
  have HP := Lib.hid hp
  clear hp hbx hE0 hD ho hx hT hB ht hbase
  unfold markA at hW0
  unfold markV at HP ⊢
  rw [hk] at x0 HP hW0 ⊢
  have HW0 := Lib.hid hW0
  clear hW0 hk
  go_enter Tryz.func27, Tryz.ntmps27
  go_upto_region 1 with fail
  rw [← HW0.out]
  go_wp2_with (first
    | (go_at_call 55; (with_reducible refine (HA.out _).mono ?_); rintro e w1 ⟨rfl, rfl⟩)
    | (go_at_call 57; (with_reducible refine HP.out.mono ?_); rintro e w1 ⟨b, rfl, hs⟩; have HS := Lib.hid hs; clear hs))
  go_ret
  exact HS.out.out

set_option maxHeartbeats 4000000 in
set_option maxRecDepth 100000 in
theorem does2_any (m : ModelD) (d base : Nat) (F H S G : Value) (x : MarkD) (w : World) (ho : DeskOk m) (hx : MarkOk x) (hT : Tab w) (hB : TabB w) (hbase : base ≤ w.heap.size) (hD : DeskR w d base m F H S G) (ht : ThreadP x.thread) (hk : x.kind = 2) :
    Calls Tryz.prog 27 #[.pointer (some ⟨d, 0, none⟩), markV x] w (DoesP m d base x w) := by
  obtain ⟨W0, hW0⟩ : ∃ W0, W0 = w.alloc (.cells (markA x) 34) := ⟨_, rfl⟩
  have hE0 : Ext w W0 := hW0 ▸ (Ext.refl w).alloc _
  have hbx : Blk W0 w.heap.size 34 (markA x) := hW0 ▸ Blk.new _ _ _ _ rfl
  have hp : Calls Tryz.prog 58 #[.pointer (some ⟨d, 0, none⟩), markV x] W0 fun e w' => ∃ b, e = .returned (.bool b) ∧ Hid (DoesP m d base x w e w') := by
    refine (layD_any m d base F H S G x W0 ⟨ho.l2, ho.l3, ho.l4⟩ hx ho.hd ho.r3 (hT.ext hE0) (Nat.le_trans hbase hE0.size) (hD.ext hE0)).mono fun e w' hs => ?_
    have hq : DoesP m d base x W0 e w' := by
      obtain ⟨h1, h2, ⟨rfl, hn, hD'⟩ | ⟨rfl, j, k, H1, S1, q1, q2, q3, q4, hD'⟩⟩ := hs
      · exact ⟨h1, h2, .inl ⟨rfl, .inr (.inr (.inr (.inl ⟨hk, hn⟩))), _, _, _, _, hD'⟩⟩
      · exact ⟨h1, h2, .inr ⟨rfl, _, F, H1, S1, G, ⟨ht, .inr (.inr (.inl ⟨hk, j, k, q1, q2, q3, q4, rfl⟩))⟩, hD'⟩⟩
    obtain ⟨b, rfl⟩ := hq.bool
    exact ⟨b, rfl, Lib.hid (hq.from hE0)⟩
  have HA : Hid (∀ W, Calls Tryz.prog 55 #[.int .i64 x.thread] W fun e w' => e = .returned (.bool true) ∧ W = w') := Lib.hid fun W => by have := anybody_any x.thread W; rw [B_yes ht] at this; exact this
  have x0 := hbx.cell (i := 0) (v := .int .i64 x.kind) rfl
  have x1 := hbx.cell (i := 1) (v := .int .i64 x.thread) rfl
  have x2 := hbx.cell (i := 2) (v := .int .i64 x.entry) rfl
  have x3 := hbx.cell (i := 3) (v := .int .i64 x.page) rfl
  have x4 := hbx.cell (i := 4) (v := .int .i64 x.n) rfl
  have x5 := hbx.cell (i := 5) (v := .int .u64 (x.mask : Int)) rfl
  have HP := Lib.hid hp
  clear hp hbx hE0 hD ho hx hT hB ht hbase
  unfold markA at hW0
  unfold markV at HP ⊢
  rw [hk] at x0 HP hW0 ⊢
  have HW0 := Lib.hid hW0
  clear hW0 hk
  go_enter Tryz.func27, Tryz.ntmps27
  go_upto_region 1 with fail
  rw [← HW0.out]
  go_wp2_with (first
    | (go_at_call 55; (with_reducible refine (HA.out _).mono ?_); rintro e w1 ⟨rfl, rfl⟩)
    | (go_at_call 58; (with_reducible refine HP.out.mono ?_); rintro e w1 ⟨b, rfl, hs⟩; have HS := Lib.hid hs; clear hs))
  go_ret
  exact HS.out.out

set_option maxHeartbeats 4000000 in
set_option maxRecDepth 100000 in
theorem does9_any (m : ModelD) (d base : Nat) (F H S G : Value) (x : MarkD) (w : World) (ho : DeskOk m) (hx : MarkOk x) (hT : Tab w) (hB : TabB w) (hbase : base ≤ w.heap.size) (hD : DeskR w d base m F H S G) (ht : ThreadP x.thread) (hk : x.kind = 9) :
    Calls Tryz.prog 27 #[.pointer (some ⟨d, 0, none⟩), markV x] w (DoesP m d base x w) := by
  obtain ⟨W0, hW0⟩ : ∃ W0, W0 = w.alloc (.cells (markA x) 34) := ⟨_, rfl⟩
  have hE0 : Ext w W0 := hW0 ▸ (Ext.refl w).alloc _
  have hbx : Blk W0 w.heap.size 34 (markA x) := hW0 ▸ Blk.new _ _ _ _ rfl
  have hp : Calls Tryz.prog 59 #[.pointer (some ⟨d, 0, none⟩), markV x] W0 fun e w' => ∃ b, e = .returned (.bool b) ∧ Hid (DoesP m d base x w e w') := by
    refine (dropD_any m d base F H S G x W0 ⟨ho.l2, ho.l3⟩ hx ho.r2 ho.r3 (Nat.le_trans hbase hE0.size) (hD.ext hE0)).mono fun e w' hs => ?_
    have hq : DoesP m d base x W0 e w' := by
      obtain ⟨h1, h2, ⟨rfl, hn, hD'⟩ | ⟨rfl, j, k, H1, S1, q1, q2, q3, q4, hD'⟩⟩ := hs
      · exact ⟨h1, h2, .inl ⟨rfl, .inr (.inr (.inr (.inr (.inl ⟨hk, hn⟩)))), _, _, _, _, hD'⟩⟩
      · exact ⟨h1, h2, .inr ⟨rfl, _, F, H1, S1, G, ⟨ht, .inr (.inr (.inr (.inl ⟨hk, j, k, q1, q2, q3, q4, rfl⟩)))⟩, hD'⟩⟩
    obtain ⟨b, rfl⟩ := hq.bool
    exact ⟨b, rfl, Lib.hid (hq.from hE0)⟩
  have HA : Hid (∀ W, Calls Tryz.prog 55 #[.int .i64 x.thread] W fun e w' => e = .returned (.bool true) ∧ W = w') := Lib.hid fun W => by have := anybody_any x.thread W; rw [B_yes ht] at this; exact this
  have x0 := hbx.cell (i := 0) (v := .int .i64 x.kind) rfl
  have x1 := hbx.cell (i := 1) (v := .int .i64 x.thread) rfl
  have x2 := hbx.cell (i := 2) (v := .int .i64 x.entry) rfl
  have x3 := hbx.cell (i := 3) (v := .int .i64 x.page) rfl
  have x4 := hbx.cell (i := 4) (v := .int .i64 x.n) rfl
  have x5 := hbx.cell (i := 5) (v := .int .u64 (x.mask : Int)) rfl
  have HP := Lib.hid hp
  clear hp hbx hE0 hD ho hx hT hB ht hbase
  unfold markA at hW0
  unfold markV at HP ⊢
  rw [hk] at x0 HP hW0 ⊢
  have HW0 := Lib.hid hW0
  clear hW0 hk
  go_enter Tryz.func27, Tryz.ntmps27
  go_upto_region 1 with fail
  rw [← HW0.out]
  go_wp2_with (first
    | (go_at_call 55; (with_reducible refine (HA.out _).mono ?_); rintro e w1 ⟨rfl, rfl⟩)
    | (go_at_call 59; (with_reducible refine HP.out.mono ?_); rintro e w1 ⟨b, rfl, hs⟩; have HS := Lib.hid hs; clear hs))
  go_ret
  exact HS.out.out

set_option maxHeartbeats 4000000 in
set_option maxRecDepth 100000 in
theorem does10_any (m : ModelD) (d base : Nat) (F H S G : Value) (x : MarkD) (w : World) (ho : DeskOk m) (hx : MarkOk x) (hT : Tab w) (hB : TabB w) (hbase : base ≤ w.heap.size) (hD : DeskR w d base m F H S G) (ht : ThreadP x.thread) (hk : x.kind = 10) :
    Calls Tryz.prog 27 #[.pointer (some ⟨d, 0, none⟩), markV x] w (DoesP m d base x w) := by
  obtain ⟨W0, hW0⟩ : ∃ W0, W0 = w.alloc (.cells (markA x) 34) := ⟨_, rfl⟩
  have hE0 : Ext w W0 := hW0 ▸ (Ext.refl w).alloc _
  have hbx : Blk W0 w.heap.size 34 (markA x) := hW0 ▸ Blk.new _ _ _ _ rfl
  have hp : Calls Tryz.prog 60 #[.pointer (some ⟨d, 0, none⟩), markV x] W0 fun e w' => ∃ b, e = .returned (.bool b) ∧ Hid (DoesP m d base x w e w') := by
    refine (back_any m d base F H S G x W0 ⟨ho.l1, ho.l2⟩ hx ho.fr ho.hd ho.r1 (Nat.le_trans hbase hE0.size) (hD.ext hE0)).mono fun e w' hs => ?_
    have hq : DoesP m d base x W0 e w' := by
      obtain ⟨h1, h2, ⟨rfl, hn, hD'⟩ | ⟨rfl, j, k, F1, H1, q1, q2, q3, q4, hD'⟩⟩ := hs
      · exact ⟨h1, h2, .inl ⟨rfl, .inr (.inr (.inr (.inr (.inr (.inl ⟨hk, hn⟩))))), _, _, _, _, hD'⟩⟩
      · exact ⟨h1, h2, .inr ⟨rfl, _, F1, H1, S, G, ⟨ht, .inr (.inr (.inr (.inr (.inl ⟨hk, j, k, q1, q2, q3, q4, rfl⟩))))⟩, hD'⟩⟩
    obtain ⟨b, rfl⟩ := hq.bool
    exact ⟨b, rfl, Lib.hid (hq.from hE0)⟩
  have HA : Hid (∀ W, Calls Tryz.prog 55 #[.int .i64 x.thread] W fun e w' => e = .returned (.bool true) ∧ W = w') := Lib.hid fun W => by have := anybody_any x.thread W; rw [B_yes ht] at this; exact this
  have x0 := hbx.cell (i := 0) (v := .int .i64 x.kind) rfl
  have x1 := hbx.cell (i := 1) (v := .int .i64 x.thread) rfl
  have x2 := hbx.cell (i := 2) (v := .int .i64 x.entry) rfl
  have x3 := hbx.cell (i := 3) (v := .int .i64 x.page) rfl
  have x4 := hbx.cell (i := 4) (v := .int .i64 x.n) rfl
  have x5 := hbx.cell (i := 5) (v := .int .u64 (x.mask : Int)) rfl
  have HP := Lib.hid hp
  clear hp hbx hE0 hD ho hx hT hB ht hbase
  unfold markA at hW0
  unfold markV at HP ⊢
  rw [hk] at x0 HP hW0 ⊢
  have HW0 := Lib.hid hW0
  clear hW0 hk
  go_enter Tryz.func27, Tryz.ntmps27
  go_upto_region 1 with fail
  rw [← HW0.out]
  go_wp2_with (first
    | (go_at_call 55; (with_reducible refine (HA.out _).mono ?_); rintro e w1 ⟨rfl, rfl⟩)
    | (go_at_call 60; (with_reducible refine HP.out.mono ?_); rintro e w1 ⟨b, rfl, hs⟩; have HS := Lib.hid hs; clear hs))
  go_ret
  exact HS.out.out

set_option maxHeartbeats 4000000 in
set_option maxRecDepth 100000 in
theorem does14_any (m : ModelD) (d base : Nat) (F H S G : Value) (x : MarkD) (w : World) (ho : DeskOk m) (hx : MarkOk x) (hT : Tab w) (hB : TabB w) (hbase : base ≤ w.heap.size) (hD : DeskR w d base m F H S G) (ht : ThreadP x.thread) (hk : x.kind = 14) :
    Calls Tryz.prog 27 #[.pointer (some ⟨d, 0, none⟩), markV x] w (DoesP m d base x w) := by
  obtain ⟨W0, hW0⟩ : ∃ W0, W0 = w.alloc (.cells (markA x) 34) := ⟨_, rfl⟩
  have hE0 : Ext w W0 := hW0 ▸ (Ext.refl w).alloc _
  have hbx : Blk W0 w.heap.size 34 (markA x) := hW0 ▸ Blk.new _ _ _ _ rfl
  have hp : Calls Tryz.prog 62 #[.pointer (some ⟨d, 0, none⟩), markV x] W0 fun e w' => ∃ b, e = .returned (.bool b) ∧ Hid (DoesP m d base x w e w') := by
    refine (release_any m d base F H S G x W0 ⟨ho.l1, ho.l4⟩ hx ho.fr ho.gn (hB.ext hE0) (Nat.le_trans hbase hE0.size) (hD.ext hE0)).mono fun e w' hs => ?_
    have hq : DoesP m d base x W0 e w' := by
      obtain ⟨h1, h2, ⟨rfl, hn, G1, hD'⟩ | ⟨rfl, q1, G1, hD'⟩⟩ := hs
      · exact ⟨h1, h2, .inl ⟨rfl, .inr (.inr (.inr (.inr (.inr (.inr (.inr (.inr (.inl ⟨hk, hn⟩)))))))), _, _, _, _, hD'⟩⟩
      · exact ⟨h1, h2, .inr ⟨rfl, _, F, H, S, G1, ⟨ht, .inr (.inr (.inr (.inr (.inr (.inr (.inr (.inl ⟨hk, q1, rfl⟩)))))))⟩, hD'⟩⟩
    obtain ⟨b, rfl⟩ := hq.bool
    exact ⟨b, rfl, Lib.hid (hq.from hE0)⟩
  have HA : Hid (∀ W, Calls Tryz.prog 55 #[.int .i64 x.thread] W fun e w' => e = .returned (.bool true) ∧ W = w') := Lib.hid fun W => by have := anybody_any x.thread W; rw [B_yes ht] at this; exact this
  have x0 := hbx.cell (i := 0) (v := .int .i64 x.kind) rfl
  have x1 := hbx.cell (i := 1) (v := .int .i64 x.thread) rfl
  have x2 := hbx.cell (i := 2) (v := .int .i64 x.entry) rfl
  have x3 := hbx.cell (i := 3) (v := .int .i64 x.page) rfl
  have x4 := hbx.cell (i := 4) (v := .int .i64 x.n) rfl
  have x5 := hbx.cell (i := 5) (v := .int .u64 (x.mask : Int)) rfl
  have HP := Lib.hid hp
  clear hp hbx hE0 hD ho hx hT hB ht hbase
  unfold markA at hW0
  unfold markV at HP ⊢
  rw [hk] at x0 HP hW0 ⊢
  have HW0 := Lib.hid hW0
  clear hW0 hk
  go_enter Tryz.func27, Tryz.ntmps27
  go_upto_region 1 with fail
  rw [← HW0.out]
  go_wp2_with (first
    | (go_at_call 55; (with_reducible refine (HA.out _).mono ?_); rintro e w1 ⟨rfl, rfl⟩)
    | (go_at_call 62; (with_reducible refine HP.out.mono ?_); rintro e w1 ⟨b, rfl, hs⟩; have HS := Lib.hid hs; clear hs))
  go_ret
  exact HS.out.out

set_option maxHeartbeats 4000000 in
set_option maxRecDepth 100000 in
theorem does12_any (m : ModelD) (d base : Nat) (F H S G : Value) (x : MarkD) (w : World) (ho : DeskOk m) (hx : MarkOk x) (hT : Tab w) (hB : TabB w) (hbase : base ≤ w.heap.size) (hD : DeskR w d base m F H S G) (ht : ThreadP x.thread) (hk : x.kind = 12) :
    Calls Tryz.prog 27 #[.pointer (some ⟨d, 0, none⟩), markV x] w (DoesP m d base x w) := by
  obtain ⟨W0, hW0⟩ : ∃ W0, W0 = w.alloc (.cells (markA x) 34) := ⟨_, rfl⟩
  have hE0 : Ext w W0 := hW0 ▸ (Ext.refl w).alloc _
  have hbx : Blk W0 w.heap.size 34 (markA x) := hW0 ▸ Blk.new _ _ _ _ rfl
  have hp : Calls Tryz.prog 61 #[.pointer (some ⟨d, 0, none⟩)] W0 fun e w' => ∃ b, e = .returned (.bool b) ∧ Hid (DoesP m d base x w e w') := by
    refine (cycle_any m d base F H S G W0 ⟨ho.l2, ho.l3⟩ (hD.ext hE0)).mono fun e w' hs => ?_
    have hq : DoesP m d base x W0 e w' := by
      obtain ⟨h1, h2, ⟨rfl, hn, hD'⟩ | ⟨rfl, q1, hD'⟩⟩ := hs
      · exact ⟨h1, h2, .inl ⟨rfl, .inr (.inr (.inr (.inr (.inr (.inr (.inl ⟨hk, hn⟩)))))), _, _, _, _, hD'⟩⟩
      · exact ⟨h1, h2, .inr ⟨rfl, _, F, H, S, G, ⟨ht, .inr (.inr (.inr (.inr (.inr (.inl ⟨hk, q1, rfl⟩)))))⟩, hD'⟩⟩
    obtain ⟨b, rfl⟩ := hq.bool
    exact ⟨b, rfl, Lib.hid (hq.from hE0)⟩
  have HA : Hid (∀ W, Calls Tryz.prog 55 #[.int .i64 x.thread] W fun e w' => e = .returned (.bool true) ∧ W = w') := Lib.hid fun W => by have := anybody_any x.thread W; rw [B_yes ht] at this; exact this
  have x0 := hbx.cell (i := 0) (v := .int .i64 x.kind) rfl
  have x1 := hbx.cell (i := 1) (v := .int .i64 x.thread) rfl
  have x2 := hbx.cell (i := 2) (v := .int .i64 x.entry) rfl
  have x3 := hbx.cell (i := 3) (v := .int .i64 x.page) rfl
  have x4 := hbx.cell (i := 4) (v := .int .i64 x.n) rfl
  have x5 := hbx.cell (i := 5) (v := .int .u64 (x.mask : Int)) rfl
  have HP := Lib.hid hp
  clear hp hbx hE0 hD ho hx hT hB ht hbase
  unfold markA at hW0
  unfold markV at ⊢
  rw [hk] at x0 hW0 ⊢
  have HW0 := Lib.hid hW0
  clear hW0 hk
  go_enter Tryz.func27, Tryz.ntmps27
  go_upto_region 1 with fail
  rw [← HW0.out]
  go_wp2_with (first
    | (go_at_call 55; (with_reducible refine (HA.out _).mono ?_); rintro e w1 ⟨rfl, rfl⟩)
    | (go_at_call 61; (with_reducible refine HP.out.mono ?_); rintro e w1 ⟨b, rfl, hs⟩; have HS := Lib.hid hs; clear hs))
  go_ret
  exact HS.out.out
end Go.Proofs.YtoolenhnhlfhmaaGreatDoor
