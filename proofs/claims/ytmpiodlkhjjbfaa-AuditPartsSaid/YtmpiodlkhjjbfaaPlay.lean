/- Walks: dustpanplay.Setup, Size. -/
import Derived.Test.YtmpiodlkhjjbfaaRows
import Derived.Test.YtmpiodlkhjjbfaaBlk
namespace Go.Proofs.Ytmpiodlkhjjbfaa
open Go.RowKit
set_option linter.unusedVariables false
set_option linter.unusedSimpArgs false

def sizes : List Nat := [0, 1, 100, 128, 129, 192, 256, 300, 384, 500, 512, 700, 1000, 1024, 1500, 2048, 3000, 4096, 5000, 6144, 8192, 9000, 12288, 12289, 20000, 30000]
theorem size_at (m : Nat) (h : m < 26) : ∃ z : Nat, (sizes.map (fun z => Value.int .i64 ((z : Nat) : Int)))[m]? = some (.int .i64 (z : Int)) ∧ z ≤ 30000 := by
  have hl : m < sizes.length := h
  refine ⟨sizes[m], by rw [List.getElem?_map, List.getElem?_eq_getElem hl]; rfl, ?_⟩
  have : ∀ x ∈ sizes, x ≤ 30000 := by decide
  exact this _ (List.getElem_mem hl)

set_option maxHeartbeats 1000000 in
set_option maxRecDepth 100000 in
theorem size_any (k : Nat) (w : World) (hk : k ≤ 1000000000) : Calls Try.prog 33 #[.int .i64 k] w fun e w' =>
    (∃ z : Nat, e = .returned (.int .i64 z) ∧ z ≤ 30000) ∧ Ext w w' := by
  have h26 : k % 26 < 26 := Nat.mod_lt _ (by omega)
  have ek : ((k : Nat) : Int) % 26 = ((k % 26 : Nat) : Int) := by simp
  generalize k % 26 = m at h26 ek
  go_enter Try.func33, Try.ntmps33
  obtain ⟨z, hz, hz2⟩ := size_at m h26
  have HZ := Lib.hid hz
  clear hz
  go_wp2
  go_ret
  refine ⟨⟨z, ?_, hz2⟩, (Ext.refl _).alloc _⟩
  have hz := HZ.out
  rw [List.getElem?_eq_getElem (by simpa [sizes] using h26)] at hz
  injection hz with hz
  show Ending.returned _ = _
  rw [← hz]
  rfl

theorem Try.infoU32 : (Try.prog.info? 73).map (fun i => (i.zero, i.size, i.bytes)) = some (some (.int .u32 0), 1, 4) := by kernel_rfl

/-- A slice of bytes. -/
def BytesR2 (w : World) (A : Option Addr) (xs : List Nat) : Prop := SlR w A xs.length 1 (fun j => .int .u8 ((ix 0 xs j : Nat) : Int)) ∧ ∀ i, ix 0 xs i < 256

theorem new_u32 (w : World) (t : TypeId) (x : Nat → Nat) {a : Int} {k : Nat} (ha : a = (x k : Nat)) : ∀ j, j < 1 → ((w.alloc (.cells #[.int .u32 a] t)).drew).cell? ((⟨w.heap.size, 0, none⟩ : Addr).add j) = some (.int .u32 ((x (k + j) : Nat) : Int)) := by
  intro j hj
  obtain rfl : j = 0 := by omega
  subst ha
  exact cell_new w _ t 0 _ rfl

theorem Try.infoSetup : (Try.prog.info? 47).map (fun i => i.size) = some 3 := by kernel_rfl
theorem setup_res : Try.f16.results = #[.cell 8 47] := by kernel_rfl

theorem setup_end {w wr : World} {P0 th0 k : Nat} {DA : Option Addr} {Dc : Nat} {F : Nat → Value} {a : Act} {t : TypeId} (hB : Blk wr w.heap.size t #[.int .i64 0, .int .i64 0, .slice none 0 0])
    (hO : OwnS wr (w.heap.size + 2) 73 1 (.slice DA k Dc) k F) (hE : Ext w wr) (hd : a.defers = [] := by rfl) (h8 : a.tmps[8]? = some (.pointer (some ⟨w.heap.size, 0, none⟩)) := by rfl) :
    bodyPost Try.prog Try.f16 (fun e w' =>
      (∃ DA Dc, e = .returned (.agg #[.int .i64 (1 + P0 : Nat), .int .i64 (1 + th0 % 6 : Nat), .slice DA k Dc]) ∧ OwnS w' w.heap.size 73 1 (.slice DA k Dc) k F) ∧ Ext w w') Exit.ret a
      (((wr.setCell ⟨w.heap.size, 0, none⟩ (.int .i64 (1 + P0))).setCell ⟨w.heap.size, 1, none⟩ (.int .i64 (1 + (th0 : Int) % 6))).setCell ⟨w.heap.size, 2, none⟩ (.slice DA k Dc)) := by
  have hB' := ((hB.set 0 (.int .i64 (1 + P0))).set 1 (.int .i64 (1 + (th0 : Int) % 6))).set 2 (.slice DA k Dc)
  have r0 := hB'.cell (i := 0) (v := .int .i64 (1 + P0)) rfl
  have r1 := hB'.cell (i := 1) (v := .int .i64 (1 + (th0 : Int) % 6)) rfl
  have r2 := hB'.cell (i := 2) (v := .slice DA k Dc) rfl
  refine bodyPost_ret (v := .agg #[.int .i64 (1 + P0), .int .i64 (1 + (th0 : Int) % 6), .slice DA k Dc]) ?_ hd ⟨⟨DA, Dc, by simp, ?_⟩, ?_⟩
  · obtain ⟨i, hi, hi3⟩ := Option.map_eq_some_iff.1 Try.infoSetup
    simp [results, setup_res, Array.getD_eq_getD_getElem?, h8, isAgg, run_underlying Try.underlying47, sizeOf, typeInfo, hi, hi3, loadCellsFrom, Addr.add, r0, r1, r2, go_sem]
  · have h2 := ((hO.far (p := ⟨w.heap.size, 0, none⟩) (by simp) (.int .i64 (1 + P0))).far (p := ⟨w.heap.size, 1, none⟩) (by simp) (.int .i64 (1 + (th0 : Int) % 6))).far (p := ⟨w.heap.size, 2, none⟩) (by simp) (.slice DA k Dc)
    exact h2.mono (by omega)
  · exact ((hE.setCell (p := ⟨w.heap.size, 0, none⟩) (Nat.le_refl _) _).setCell (p := ⟨w.heap.size, 1, none⟩) (Nat.le_refl _) _).setCell (p := ⟨w.heap.size, 2, none⟩) (Nat.le_refl _) _

set_option maxHeartbeats 1000000 in
set_option maxRecDepth 100000 in
theorem setup_any (pg th most : Nat) (A : Option Addr) (xs : List Nat) (c N : Nat) (w : World) (hpg : pg < 256) (hth : th < 256) (hm1 : 0 < most) (hm2 : most ≤ 1000000) (hn : xs.length ≤ maxLen) (hN : N = min xs.length 40) (hl : BytesR2 w A xs) :
    Calls Try.prog 16 #[.int .u8 pg, .int .u8 th, .int .i64 most, .slice A xs.length c] w fun e w' =>
      (∃ DA Dc, e = .returned (.agg #[.int .i64 (1 + pg % most : Nat), .int .i64 (1 + th % 6 : Nat), .slice DA N Dc]) ∧ OwnS w' w.heap.size 73 1 (.slice DA N Dc) N (fun j => .int .u32 ((ix 0 xs j : Nat) : Int))) ∧ Ext w w' := by
  have hn' : xs.length ≤ 9223372036854775807 := hn
  obtain ⟨hl, hx⟩ := hl
  have HL := Lib.hid (And.intro hl hx)
  clear hl hx
  have e1 : ((pg : Nat) : Int) % (most : Int) = ((pg % most : Nat) : Int) := by simp
  have b1 : pg % most ≤ 255 := Nat.le_trans (Nat.mod_le _ _) (by omega)
  have m0 : ¬ most = 0 := by omega
  generalize pg % most = P0 at e1 b1 ⊢
  obtain ⟨i0, hi, hz0, hz1, hz2⟩ := info_parts Try.infoU32
  have HI := Lib.hid (And.intro hi (And.intro hz0 (And.intro hz1 hz2)))
  clear hi hz0 hz1 hz2
  go_enter Try.func16, Try.ntmps16
  go_wp2
  have hB0 : Blk ((w.alloc (.cells #[.int .i64 0, .int .i64 0, .slice none 0 0] 47)).alloc (.cells #[.int .i64 (1 + P0), .int .i64 (1 + (th : Int) % 6), .slice none 0 0] 47)) w.heap.size 47 #[.int .i64 0, .int .i64 0, .slice none 0 0] := (Blk.new w _ _ _ rfl).alloc _
  have hB1 : Blk ((w.alloc (.cells #[.int .i64 0, .int .i64 0, .slice none 0 0] 47)).alloc (.cells #[.int .i64 (1 + P0), .int .i64 (1 + (th : Int) % 6), .slice none 0 0] 47)) (w.heap.size + 1) 47 #[.int .i64 (1 + P0), .int .i64 (1 + (th : Int) % 6), .slice none 0 0] := Blk.new _ _ _ _ (by simp)
  clear e1
  go_loopg [10] N (fun q i wr => ∃ (k : Nat) (DA : Option Addr) (Dc : Nat), k ≤ N ∧ q = N - k ∧ i = .int .i64 k ∧ Ext w wr ∧ Blk wr w.heap.size 47 #[.int .i64 0, .int .i64 0, .slice none 0 0] ∧
    Blk wr (w.heap.size + 1) 47 #[.int .i64 (1 + P0), .int .i64 (1 + (th : Int) % 6), .slice DA k Dc] ∧ OwnS wr (w.heap.size + 2) 73 1 (.slice DA k Dc) k (fun j => .int .u32 ((ix 0 xs j : Nat) : Int)) ∧ w.heap.size + 2 ≤ wr.heap.size)
  case atStart => exact ⟨0, none, 0, Nat.zero_le _, rfl, rfl, ((Ext.refl _).alloc _).alloc _, hB0, hB1, OwnS.nil _ _ _ _ _, by simp⟩
  case round =>
    obtain ⟨k, DA, Dc, hk, rfl, rfl, hE, hB0, hB1, hO, hsz⟩ := hrel
    have HB := Lib.hid (And.intro hB0 (And.intro hB1 hO))
    by_cases hlt : k < N
    · have hlen : k < xs.length := by omega
      have h40 : k < 40 := by omega
      obtain ⟨b, off, rfl, hc⟩ := HL.out.1 (by omega)
      have c0 := hE.cell (hc k (by omega))
      have hxk := HL.out.2 k
      have q0 : (0 : Int) ≤ (k : Int) := by omega
      have q1 : (k : Int) < (xs.length : Int) := by omega
      have c2 := hB1.cell (i := 2) rfl
      have f2 := hB1.frozen 2
      have cA : ∀ o, (wr.alloc o).cell? ⟨w.heap.size + 1, 2, none⟩ = some (.slice DA k Dc) := fun o => (hB1.alloc o).cell rfl
      have cB : ∀ o, (wr.alloc o).cell? ⟨b, off + k, none⟩ = some (.int .u8 ((ix 0 xs k : Nat) : Int)) := fun o => ((Ext.refl wr).alloc o).cell c0
      have W1 : IntKind.u32.wrap ((ix 0 xs k : Nat) : Int) = ((ix 0 xs k : Nat) : Int) := by rw [IntKind.wrap_u32']; omega
      have HV := Lib.hid W1
      clear hc hB0 hB1 hO hN hn
      go_wp2_with fail
      go_region_law ((refine step_push (by rfl) _ _ 45 (by rfl) (w.heap.size + 2) 73 i0 (.int .u32 0) 1 4 Try.underlying45 HI.out.1 HI.out.2.1 HI.out.2.2.1 HI.out.2.2.2 (by rfl) (by omega) (.slice DA k Dc) k (fun j => .int .u32 ((ix 0 xs j : Nat) : Int)) (by rfl) (HB.out.2.2.ext ((Ext.refl _).alloc _).drew) ⟨wr.heap.size, 0, none⟩ 1 (fun j => .int .u32 ((ix 0 xs (k + j) : Nat) : Int)) (by rfl) (new_u32 _ _ (ix 0 xs) rfl) (fun _ _ => rfl) (by unfold maxLen; omega) (by omega) (by simp; omega) _ rfl (fun j => .int .u32 ((ix 0 xs j : Nat) : Int)) (fun _ _ => rfl) (fun j _ => by rw [Nat.mul_one]) ?_; intro g cap w' hO' hgrow hExt hor hg; have hb0 := ((HB.out.1.alloc (.cells #[.int .u32 ((ix 0 xs k : Nat) : Int)] 73)).drew).grown hgrow (own_ne HB.out.2.2 (by omega)); have hb1 := ((HB.out.2.1.alloc (.cells #[.int .u32 ((ix 0 xs k : Nat) : Int)] 73)).drew).grown hgrow (own_ne HB.out.2.2 (by omega)); have c3 := hb1.cell (i := 2) rfl; have f3 := hb1.frozen 2))
      all_goals go_wp2
      all_goals (go_roundg (N - (k + 1)); (case measure => go_light; omega); exact ⟨k + 1, some ⟨g, 0, none⟩, cap, by omega, by omega, by simp, (hExt w (hE.trans ((Ext.refl _).alloc _).drew) (by simp)).setCell (p := ⟨w.heap.size + 1, 2, none⟩) (by show w.heap.size ≤ w.heap.size + 1; omega) _, hb0.far (by simp) _, hb1.set 2 _, hO'.far (by simp) _, by have := World.ownsRow.lt hO' g rfl; simp; omega⟩)
    · have ek : k = N := by omega
      subst ek
      have c0 := hB1.cell (i := 0) (v := .int .i64 (1 + P0)) rfl
      have c1 := hB1.cell (i := 1) (v := .int .i64 (1 + (th : Int) % 6)) rfl
      have c2 := hB1.cell (i := 2) (v := .slice DA k Dc) rfl
      have d0 := hB0.cell (i := 0) (v := .int .i64 0) rfl
      have d1 := fun u => (hB0.set 0 u).cell (i := 1) (v := .int .i64 0) rfl
      have d2 := fun u v => ((hB0.set 0 u).set 1 v).cell (i := 2) (v := .slice none 0 0) rfl
      have f0 := hB0.frozen 0
      have f1 := fun u => (hB0.set 0 u).frozen 1
      have f2 := fun u v => ((hB0.set 0 u).set 1 v).frozen 2
      have h40' : k < xs.length → ¬ k < 40 := by omega
      clear hB0 hB1 hO hN hn
      by_cases hlen : k < xs.length
      · have h40 := h40' hlen
        go_wp2_with fail
        exact setup_end HB.out.1 HB.out.2.2 hE rfl rfl
      · go_wp2_with fail
        exact setup_end HB.out.1 HB.out.2.2 hE rfl rfl
end Go.Proofs.Ytmpiodlkhjjbfaa
