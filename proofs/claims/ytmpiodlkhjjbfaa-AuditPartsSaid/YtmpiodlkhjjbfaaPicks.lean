/- Walks: law 31's Picks. -/
import Derived.Test.YtmpiodlkhjjbfaaRows
import Derived.Test.YtmpiodlkhjjbfaaFair1
namespace Go.Proofs.Ytmpiodlkhjjbfaa
open Go.RowKit
set_option linter.unusedVariables false
set_option linter.unusedSimpArgs false

theorem Try.infoPick : (Try.prog.info? 41).map (fun i => (i.zero, i.size, i.bytes)) = some (some (.agg #[.int .i64 0, .int .u64 0]), 2, 16) := by kernel_rfl

/-- A slice of bytes. -/
def BytesR (w : World) (A : Option Addr) (xs : List Nat) : Prop := SlR w A xs.length 1 (fun j => .int .u8 ((ix 0 xs j : Nat) : Int)) ∧ ∀ i, ix 0 xs i < 256
def pf (xs : List Nat) (i : Nat) : Int := ((ix 0 xs (2 * i) : Nat) : Int) % 5 - 1
def pg (xs : List Nat) (i : Nat) : Nat := ix 0 xs (2 * i + 1) % 16

theorem pf_eq {xs : List Nat} {k : Nat} (h : ix 0 xs (2 * k) < 256) : IntKind.i64.wrap ((IntKind.i64.wrap ((ix 0 xs (2 * k) : Nat) : Int)).tmod 5 - 1) = pf xs k := by
  unfold pf
  generalize ix 0 xs (2 * k) = x at *
  rw [show IntKind.i64.wrap (x : Int) = x from IntWalk.i64_in _ (by omega), Int.tmod_eq_emod_of_nonneg (by omega)]
  exact IntWalk.i64_in _ (by omega)
theorem pg_eq {xs : List Nat} {k : Nat} (h : ix 0 xs (2 * k + 1) < 256) : IntKind.u64.wrap ((((ix 0 xs (2 * k + 1) : Nat) : Int)).tmod 16) = pg xs k := by
  unfold pg
  generalize ix 0 xs (2 * k + 1) = x at *
  rw [Int.tmod_eq_emod_of_nonneg (by omega), IntKind.wrap_u64]
  omega
theorem pkv0 (f : Nat → Int) (g : Nat → Nat) (k : Nat) : pkv f g (k * 2) = .int .i64 (f k) := by simp [pkv]
theorem pkv1 (f : Nat → Int) (g : Nat → Nat) (k : Nat) : pkv f g (k * 2 + 1) = .int .u64 (g k) := by
  simp [pkv, show (k * 2 + 1) / 2 = k by omega]
theorem pk_one (f : Nat → Int) (g : Nat → Nat) (k : Nat) : ∀ j, j < 2 → (pkv f g (k * 2 + j)).oneCell' = true := by
  intro j hj
  rcases (show j = 0 ∨ j = 1 by omega) with rfl | rfl
  · rw [Nat.add_zero, pkv0]; rfl
  · rw [pkv1]; rfl
theorem new_pick {f : Nat → Int} {g : Nat → Nat} {k : Nat} {a b : Int} (w : World) (t : TypeId) (_u _v : Unit) (ha : a = f k) (hb : b = g k) : ∀ j, j < 2 → ((w.alloc (.cells #[.int .i64 a, .int .u64 b] t)).drew).cell? ((⟨w.heap.size, 0, none⟩ : Addr).add j) = some (pkv f g (k * 2 + j)) := by
  intro j hj
  subst ha hb
  rcases (show j = 0 ∨ j = 1 by omega) with rfl | rfl
  · rw [Nat.add_zero, pkv0]; exact cell_new w _ t 0 _ rfl
  · rw [pkv1]; exact cell_new w _ t 1 _ rfl

set_option maxHeartbeats 1000000 in
set_option maxRecDepth 100000 in
theorem picks_any (A : Option Addr) (xs : List Nat) (c N : Nat) (w : World) (hn : xs.length ≤ maxLen) (hN1 : 2 * N ≤ xs.length) (hN2 : N ≤ 100) (hN3 : N < 100 → xs.length < 2 * N + 2) (hl : BytesR w A xs) :
    Calls Try.prog 13 #[.slice A xs.length c] w fun e w' => ∃ v, e = .returned v ∧ OwnS w' w.heap.size 41 2 v N (pkv (pf xs) (pg xs)) ∧ Ext w w' := by
  have hn' : xs.length ≤ 9223372036854775807 := hn
  obtain ⟨hl, hx⟩ := hl
  obtain ⟨i0, hi, hz0, hz1, hz2⟩ := info_parts Try.infoPick
  have HI := Lib.hid hi
  have HZ := Lib.hid (And.intro hz0 (And.intro hz1 hz2))
  clear hi hz0 hz1 hz2
  go_enter Try.func13, Try.ntmps13
  go_wp2
  go_loopg [3, 4] N (fun q v i wr => ∃ k : Nat, k ≤ N ∧ q = N - k ∧ i = .int .i64 (2 * k : Nat) ∧ Ext w wr ∧ OwnS wr w.heap.size 41 2 v k (pkv (pf xs) (pg xs)))
  case atStart => exact ⟨0, Nat.zero_le _, rfl, rfl, Ext.refl _, OwnS.nil _ _ _ _ _⟩
  case round =>
    obtain ⟨k, hk, rfl, rfl, hE, hO⟩ := hrel
    obtain ⟨Av, cv, rfl, hcv, hvr⟩ := hO.form
    by_cases hlt : k < N
    · obtain ⟨b, off, rfl, hc⟩ := hl (by omega)
      have w0 := hc (2 * k) (by omega)
      have w1 := hc (2 * k + 1) (by omega)
      have x0 := hx (2 * k)
      have x1 := hx (2 * k + 1)
      have hk2 : 2 * k + 1 < xs.length := by omega
      have HO := Lib.hid hO
      have hk3 : k < 100 := by omega
      have HC := Lib.hid (And.intro w0 w1)
      have HX := Lib.hid (And.intro x0 x1)
      clear hc hl hx hN1 hN2 hN3 hn hO hvr hcv w0 w1 x0 x1
      go_wp2
      have c0 := hE.cell HC.out.1
      have c1 := hE.cell HC.out.2
      have q0 : (0 : Int) ≤ 2 * (k : Int) := by omega
      have q1 : 2 * (k : Int) + 1 < (xs.length : Int) := by omega
      have q2 : (2 * (k : Int) + 1).toNat = 2 * k + 1 := by omega
      have q3 : (2 * (k : Int)).toNat = 2 * k := by omega
      have q4 : 2 * (k : Int) < (xs.length : Int) := by omega
      have q5 : (0 : Int) ≤ 2 * (k : Int) + 1 := by omega
      have q6 : IntKind.i64.wrap (2 * (k : Int) + 1) = 2 * (k : Int) + 1 := IntWalk.i64_in _ (by omega)
      have HV := Lib.hid (And.intro (pf_eq HX.out.1) (pg_eq HX.out.2))
      go_region_held3 (fun w' => w'.cell? ⟨b, off + 2 * k, none⟩ = some (.int .u8 ((ix 0 xs (2 * k) : Nat) : Int)) ∧ w'.cell? ⟨b, off + (2 * k + 1), none⟩ = some (.int .u8 ((ix 0 xs (2 * k + 1) : Nat) : Int))) (first | go_keep | exact ⟨(hExt w (hE.trans ((Ext.refl _).alloc _).drew) (Nat.le_refl _)).cell HC.out.1, (hExt w (hE.trans ((Ext.refl _).alloc _).drew) (Nat.le_refl _)).cell HC.out.2⟩)
        (first
          | (refine step_push (by rfl) _ _ 36 (by rfl) w.heap.size 41 i0 (.agg #[.int .i64 0, .int .u64 0]) 2 16 Try.underlying36 HI.out HZ.out.1 HZ.out.2.1 HZ.out.2.2 (by rfl) (by omega) (.slice Av k cv) k (pkv (pf xs) (pg xs)) (by rfl) (HO.out.ext ((Ext.refl _).alloc _).drew)
              ⟨wr.heap.size, 0, none⟩ 1 (fun j => pkv (pf xs) (pg xs) (k * 2 + j)) (by rfl) (new_pick _ _ () () HV.out.1 HV.out.2) (pk_one _ _ _) (by unfold maxLen; omega) (by omega) (by have := hE.size; simp; omega) _ rfl (pkv (pf xs) (pg xs)) (fun _ _ => rfl) (fun _ _ => rfl) ?_
             intro g cap w' hO' hgrow hExt hor hg))
      have hEE := hExt w (hE.trans ((Ext.refl _).alloc _).drew) (Nat.le_refl _)
      go_wp2
      go_roundg (N - (k + 1))
      case measure => go_light; omega
      case rel => exact ⟨k + 1, by omega, rfl, by go_num, hEE, hO'⟩
    · obtain rfl : k = N := by omega
      by_cases hN : k < 100
      · have hlen := hN3 hN
        by_cases h2 : 2 * k + 1 < xs.length
        · exact absurd h2 (by omega)
        · clear hl hx hvr
          go_wp2
          go_ret
          exact ⟨_, rfl, hO, hE⟩
      · obtain rfl : k = 100 := by omega
        clear hl hx hvr
        go_wp2
        all_goals go_ret
        all_goals exact ⟨_, rfl, hO, hE⟩
end Go.Proofs.Ytmpiodlkhjjbfaa
