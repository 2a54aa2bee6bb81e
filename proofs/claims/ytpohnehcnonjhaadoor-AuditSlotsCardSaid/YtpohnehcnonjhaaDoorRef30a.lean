/- Walks: the document's SameInts, may, has, Who. -/
import Derived.Test.YtpohnehcnonjhaaDoorPieces2
namespace Go.Proofs.YtpohnehcnonjhaaDoor
open Go.RowKit
set_option linter.unusedVariables false
set_option linter.unusedSimpArgs false

def MayR (a n : Int) : Prop := 0 ≤ a ∧ a < 4096 ∧ 1 ≤ n ∧ n ≤ 4096
def HasR (a n p : Int) : Prop := MayR a n ∧ a ≤ p ∧ p < a + n
def intv (l : List Int) (j : Nat) : Value := .int .i64 (ix 0 l j)
set_option maxHeartbeats 1000000 in
theorem same_any (l m : List Int) (A C : Option Addr) (a c : Nat) (w : World) (hl : l.length ≤ 9223372036854775807) (hm : m.length ≤ 9223372036854775807) (hA : SlR w A l.length 1 (intv l)) (hC : SlR w C m.length 1 (intv m)) :
    Calls Tryd.prog 10 #[.slice A l.length a, .slice C m.length c] w fun e w' =>
      e = .returned (.bool (B (l = m))) ∧ Ext w w' := by
  have HH := Lib.hid (And.intro hA hC)
  clear hA hC
  by_cases hlen : l.length = m.length
  rotate_left
  · have HN := Lib.hid (show B (l = m) = false from B_no (fun h => hlen (by rw [h])))
    have e1 : ((l.length : Int) != (m.length : Int)) = true := by simp; omega
    clear hlen
    go_enter Tryd.func10, Tryd.ntmps10
    go_wp2_with fail
    go_ret
    exact ⟨by rw [HN.out]; rfl, Ext.refl _⟩
  have e1 : ((l.length : Int) != (m.length : Int)) = false := by simp; omega
  have HL := Lib.hid hlen
  go_enter Tryd.func10, Tryd.ntmps10
  go_wp2_with fail
  go_loopg [5] l.length (fun q i wr => ∃ k : Nat, k ≤ l.length ∧ q = l.length - k ∧ i = .int .i64 k ∧ Ext w wr ∧ ∀ j, j < k → ix 0 l j = ix 0 m j)
  case atStart => exact ⟨0, Nat.zero_le _, rfl, rfl, Ext.refl _, fun j hj => absurd hj (by omega)⟩
  case round =>
    obtain ⟨k, hk, rfl, rfl, hE, hall⟩ := hrel
    have HA := Lib.hid hall
    clear hall
    by_cases hlt : k < l.length
    · have hlt2 : k < m.length := by omega
      obtain ⟨b, off, rfl, hc⟩ := HH.out.1 (by omega)
      obtain ⟨b', off', rfl, hc'⟩ := HH.out.2 (by omega)
      have c0 := hE.cell (hc k (by omega))
      have c1 := hE.cell (hc' k (by omega))
      clear hc hc'
      unfold intv at c0 c1
      generalize hx : ix 0 l k = x at c0
      generalize hy : ix 0 m k = y at c1
      have HX := Lib.hid (And.intro hx hy)
      clear hx hy
      by_cases hq : x = y
      · have e2 : (x != y) = false := by simpa using hq
        have HQ := Lib.hid hq
        clear hq
        go_wp2_with fail
        go_quiet (fail)
        go_wp2_with fail
        go_roundg (l.length - (k + 1))
        case measure => go_light; omega
        exact ⟨k + 1, by omega, rfl, by simp, hE.drewN _, fun j hj => by
          by_cases e : j = k
          · subst e; rw [HX.out.1, HX.out.2, HQ.out]
          · exact HA.out j (by omega)⟩
      · have e2 : (x != y) = true := by simpa using hq
        have HN := Lib.hid (show B (l = m) = false from B_no (fun h => hq (by rw [← HX.out.1, ← HX.out.2, h])))
        clear hq
        go_wp2_with fail
        go_quiet (fail)
        go_wp2_with fail
        go_ret
        exact ⟨by rw [HN.out]; rfl, hE.drewN _⟩
    · obtain rfl : k = l.length := by omega
      have HY := Lib.hid (show B (l = m) = true from B_yes (List.ext_getElem HL.out (fun i h1 h2 => by
        have := HA.out i h1
        rwa [ix_lt h1, ix_lt h2] at this)))
      go_wp2_with fail
      go_ret
      exact ⟨by rw [HY.out]; rfl, hE⟩

theorem who_take {xs : List Pc} {k : Nat} (h : k < xs.length) : xs.take (k + 1) = xs.take k ++ [ix noPc xs k] := by
  rw [List.take_succ_eq_append_getElem h, ix_lt h]
theorem who_take_yes {xs : List Pc} {k : Nat} {kd a n p : Int} (h : k < xs.length) (e : ix noPc xs k = ⟨kd, a, n⟩) (hp : HasR a n p) : whoN (xs.take (k + 1)) p = whoN (xs.take k) p + 1 ∧ whoK (xs.take (k + 1)) p = if whoN (xs.take k) p = 0 then kd else whoK (xs.take k) p := by
  rw [who_take h, e]; exact who_yes hp
theorem who_take_no {xs : List Pc} {k : Nat} {kd a n p : Int} (h : k < xs.length) (e : ix noPc xs k = ⟨kd, a, n⟩) (hp : ¬ HasR a n p) : whoN (xs.take (k + 1)) p = whoN (xs.take k) p ∧ whoK (xs.take (k + 1)) p = whoK (xs.take k) p := by
  rw [who_take h, e]; exact who_no hp
end Go.Proofs.YtpohnehcnonjhaaDoor
