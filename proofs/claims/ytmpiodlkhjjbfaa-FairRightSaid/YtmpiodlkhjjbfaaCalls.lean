/- Walk: dustpanlaw27.Calls. -/
import Derived.Test.YtmpiodlkhjjbfaaPlay
import Derived.Test.YtmpiodlkhjjbfaaRows2
import Derived.Test.YtmpiodlkhjjbfaaFair2
namespace Go.Proofs.Ytmpiodlkhjjbfaa
open Go.RowKit
set_option linter.unusedVariables false
set_option linter.unusedSimpArgs false

theorem Try.infoCall : (Try.prog.info? 76).map (fun i => (i.zero, i.size, i.bytes)) = some (some (.agg #[.int .i64 0, .int .i64 0, .slice none 0 0]), 3, 40) := by kernel_rfl

/-- The cells of one call. -/
def onev (k av : Int) (A : Option Addr) (n lc : Nat) (j : Nat) : Value := if j = 0 then .int .i64 k else if j = 1 then .int .i64 av else .slice A n lc
def pushv (N : Nat) (F : Nat → Value) (k av : Int) (A : Option Addr) (n lc : Nat) (j : Nat) : Value := if j < N * 3 then F j else if j = N * 3 then .int .i64 k else if j = N * 3 + 1 then .int .i64 av else .slice A n lc
theorem pushv_lt {N : Nat} {F : Nat → Value} {k av : Int} {A : Option Addr} {n lc j : Nat} (h : j < N * 3) : pushv N F k av A n lc j = F j := if_pos h
theorem pushv_new {N : Nat} {F : Nat → Value} {k av : Int} {A : Option Addr} {n lc j : Nat} (h : j < 3) : pushv N F k av A n lc (N * 3 + j) = onev k av A n lc j := by
  unfold pushv onev
  rw [if_neg (by omega)]
  by_cases h0 : j = 0
  · rw [if_pos (by omega), if_pos h0]
  · rw [if_neg (by omega), if_neg h0]
    by_cases h1 : j = 1
    · rw [if_pos (by omega), if_pos h1]
    · rw [if_neg (by omega), if_neg h1]
theorem onev_one (k av : Int) (A : Option Addr) (n lc : Nat) : ∀ j, j < 3 → (onev k av A n lc j).oneCell' = true := by
  intro j hj
  unfold onev
  split
  · rfl
  · split <;> rfl
theorem new_call (w : World) (t : TypeId) (k av : Int) (A : Option Addr) (n lc : Nat) : ∀ j, j < 3 → ((w.alloc (.cells #[.int .i64 k, .int .i64 av, .slice A n lc] t)).drew).cell? ((⟨w.heap.size, 0, none⟩ : Addr).add j) = some (onev k av A n lc j) := by
  intro j hj
  have h : j = 0 ∨ j = 1 ∨ j = 2 := by omega
  rcases h with rfl | rfl | rfl
  · exact cell_new w _ t 0 _ rfl
  · exact cell_new w _ t 1 _ rfl
  · exact cell_new w _ t 2 _ rfl

theorem crows_step {wb w' : World} {g0 T u : Nat} {V : Nat → Value} {R : Nat → List CallD} {VA A : Option Addr} {vc N n lc g cap H : Nat} {k av : Int} {l : List Int} {LA : Nat → Option Addr} {LC : Nat → Nat} {o : Obj}
    (hR : CRows wb g0 T V R) (hu : u < T) (hV : V u = .slice VA N vc) (hN : (R u).length = N) (hL : NameS wb (g0 + 1) A lc l) (hn : l.length = n) (hmay : MayOk ⟨k, av, l⟩)
    (hO : OwnS wb (g0 + 1) 76 3 (.slice VA N vc) N (callv (R u) LA LC)) (hLL : ∀ i, i < (R u).length → NameS wb (g0 + 1) (LA i) (LC i) (ix noCall (R u) i).l ∧ MayOk (ix noCall (R u) i))
    (hgrow : (wb.alloc o).drew.grownBy w' (Value.slice VA N vc).ownBlock) (hO' : OwnS w' (g0 + 1) 76 3 (.slice (some ⟨g, 0, none⟩) (N + 1) cap) (N + 1) (pushv N (callv (R u) LA LC) k av A n lc))
    (hor : (Value.slice VA N vc).ownBlock = some g ∨ g = H) (hH : (wb.alloc o).drew.heap.size = H) :
    ∃ V' R', CRows (w'.setCell ⟨g0, u, none⟩ (.slice (some ⟨g, 0, none⟩) (N + 1) cap)) g0 T V' R' ∧ ∀ k, (R' k).length = if k = u then N + 1 else (R k).length := by
  have hE : Ext wb (wb.alloc o).drew := ((Ext.refl _).alloc _).drew
  subst hN hn hH
  refine ⟨_, _, (hR.ext hE).put (v' := .slice (some ⟨g, 0, none⟩) ((R u).length + 1) cap) (cs := R u ++ [⟨k, av, l⟩]) hu (by rw [hV]; exact hgrow) ?_ ?_, ?_⟩
  · exact Stash.pushed (F := fun _ => undef) (c := ⟨k, av, l⟩) (((hR.ext hE).2.1 u hu)) (hL.ext hE) hmay (by rw [hV]; exact hO.ext hE) (by rw [hV]; exact hgrow) LA LC (fun i hi => ⟨(hLL i hi).1.ext hE, (hLL i hi).2⟩) hO'
  · rw [hV]
    rcases hor with h | h
    · exact .inl h.symm
    · exact .inr (by rw [h]; rfl)
  · intro k'
    try dsimp only
    by_cases e : k' = u
    · rw [if_pos e, if_pos e]; simp
    · rw [if_neg e, if_neg e]

theorem len_lt {n u T m : Nat} (h : 0 < n → u + T * (n - 1) < m) (hu : m % T = u) (hT : 0 < T) (hm : m < 40 * T) : n < 40 ∧ u + T * n < m + 1 := by
  have e := Nat.div_add_mod m T
  rw [hu] at e
  have hq : m / T < 40 := Nat.div_lt_of_lt_mul (by rw [Nat.mul_comm]; exact hm)
  rcases Nat.eq_zero_or_pos n with rfl | h0
  · exact ⟨by omega, by have := Nat.zero_le (T * (m / T)); omega⟩
  · have h1 := h h0
    have h2 : T * (n - 1) < T * (m / T) := by omega
    have h3 : n - 1 < m / T := Nat.lt_of_mul_lt_mul_left h2
    have h4 : T * n ≤ T * (m / T) := Nat.mul_le_mul_left _ (by omega)
    exact ⟨by omega, by omega⟩

theorem lens_step {R R' : Nat → List CallD} {u N T m : Nat} (hl' : ∀ k, (R' k).length = if k = u then N + 1 else (R k).length) (h : ∀ u, u < T → (R u).length ≤ 40 ∧ (0 < (R u).length → u + T * ((R u).length - 1) < m)) (h40 : N < 40) (hm : u + T * N < m + 1) :
    ∀ k, k < T → (R' k).length ≤ 40 ∧ (0 < (R' k).length → k + T * ((R' k).length - 1) < m + 1) := by
  intro k hk
  rw [hl' k]
  by_cases e : k = u
  · subst e
    rw [if_pos rfl, Nat.add_sub_cancel]
    exact ⟨by omega, fun _ => hm⟩
  · rw [if_neg e]
    exact ⟨(h k hk).1, fun h0 => Nat.lt_succ_of_lt ((h k hk).2 h0)⟩

theorem and_one_i64 (x : Nat) (hx : x < 256) : bits .and .i64 (x : Int) 1 = ((x % 2 : Nat) : Int) := by
  have h1 : (BitVec.ofInt 64 (1 : Int)).toNat = 1 := rfl
  show IntKind.i64.wrap ((BitVec.ofInt 64 (x : Int) &&& BitVec.ofInt 64 (1 : Int)).toNat : Int) = _
  rw [BitVec.toNat_and, ofInt_u64 x (by omega), h1, nat_mask1]
  exact IntWalk.i64_in _ (by omega)
theorem shr_and_one_i64 (x t : Nat) (hx : x < 256) : bits .and .i64 ((x : Int) / 2 ^ t) 1 = if x.testBit t then 1 else 0 := by
  have e : ((x : Int) / 2 ^ t) = ((x / 2 ^ t : Nat) : Int) := by simp
  rw [e, and_one_i64 _ (Nat.lt_of_le_of_lt (Nat.div_le_self _ _) hx)]
  simp only [Nat.testBit_eq_decide_div_mod_eq]
  rcases Nat.mod_two_eq_zero_or_one (x / 2 ^ t) with h | h <;> simp [h]

theorem Try.infoInt : (Try.prog.info? 3).map (fun i => (i.zero, i.size, i.bytes)) = some (some (.int .i64 0), 1, 8) := by kernel_rfl

theorem names_push {l : List Int} {v : Int} (h : NamesTo l l.length) (h0 : 0 ≤ v) (hl : ∀ i, i < l.length → ix 0 l i < v) : NamesTo (l ++ [v]) (l.length + 1) := by
  intro j hj
  by_cases e : j = l.length
  · subst e
    rw [ix_app_end]
    refine ⟨h0, fun h1 => ?_⟩
    rw [ix_app_lt 0 l v (by omega)]
    exact hl _ (by omega)
  · have := h j (by omega)
    rw [ix_app_lt 0 l v (by omega), ix_app_lt 0 l v (by omega)]
    exact this
theorem names_last {l : List Int} {v u : Int} (hl : ∀ i, i < l.length → ix 0 l i < v) (hv : v < u) : ∀ i, i < l.length + 1 → ix 0 (l ++ [v]) i < u := by
  intro j hj
  by_cases e : j = l.length
  · subst e
    rw [ix_app_end]
    exact hv
  · rw [ix_app_lt 0 l v (by omega)]
    have := hl j (by omega)
    omega

theorem CRows.mays {w : World} {g T : Nat} {V : Nat → Value} {R : Nat → List CallD} (h : CRows w g T V R) {u : Nat} (hu : u < T) : ∀ i, i < (R u).length → MayOk (ix noCall (R u) i) := by
  obtain ⟨LA, LC, _, h2⟩ := h.2.1 u hu
  exact fun i hi => (h2 i hi).2
theorem new_one (w : World) (t : TypeId) (v : Value) {j : Nat} (hj : j < 1) : (w.alloc (.cells #[v] t)).cell? ((⟨w.heap.size, 0, none⟩ : Addr).add j) = some v := by
  obtain rfl : j = 0 := by omega
  exact cell_new w _ t 0 _ rfl
theorem push_old {l : List Int} {v : Int} {j : Nat} (hj : j < l.length * 1) : Value.int .i64 (ix 0 (l ++ [v]) j) = .int .i64 (ix 0 l j) := by
  rw [ix_app_lt 0 l _ (by omega)]
theorem push_new {l : List Int} {v : Int} {j : Nat} (hj : j < 1) : Value.int .i64 (ix 0 (l ++ [v]) (l.length * 1 + j)) = .int .i64 v := by
  obtain rfl : j = 0 := by omega
  rw [Nat.mul_one, Nat.add_zero, ix_app_end]

set_option maxHeartbeats 2000000 in
set_option maxRecDepth 100000 in
theorem calls_any (p T : Nat) (D : Value) (A : Option Addr) (xs : List Nat) (c : Nat) (w : World) (hT1 : 1 ≤ T) (hT6 : T ≤ 6) (hn : xs.length ≤ maxLen) (hl : BytesR2 w A xs) (hD : ∃ A n c, D = .slice A n c) :
    Calls Try.prog 17 #[.agg #[.int .i64 p, .int .i64 T, D], .slice A xs.length c] w fun e w' =>
      (∃ (g : Nat) (R : Nat → List CallD), e = .returned (.slice (some ⟨g, 0, none⟩) T T) ∧ CallssR w' (some ⟨g, 0, none⟩) ((List.range T).map R) ∧ ∀ u, u < T → (R u).length ≤ 40 ∧ ∀ i, i < (R u).length → MayOk (ix noCall (R u) i)) ∧ Ext w w' := by
  obtain ⟨DA, Dn, Dc, rfl⟩ := hD
  have hn' : xs.length ≤ 9223372036854775807 := hn
  obtain ⟨hl, hx⟩ := hl
  have HL := Lib.hid (And.intro hl hx)
  clear hl hx
  obtain ⟨i0, hi, hz0, hz1, hz2⟩ := info_parts Try.infoCall
  have HI := Lib.hid (And.intro hi (And.intro hz0 (And.intro hz1 hz2)))
  clear hi hz0 hz1 hz2
  have hTN : T ≤ maxLen := by unfold maxLen; omega
  go_enter Try.func17, Try.ntmps17
  have hB0 : Blk (w.alloc (.cells #[.int .i64 p, .int .i64 T, .slice DA Dn Dc] 47)) w.heap.size 47 #[.int .i64 p, .int .i64 T, .slice DA Dn Dc] := Blk.new w _ _ _ rfl
  have c1 := hB0.cell (i := 1) (v := .int .i64 T) rfl
  have hE1 : Ext w (w.alloc (.cells #[.int .i64 p, .int .i64 T, .slice DA Dn Dc] 47)) := (Ext.refl _).alloc _
  have hmk := run_make_row' (P := Try.prog) 49 77 (.slice none 0 0) 24 Try.underlying49 Try.infoCalls rfl .i64 .i64 T (by omega) (by omega)
  go_wp2
  clear hmk c1
  have hR0 := CRows.made (w := w.alloc (.cells #[.int .i64 p, .int .i64 T, .slice DA Dn Dc] 47)) (w' := w) hTN (w.heap.size + 1) (by simp)
  have hE2 := hE1.alloc (.cells (madeCells #[.slice none 0 0] T) 77)
  have hB1 := hB0.alloc (.cells (madeCells #[.slice none 0 0] T) 77)
  clear hB0 hE1
  go_loopg [6] (50 * T) (fun q i wr => ∃ (m j : Nat) (V : Nat → Value) (R : Nat → List CallD), j = 3 * m ∧ m ≤ 40 * T ∧ q = 50 * T - m ∧ i = .int .i64 j ∧ Ext w wr ∧ Blk wr w.heap.size 47 #[.int .i64 p, .int .i64 T, .slice DA Dn Dc] ∧
    CRows wr (w.heap.size + 1) T V R ∧ ∀ u, u < T → (R u).length ≤ 40 ∧ (0 < (R u).length → u + T * ((R u).length - 1) < m))
  case atStart => exact ⟨0, 0, _, _, rfl, Nat.zero_le _, rfl, rfl, hE2, hB1, hR0, fun u hu => ⟨by simp, by simp⟩⟩
  case round =>
    obtain ⟨m, j, V, R, ej, hm, rfl, rfl, hE, hB, hR, hlens⟩ := hrel
    have HB := Lib.hid (And.intro hB (And.intro hR hlens))
    clear hB1 hR0 hE2 hlens
    have c1 := hB.cell (i := 1) (v := .int .i64 T) rfl
    by_cases hlt : j + 2 < xs.length
    · by_cases hm2 : m < 40 * T
      · have e3 : ((j : Nat) : Int) / 3 = (m : Int) := by omega
        have e4 : ((m : Nat) : Int) % (T : Int) = ((m % T : Nat) : Int) := by simp
        have hu : m % T < T := Nat.mod_lt _ (by omega)
        have T0 : ¬ T = 0 := by omega
        obtain ⟨u, hU⟩ : ∃ u, m % T = u := ⟨_, rfl⟩
        rw [hU] at hu e4
        have q6 : (j : Int) < 120 * (T : Int) := by omega
        have HU := Lib.hid (And.intro hU (And.intro ej HB.out.2.2))
        obtain ⟨b, off, rfl, hc⟩ := HL.out.1 (by omega)
        have d0 : wr.cell? ⟨b, off + j, none⟩ = some (.int .u8 (ix 0 xs j : Nat)) := hE.cell (hc j (by omega))
        have d1 : wr.cell? ⟨b, off + (j + 1), none⟩ = some (.int .u8 (ix 0 xs (j + 1) : Nat)) := hE.cell (hc (j + 1) (by omega))
        have d2 : wr.cell? ⟨b, off + (j + 2), none⟩ = some (.int .u8 (ix 0 xs (j + 2) : Nat)) := hE.cell (hc (j + 2) (by omega))
        have x0 := HL.out.2 j
        have x1 := HL.out.2 (j + 1)
        have x2 := HL.out.2 (j + 2)
        have q0 : (0 : Int) ≤ (j : Int) := by omega
        have q1 : (j : Int) < (xs.length : Int) := by omega
        have q2 : (0 : Int) ≤ (j : Int) + 1 := by omega
        have q3 : (j : Int) + 1 < (xs.length : Int) := by omega
        have q4 : (0 : Int) ≤ (j : Int) + 2 := by omega
        have q5 : (j : Int) + 2 < (xs.length : Int) := by omega
        have q7 : decide ((j : Int) < 120 * (T : Int)) = true := by simpa using q6
        clear hc hn ej hU
        generalize ix 0 xs j = a0 at *
        generalize ix 0 xs (j + 1) = a1 at *
        generalize ix 0 xs (j + 2) = a2 at *
        obtain ⟨VA, vc, hV⟩ := (hR.2.1 u hu).form
        have q8 : (0 : Int) ≤ (u : Int) := by omega
        have q9 : (u : Int) < (T : Int) := by omega
        have HD := Lib.hid (And.intro d0 (And.intro hE (And.intro hV e4)))
        have HP := Lib.hid (And.intro q0 q1)
        clear hB
        -- ARMS
        have hcs : a0 % 12 = 7 ∨ a0 % 12 = 8 ∨ (a0 % 12 ≠ 7 ∧ a0 % 12 ≠ 8 ∧ a0 % 12 ≠ 9 ∧ a0 % 12 ≠ 10 ∧ a0 % 12 ≠ 11) ∨ a0 % 12 = 11 ∨ a0 % 12 = 9 ∨ a0 % 12 = 10 := by omega
        rcases hcs with hcs | hcs | hcs | hcs | hcs | hcs
        · have s7 : (a0 : Int) % 12 = 7 := by omega
          have Hs := Lib.hid s7
          go_wp2_with fail
          go_region
          clear c1 d0 d1 d2 e3 q6 q7 q0 q1 q2 q3 q4 q5 e4
          go_wp2_with (go_at_call 33; refine (size_any a1 _ (by omega)).mono ?_; rintro e w1 ⟨⟨z, rfl, hz⟩, hE1⟩; have d0' := fun o => (hE1.alloc o).cell HD.out.1; obtain ⟨p0, p1⟩ := HP.out)
          have hEb : Ext wr (w1.alloc (.cells #[.int .i64 2, .int .i64 0, .slice none 0 0] 76)) := (((Ext.refl wr).drew).trans hE1).alloc _
          have hCb := Blk.new w1 76 #[.int .i64 2, .int .i64 0, .slice none 0 0] _ rfl
          have hNb : NameS (w1.alloc (.cells #[.int .i64 2, .int .i64 0, .slice none 0 0] 76)) (w.heap.size + 1 + 1) none 0 [] := OwnS.nil _ _ _ _ _
          have hmay : MayOk ⟨2, 0, []⟩ := by unfold MayOk; simp
          clear d0'
          generalize w1.alloc (.cells #[.int .i64 2, .int .i64 0, .slice none 0 0] 76) = wb at hEb hCb hNb ⊢
          clear hE1
          generalize w1.heap.size = gC at hCb ⊢
          have HT := Lib.hid (And.intro hCb (And.intro hEb (And.intro hNb hmay)))
          clear hCb hEb hNb hmay
          have hRb := HB.out.2.1.ext HT.out.2.1
          obtain ⟨LA, LC, hO, hLL⟩ := hRb.2.1 u hu
          rw [hV] at hO
          have cO : wb.cell? ⟨w.heap.size + 1, u, none⟩ = some (.slice VA (R u).length vc) := by rw [← hV]; exact hRb.1.cellAt (by omega)
          have HO := Lib.hid (And.intro hRb (And.intro hO hLL))
          clear hRb hO hLL
          have k0 := HT.out.1.cell (i := 0) (v := .int .i64 2) rfl
          have k1 := HT.out.1.cell (i := 1) (v := .int .i64 0) rfl
          have k2 := HT.out.1.cell (i := 2) (v := .slice none 0 0) rfl
          have kA0 := fun o => (HT.out.1.alloc o).cell (i := 0) (v := .int .i64 2) rfl
          have kA1 := fun o => (HT.out.1.alloc o).cell (i := 1) (v := .int .i64 0) rfl
          have kA2 := fun o => (HT.out.1.alloc o).cell (i := 2) (v := .slice none 0 0) rfl
          have cOA : ∀ o, (wb.alloc o).cell? ⟨w.heap.size + 1, u, none⟩ = some (.slice VA (R u).length vc) := fun o => ((Ext.refl wb).alloc o).cell cO
          obtain ⟨hl40, hlm⟩ := len_lt (HU.out.2.2 u hu).2 HU.out.1 (by omega) hm2
          have HM := Lib.hid hlm
          clear hlm
          obtain ⟨N, hN⟩ : ∃ N, (R u).length = N := ⟨_, rfl⟩
          have hgs : w.heap.size + 1 < wb.heap.size := (World.ownsRow.lt HO.out.1.1 (w.heap.size + 1) rfl).2
          have hne0 : (Value.slice (some ⟨w.heap.size + 1, 0, none⟩) T T).ownBlock = none ∨ (Value.slice (some ⟨w.heap.size + 1, 0, none⟩) T T).ownBlock ≠ (Value.slice VA (R u).length vc).ownBlock := .inr (own_ne (g := w.heap.size + 1) HO.out.2.1 (by omega))
          have HN := Lib.hid hN
          rw [hN] at cO cOA hl40 hne0
          clear hN
          have e4 := HD.out.2.2.2
          go_region_law ((refine step_push (by rfl) _ _ 77 (by rfl) (w.heap.size + 1 + 1) 76 i0 (.agg #[.int .i64 0, .int .i64 0, .slice none 0 0]) 3 40 Try.underlying77 HI.out.1 HI.out.2.1 HI.out.2.2.1 HI.out.2.2.2 (by rfl) (by omega) (.slice VA N vc) N (callv (R u) LA LC) (by rfl) (by rw [← HN.out]; exact HO.out.2.1.ext ((Ext.refl _).alloc _).drew) ⟨wb.heap.size, 0, none⟩ 1 (onev 2 0 none 0 0) (by rfl) (new_call _ _ _ _ _ _ _) (onev_one _ _ _ _ _) (by unfold maxLen; omega) (by omega) (by simp; omega) _ rfl (pushv N (callv (R u) LA LC) 2 0 none 0 0) (fun _ h => pushv_lt h) (fun _ h => pushv_new h) ?_; intro g cap w' hO' hgrow hExt hor hg; have hr2 := (HO.out.1.ext ((Ext.refl _).alloc _).drew).1.grown hgrow hne0; have c3 := hr2.cellAt (j := u) (by omega); have f3 := hr2.frozenAt u))
          all_goals (have hO2 : OwnS wb (w.heap.size + 1 + 1) 76 3 (.slice VA N vc) N (callv (R u) LA LC) := by rw [← HN.out]; exact HO.out.2.1)
          all_goals (obtain ⟨V', R', hR', hl'⟩ := crows_step HO.out.1 hu (by rw [hV, HN.out]) HN.out HT.out.2.2.1 rfl HT.out.2.2.2 hO2 HO.out.2.2 hgrow hO' hor rfl)
          all_goals (have hlens' := lens_step hl' HU.out.2.2 hl40 (by rw [← HN.out]; exact HM.out))
          all_goals (have hEz := (hExt w ((hE.trans HT.out.2.1).alloc (.cells #[.int .i64 2, .int .i64 0, .slice none 0 0] 76)).drew (by omega)).setCell (p := ⟨w.heap.size + 1, u, none⟩) (by simp) (.slice (some ⟨g, 0, none⟩) (N + 1) cap))
          all_goals (have hBz := ((((HB.out.1.ext HT.out.2.1).alloc (.cells #[.int .i64 2, .int .i64 0, .slice none 0 0] 76)).drew).grown hgrow (own_ne (g := w.heap.size) hO2 (by omega))).far (p := ⟨w.heap.size + 1, u, none⟩) (by simp) (.slice (some ⟨g, 0, none⟩) (N + 1) cap))
          all_goals (have hj3 : j + 3 = 3 * (m + 1) := by have := HU.out.2.1; omega)
          all_goals (have HZ := Lib.hid (And.intro hEz (And.intro hBz (And.intro hR' hlens'))))
          all_goals (clear hEz hBz hR' hlens' hl')
          all_goals go_wp2
          all_goals (go_roundg (50 * T - (m + 1)); (case measure => go_light; omega); exact ⟨m + 1, j + 3, V', R', hj3, by omega, rfl, by simp, HZ.out.1, HZ.out.2.1, HZ.out.2.2.1, HZ.out.2.2.2⟩)
        · have s7 : (a0 : Int) % 12 = 8 := by omega
          obtain ⟨v9, hv9⟩ : ∃ v : Nat, a1 % 9 = v := ⟨_, rfl⟩
          have e9 : (a1 : Int) % 9 = (v9 : Int) := by omega
          have b9 : v9 < 9 := by omega
          clear hv9
          have Hs := Lib.hid s7
          go_wp2_with fail
          go_region
          clear c1 d0 d1 d2 e3 q6 q7 q0 q1 q2 q3 q4 q5 e4
          go_wp2_with (go_at_call 33; refine (size_any a1 _ (by omega)).mono ?_; rintro e w1 ⟨⟨z, rfl, hz⟩, hE1⟩; have d0' := fun o => (hE1.alloc o).cell HD.out.1; obtain ⟨p0, p1⟩ := HP.out)
          have hEb : Ext wr (w1.alloc (.cells #[.int .i64 3, .int .i64 (1 + (v9 : Int)), .slice none 0 0] 76)) := (((Ext.refl wr).drew).trans hE1).alloc _
          have hCb := Blk.new w1 76 #[.int .i64 3, .int .i64 (1 + (v9 : Int)), .slice none 0 0] _ rfl
          have hNb : NameS (w1.alloc (.cells #[.int .i64 3, .int .i64 (1 + (v9 : Int)), .slice none 0 0] 76)) (w.heap.size + 1 + 1) none 0 [] := OwnS.nil _ _ _ _ _
          have hmay : MayOk ⟨3, (1 + (v9 : Int)), []⟩ := by unfold MayOk; simp; omega
          clear d0'
          generalize w1.alloc (.cells #[.int .i64 3, .int .i64 (1 + (v9 : Int)), .slice none 0 0] 76) = wb at hEb hCb hNb ⊢
          clear hE1
          generalize w1.heap.size = gC at hCb ⊢
          have HT := Lib.hid (And.intro hCb (And.intro hEb (And.intro hNb hmay)))
          clear hCb hEb hNb hmay
          have hRb := HB.out.2.1.ext HT.out.2.1
          obtain ⟨LA, LC, hO, hLL⟩ := hRb.2.1 u hu
          rw [hV] at hO
          have cO : wb.cell? ⟨w.heap.size + 1, u, none⟩ = some (.slice VA (R u).length vc) := by rw [← hV]; exact hRb.1.cellAt (by omega)
          have HO := Lib.hid (And.intro hRb (And.intro hO hLL))
          clear hRb hO hLL
          have k0 := HT.out.1.cell (i := 0) (v := .int .i64 3) rfl
          have k1 := HT.out.1.cell (i := 1) (v := .int .i64 (1 + (v9 : Int))) rfl
          have k2 := HT.out.1.cell (i := 2) (v := .slice none 0 0) rfl
          have kA0 := fun o => (HT.out.1.alloc o).cell (i := 0) (v := .int .i64 3) rfl
          have kA1 := fun o => (HT.out.1.alloc o).cell (i := 1) (v := .int .i64 (1 + (v9 : Int))) rfl
          have kA2 := fun o => (HT.out.1.alloc o).cell (i := 2) (v := .slice none 0 0) rfl
          have cOA : ∀ o, (wb.alloc o).cell? ⟨w.heap.size + 1, u, none⟩ = some (.slice VA (R u).length vc) := fun o => ((Ext.refl wb).alloc o).cell cO
          obtain ⟨hl40, hlm⟩ := len_lt (HU.out.2.2 u hu).2 HU.out.1 (by omega) hm2
          have HM := Lib.hid hlm
          clear hlm
          obtain ⟨N, hN⟩ : ∃ N, (R u).length = N := ⟨_, rfl⟩
          have hgs : w.heap.size + 1 < wb.heap.size := (World.ownsRow.lt HO.out.1.1 (w.heap.size + 1) rfl).2
          have hne0 : (Value.slice (some ⟨w.heap.size + 1, 0, none⟩) T T).ownBlock = none ∨ (Value.slice (some ⟨w.heap.size + 1, 0, none⟩) T T).ownBlock ≠ (Value.slice VA (R u).length vc).ownBlock := .inr (own_ne (g := w.heap.size + 1) HO.out.2.1 (by omega))
          have HN := Lib.hid hN
          rw [hN] at cO cOA hl40 hne0
          clear hN
          have e4 := HD.out.2.2.2
          go_region_law ((refine step_push (by rfl) _ _ 77 (by rfl) (w.heap.size + 1 + 1) 76 i0 (.agg #[.int .i64 0, .int .i64 0, .slice none 0 0]) 3 40 Try.underlying77 HI.out.1 HI.out.2.1 HI.out.2.2.1 HI.out.2.2.2 (by rfl) (by omega) (.slice VA N vc) N (callv (R u) LA LC) (by rfl) (by rw [← HN.out]; exact HO.out.2.1.ext ((Ext.refl _).alloc _).drew) ⟨wb.heap.size, 0, none⟩ 1 (onev 3 (1 + (v9 : Int)) none 0 0) (by rfl) (new_call _ _ _ _ _ _ _) (onev_one _ _ _ _ _) (by unfold maxLen; omega) (by omega) (by simp; omega) _ rfl (pushv N (callv (R u) LA LC) 3 (1 + (v9 : Int)) none 0 0) (fun _ h => pushv_lt h) (fun _ h => pushv_new h) ?_; intro g cap w' hO' hgrow hExt hor hg; have hr2 := (HO.out.1.ext ((Ext.refl _).alloc _).drew).1.grown hgrow hne0; have c3 := hr2.cellAt (j := u) (by omega); have f3 := hr2.frozenAt u))
          all_goals (have hO2 : OwnS wb (w.heap.size + 1 + 1) 76 3 (.slice VA N vc) N (callv (R u) LA LC) := by rw [← HN.out]; exact HO.out.2.1)
          all_goals (obtain ⟨V', R', hR', hl'⟩ := crows_step HO.out.1 hu (by rw [hV, HN.out]) HN.out HT.out.2.2.1 rfl HT.out.2.2.2 hO2 HO.out.2.2 hgrow hO' hor rfl)
          all_goals (have hlens' := lens_step hl' HU.out.2.2 hl40 (by rw [← HN.out]; exact HM.out))
          all_goals (have hEz := (hExt w ((hE.trans HT.out.2.1).alloc (.cells #[.int .i64 3, .int .i64 (1 + (v9 : Int)), .slice none 0 0] 76)).drew (by omega)).setCell (p := ⟨w.heap.size + 1, u, none⟩) (by simp) (.slice (some ⟨g, 0, none⟩) (N + 1) cap))
          all_goals (have hBz := ((((HB.out.1.ext HT.out.2.1).alloc (.cells #[.int .i64 3, .int .i64 (1 + (v9 : Int)), .slice none 0 0] 76)).drew).grown hgrow (own_ne (g := w.heap.size) hO2 (by omega))).far (p := ⟨w.heap.size + 1, u, none⟩) (by simp) (.slice (some ⟨g, 0, none⟩) (N + 1) cap))
          all_goals (have hj3 : j + 3 = 3 * (m + 1) := by have := HU.out.2.1; omega)
          all_goals (have HZ := Lib.hid (And.intro hEz (And.intro hBz (And.intro hR' hlens'))))
          all_goals (clear hEz hBz hR' hlens' hl')
          all_goals go_wp2
          all_goals (go_roundg (50 * T - (m + 1)); (case measure => go_light; omega); exact ⟨m + 1, j + 3, V', R', hj3, by omega, rfl, by simp, HZ.out.1, HZ.out.2.1, HZ.out.2.2.1, HZ.out.2.2.2⟩)
        · have s7 : True := trivial
          have n7 : decide ((a0 : Int) % 12 = 7) = false := by simp; omega
          have m7 : ((a0 : Int) % 12 == 7) = false := by simp; omega
          have l7 : ¬ (a0 : Int) % 12 = 7 := by omega
          have n8 : decide ((a0 : Int) % 12 = 8) = false := by simp; omega
          have m8 : ((a0 : Int) % 12 == 8) = false := by simp; omega
          have l8 : ¬ (a0 : Int) % 12 = 8 := by omega
          have n9 : decide ((a0 : Int) % 12 = 9) = false := by simp; omega
          have m9 : ((a0 : Int) % 12 == 9) = false := by simp; omega
          have l9 : ¬ (a0 : Int) % 12 = 9 := by omega
          have n10 : decide ((a0 : Int) % 12 = 10) = false := by simp; omega
          have m10 : ((a0 : Int) % 12 == 10) = false := by simp; omega
          have l10 : ¬ (a0 : Int) % 12 = 10 := by omega
          have n11 : decide ((a0 : Int) % 12 = 11) = false := by simp; omega
          have m11 : ((a0 : Int) % 12 == 11) = false := by simp; omega
          have l11 : ¬ (a0 : Int) % 12 = 11 := by omega
          have Hs := Lib.hid s7
          go_wp2_with fail
          go_region
          clear c1 d0 d1 d2 e3 q6 q7 q0 q1 q2 q3 q4 q5 e4
          go_wp2_with (go_at_call 33; refine (size_any a1 _ (by omega)).mono ?_; rintro e w1 ⟨⟨z, rfl, hz⟩, hE1⟩; have d0' := fun o => (hE1.alloc o).cell HD.out.1; obtain ⟨p0, p1⟩ := HP.out)
          have hEb : Ext wr (w1.alloc (.cells #[.int .i64 1, .int .i64 (z : Int), .slice none 0 0] 76)) := (((Ext.refl wr).drew).trans hE1).alloc _
          have hCb := Blk.new w1 76 #[.int .i64 1, .int .i64 (z : Int), .slice none 0 0] _ rfl
          have hNb : NameS (w1.alloc (.cells #[.int .i64 1, .int .i64 (z : Int), .slice none 0 0] 76)) (w.heap.size + 1 + 1) none 0 [] := OwnS.nil _ _ _ _ _
          have hmay : MayOk ⟨1, (z : Int), []⟩ := by unfold MayOk; simp
          clear d0'
          generalize w1.alloc (.cells #[.int .i64 1, .int .i64 (z : Int), .slice none 0 0] 76) = wb at hEb hCb hNb ⊢
          clear hE1
          generalize w1.heap.size = gC at hCb ⊢
          have HT := Lib.hid (And.intro hCb (And.intro hEb (And.intro hNb hmay)))
          clear hCb hEb hNb hmay
          have hRb := HB.out.2.1.ext HT.out.2.1
          obtain ⟨LA, LC, hO, hLL⟩ := hRb.2.1 u hu
          rw [hV] at hO
          have cO : wb.cell? ⟨w.heap.size + 1, u, none⟩ = some (.slice VA (R u).length vc) := by rw [← hV]; exact hRb.1.cellAt (by omega)
          have HO := Lib.hid (And.intro hRb (And.intro hO hLL))
          clear hRb hO hLL
          have k0 := HT.out.1.cell (i := 0) (v := .int .i64 1) rfl
          have k1 := HT.out.1.cell (i := 1) (v := .int .i64 (z : Int)) rfl
          have k2 := HT.out.1.cell (i := 2) (v := .slice none 0 0) rfl
          have kA0 := fun o => (HT.out.1.alloc o).cell (i := 0) (v := .int .i64 1) rfl
          have kA1 := fun o => (HT.out.1.alloc o).cell (i := 1) (v := .int .i64 (z : Int)) rfl
          have kA2 := fun o => (HT.out.1.alloc o).cell (i := 2) (v := .slice none 0 0) rfl
          have cOA : ∀ o, (wb.alloc o).cell? ⟨w.heap.size + 1, u, none⟩ = some (.slice VA (R u).length vc) := fun o => ((Ext.refl wb).alloc o).cell cO
          obtain ⟨hl40, hlm⟩ := len_lt (HU.out.2.2 u hu).2 HU.out.1 (by omega) hm2
          have HM := Lib.hid hlm
          clear hlm
          obtain ⟨N, hN⟩ : ∃ N, (R u).length = N := ⟨_, rfl⟩
          have hgs : w.heap.size + 1 < wb.heap.size := (World.ownsRow.lt HO.out.1.1 (w.heap.size + 1) rfl).2
          have hne0 : (Value.slice (some ⟨w.heap.size + 1, 0, none⟩) T T).ownBlock = none ∨ (Value.slice (some ⟨w.heap.size + 1, 0, none⟩) T T).ownBlock ≠ (Value.slice VA (R u).length vc).ownBlock := .inr (own_ne (g := w.heap.size + 1) HO.out.2.1 (by omega))
          have HN := Lib.hid hN
          rw [hN] at cO cOA hl40 hne0
          clear hN
          have e4 := HD.out.2.2.2
          go_region_law ((refine step_push (by rfl) _ _ 77 (by rfl) (w.heap.size + 1 + 1) 76 i0 (.agg #[.int .i64 0, .int .i64 0, .slice none 0 0]) 3 40 Try.underlying77 HI.out.1 HI.out.2.1 HI.out.2.2.1 HI.out.2.2.2 (by rfl) (by omega) (.slice VA N vc) N (callv (R u) LA LC) (by rfl) (by rw [← HN.out]; exact HO.out.2.1.ext ((Ext.refl _).alloc _).drew) ⟨wb.heap.size, 0, none⟩ 1 (onev 1 (z : Int) none 0 0) (by rfl) (new_call _ _ _ _ _ _ _) (onev_one _ _ _ _ _) (by unfold maxLen; omega) (by omega) (by simp; omega) _ rfl (pushv N (callv (R u) LA LC) 1 (z : Int) none 0 0) (fun _ h => pushv_lt h) (fun _ h => pushv_new h) ?_; intro g cap w' hO' hgrow hExt hor hg; have hr2 := (HO.out.1.ext ((Ext.refl _).alloc _).drew).1.grown hgrow hne0; have c3 := hr2.cellAt (j := u) (by omega); have f3 := hr2.frozenAt u))
          all_goals (have hO2 : OwnS wb (w.heap.size + 1 + 1) 76 3 (.slice VA N vc) N (callv (R u) LA LC) := by rw [← HN.out]; exact HO.out.2.1)
          all_goals (obtain ⟨V', R', hR', hl'⟩ := crows_step HO.out.1 hu (by rw [hV, HN.out]) HN.out HT.out.2.2.1 rfl HT.out.2.2.2 hO2 HO.out.2.2 hgrow hO' hor rfl)
          all_goals (have hlens' := lens_step hl' HU.out.2.2 hl40 (by rw [← HN.out]; exact HM.out))
          all_goals (have hEz := (hExt w ((hE.trans HT.out.2.1).alloc (.cells #[.int .i64 1, .int .i64 (z : Int), .slice none 0 0] 76)).drew (by omega)).setCell (p := ⟨w.heap.size + 1, u, none⟩) (by simp) (.slice (some ⟨g, 0, none⟩) (N + 1) cap))
          all_goals (have hBz := ((((HB.out.1.ext HT.out.2.1).alloc (.cells #[.int .i64 1, .int .i64 (z : Int), .slice none 0 0] 76)).drew).grown hgrow (own_ne (g := w.heap.size) hO2 (by omega))).far (p := ⟨w.heap.size + 1, u, none⟩) (by simp) (.slice (some ⟨g, 0, none⟩) (N + 1) cap))
          all_goals (have hj3 : j + 3 = 3 * (m + 1) := by have := HU.out.2.1; omega)
          all_goals (have HZ := Lib.hid (And.intro hEz (And.intro hBz (And.intro hR' hlens'))))
          all_goals (clear hEz hBz hR' hlens' hl')
          all_goals go_wp2
          all_goals (go_roundg (50 * T - (m + 1)); (case measure => go_light; omega); exact ⟨m + 1, j + 3, V', R', hj3, by omega, rfl, by simp, HZ.out.1, HZ.out.2.1, HZ.out.2.2.1, HZ.out.2.2.2⟩)
        · have s7 : (a0 : Int) % 12 = 11 := by omega
          obtain ⟨v9, hv9⟩ : ∃ v : Nat, a1 % 20 = v := ⟨_, rfl⟩
          have e9 : (a1 : Int) % 20 = (v9 : Int) := by omega
          have b9 : v9 < 20 := by omega
          clear hv9
          have Hs := Lib.hid s7
          go_wp2_with fail
          go_region
          clear c1 d0 d1 d2 e3 q6 q7 q0 q1 q2 q3 q4 q5 e4
          go_wp2_with (go_at_call 33; refine (size_any a1 _ (by omega)).mono ?_; rintro e w1 ⟨⟨z, rfl, hz⟩, hE1⟩; have d0' := fun o => (hE1.alloc o).cell HD.out.1; obtain ⟨p0, p1⟩ := HP.out)
          have hEb : Ext wr (w1.alloc (.cells #[.int .i64 5, .int .i64 (1 + (v9 : Int)), .slice none 0 0] 76)) := (((Ext.refl wr).drew).trans hE1).alloc _
          have hCb := Blk.new w1 76 #[.int .i64 5, .int .i64 (1 + (v9 : Int)), .slice none 0 0] _ rfl
          have hNb : NameS (w1.alloc (.cells #[.int .i64 5, .int .i64 (1 + (v9 : Int)), .slice none 0 0] 76)) (w.heap.size + 1 + 1) none 0 [] := OwnS.nil _ _ _ _ _
          have hmay : MayOk ⟨5, (1 + (v9 : Int)), []⟩ := by unfold MayOk; simp; omega
          clear d0'
          generalize w1.alloc (.cells #[.int .i64 5, .int .i64 (1 + (v9 : Int)), .slice none 0 0] 76) = wb at hEb hCb hNb ⊢
          clear hE1
          generalize w1.heap.size = gC at hCb ⊢
          have HT := Lib.hid (And.intro hCb (And.intro hEb (And.intro hNb hmay)))
          clear hCb hEb hNb hmay
          have hRb := HB.out.2.1.ext HT.out.2.1
          obtain ⟨LA, LC, hO, hLL⟩ := hRb.2.1 u hu
          rw [hV] at hO
          have cO : wb.cell? ⟨w.heap.size + 1, u, none⟩ = some (.slice VA (R u).length vc) := by rw [← hV]; exact hRb.1.cellAt (by omega)
          have HO := Lib.hid (And.intro hRb (And.intro hO hLL))
          clear hRb hO hLL
          have k0 := HT.out.1.cell (i := 0) (v := .int .i64 5) rfl
          have k1 := HT.out.1.cell (i := 1) (v := .int .i64 (1 + (v9 : Int))) rfl
          have k2 := HT.out.1.cell (i := 2) (v := .slice none 0 0) rfl
          have kA0 := fun o => (HT.out.1.alloc o).cell (i := 0) (v := .int .i64 5) rfl
          have kA1 := fun o => (HT.out.1.alloc o).cell (i := 1) (v := .int .i64 (1 + (v9 : Int))) rfl
          have kA2 := fun o => (HT.out.1.alloc o).cell (i := 2) (v := .slice none 0 0) rfl
          have cOA : ∀ o, (wb.alloc o).cell? ⟨w.heap.size + 1, u, none⟩ = some (.slice VA (R u).length vc) := fun o => ((Ext.refl wb).alloc o).cell cO
          obtain ⟨hl40, hlm⟩ := len_lt (HU.out.2.2 u hu).2 HU.out.1 (by omega) hm2
          have HM := Lib.hid hlm
          clear hlm
          obtain ⟨N, hN⟩ : ∃ N, (R u).length = N := ⟨_, rfl⟩
          have hgs : w.heap.size + 1 < wb.heap.size := (World.ownsRow.lt HO.out.1.1 (w.heap.size + 1) rfl).2
          have hne0 : (Value.slice (some ⟨w.heap.size + 1, 0, none⟩) T T).ownBlock = none ∨ (Value.slice (some ⟨w.heap.size + 1, 0, none⟩) T T).ownBlock ≠ (Value.slice VA (R u).length vc).ownBlock := .inr (own_ne (g := w.heap.size + 1) HO.out.2.1 (by omega))
          have HN := Lib.hid hN
          rw [hN] at cO cOA hl40 hne0
          clear hN
          have e4 := HD.out.2.2.2
          go_region_law ((refine step_push (by rfl) _ _ 77 (by rfl) (w.heap.size + 1 + 1) 76 i0 (.agg #[.int .i64 0, .int .i64 0, .slice none 0 0]) 3 40 Try.underlying77 HI.out.1 HI.out.2.1 HI.out.2.2.1 HI.out.2.2.2 (by rfl) (by omega) (.slice VA N vc) N (callv (R u) LA LC) (by rfl) (by rw [← HN.out]; exact HO.out.2.1.ext ((Ext.refl _).alloc _).drew) ⟨wb.heap.size, 0, none⟩ 1 (onev 5 (1 + (v9 : Int)) none 0 0) (by rfl) (new_call _ _ _ _ _ _ _) (onev_one _ _ _ _ _) (by unfold maxLen; omega) (by omega) (by simp; omega) _ rfl (pushv N (callv (R u) LA LC) 5 (1 + (v9 : Int)) none 0 0) (fun _ h => pushv_lt h) (fun _ h => pushv_new h) ?_; intro g cap w' hO' hgrow hExt hor hg; have hr2 := (HO.out.1.ext ((Ext.refl _).alloc _).drew).1.grown hgrow hne0; have c3 := hr2.cellAt (j := u) (by omega); have f3 := hr2.frozenAt u))
          all_goals (have hO2 : OwnS wb (w.heap.size + 1 + 1) 76 3 (.slice VA N vc) N (callv (R u) LA LC) := by rw [← HN.out]; exact HO.out.2.1)
          all_goals (obtain ⟨V', R', hR', hl'⟩ := crows_step HO.out.1 hu (by rw [hV, HN.out]) HN.out HT.out.2.2.1 rfl HT.out.2.2.2 hO2 HO.out.2.2 hgrow hO' hor rfl)
          all_goals (have hlens' := lens_step hl' HU.out.2.2 hl40 (by rw [← HN.out]; exact HM.out))
          all_goals (have hEz := (hExt w ((hE.trans HT.out.2.1).alloc (.cells #[.int .i64 5, .int .i64 (1 + (v9 : Int)), .slice none 0 0] 76)).drew (by omega)).setCell (p := ⟨w.heap.size + 1, u, none⟩) (by simp) (.slice (some ⟨g, 0, none⟩) (N + 1) cap))
          all_goals (have hBz := ((((HB.out.1.ext HT.out.2.1).alloc (.cells #[.int .i64 5, .int .i64 (1 + (v9 : Int)), .slice none 0 0] 76)).drew).grown hgrow (own_ne (g := w.heap.size) hO2 (by omega))).far (p := ⟨w.heap.size + 1, u, none⟩) (by simp) (.slice (some ⟨g, 0, none⟩) (N + 1) cap))
          all_goals (have hj3 : j + 3 = 3 * (m + 1) := by have := HU.out.2.1; omega)
          all_goals (have HZ := Lib.hid (And.intro hEz (And.intro hBz (And.intro hR' hlens'))))
          all_goals (clear hEz hBz hR' hlens' hl')
          all_goals go_wp2
          all_goals (go_roundg (50 * T - (m + 1)); (case measure => go_light; omega); exact ⟨m + 1, j + 3, V', R', hj3, by omega, rfl, by simp, HZ.out.1, HZ.out.2.1, HZ.out.2.2.1, HZ.out.2.2.2⟩)
        · have s7 : (a0 : Int) % 12 = 9 := by omega
          obtain ⟨v2, hv2⟩ : ∃ v : Nat, a1 % 2 = v := ⟨_, rfl⟩
          have e2 : (a1 : Int) % 2 = (v2 : Int) := by omega
          have b2 : v2 < 2 := by omega
          obtain ⟨v5, hv5⟩ : ∃ v : Nat, a1 / 2 % 5 = v := ⟨_, rfl⟩
          have e5 : (a1 : Int) / 2 % 5 = (v5 : Int) := by omega
          have b5 : v5 < 5 := by omega
          obtain ⟨v3, hv3⟩ : ∃ v : Nat, a1 / 10 % 3 = v := ⟨_, rfl⟩
          have e10 : (a1 : Int) / 10 % 3 = (v3 : Int) := by omega
          have b3 : v3 < 3 := by omega
          clear hv2 hv5 hv3
          have Hs := Lib.hid s7
          go_wp2_with fail
          go_region
          clear c1 d0 d1 d2 e3 q6 q7 q0 q1 q2 q3 q4 q5 e4
          go_wp2_with (go_at_call 33; refine (size_any a1 _ (by omega)).mono ?_; rintro e w1 ⟨⟨z, rfl, hz⟩, hE1⟩; have d0' := fun o => (hE1.alloc o).cell HD.out.1; obtain ⟨p0, p1⟩ := HP.out)
          have hEb : Ext wr (w1.alloc (.cells #[.int .i64 4, .int .i64 (v2 : Int), .slice none 0 0] 76)) := (((Ext.refl wr).drew).trans hE1).alloc _
          have hCb := Blk.new w1 76 #[.int .i64 4, .int .i64 (v2 : Int), .slice none 0 0] _ rfl
          have hsz2 : wr.heap.size ≤ w1.heap.size := hE1.size
          have hsz1 : w.heap.size + 2 ≤ w1.heap.size := by have := (World.ownsRow.lt HB.out.2.1.1 (w.heap.size + 1) rfl).2; omega
          clear d0'
          generalize w1.alloc (.cells #[.int .i64 4, .int .i64 (v2 : Int), .slice none 0 0] 76) = wd at hEb hCb ⊢
          clear hE1
          generalize w1.heap.size = gC at hCb hsz1 hsz2 ⊢
          obtain ⟨iI, hi', hz0', hz1', hz2'⟩ := info_parts Try.infoInt
          have HI2 := Lib.hid (And.intro hi' (And.intro hz0' (And.intro hz1' hz2')))
          clear hi' hz0' hz1' hz2'
          clear s7 e2
          go_loopg [11] 8 (fun q i wz => ∃ (t : Nat) (l : List Int) (LAl : Option Addr) (LCl : Nat), t ≤ 8 ∧ q = 8 - t ∧ i = .int .i64 t ∧ l.length ≤ t ∧ Ext wr wz ∧ Blk wz gC 76 #[.int .i64 4, .int .i64 (v2 : Int), .slice LAl l.length LCl] ∧ NameS wz (gC + 1) LAl LCl l ∧ NamesTo l l.length ∧ ∀ i, i < l.length → ix 0 l i < (t : Int) * (1 + (v5 : Int)) + v3)
          case atStart => exact ⟨0, [], none, 0, by omega, rfl, rfl, by simp, hEb, hCb, OwnS.nil _ _ _ _ _, fun j hj => absurd hj (by simp), fun j hj => absurd hj (by simp)⟩
          case round =>
            clear hEb hCb
            obtain ⟨t, l, LAl, LCl, ht, rfl, rfl, hlt2, hEz, hCz, hNz, hNt, hlast⟩ := hrel
            have HNZ := Lib.hid (And.intro hlt2 (And.intro hEz (And.intro hCz (And.intro hNz (And.intro hNt hlast)))))
            have hgC := hCz.lt
            by_cases ht8 : t < 8
            · clear hEz hCz hNz hNt hlast
              have w64 : (t : Int) ≤ 64 := by omega
              have w63 : decide ((t : Int) < 64) = true := by simp; omega
              have hbit := shr_and_one_i64 a2 t x2
              have hmul0 : (0 : Int) ≤ (t : Int) * (1 + (v5 : Int)) := Int.mul_nonneg (by omega) (by omega)
              have hmul1 : (t : Int) * (1 + (v5 : Int)) ≤ 8 * 5 := Int.mul_le_mul (by omega) (by omega) (by omega) (by omega)
              by_cases h1 : a2.testBit t = true
              · rw [h1, if_pos rfl] at hbit
                obtain ⟨sv, hsv⟩ : ∃ sv, Value.slice LAl l.length LCl = sv := ⟨_, rfl⟩
                have c2 : wr.cell? ⟨gC, 2, none⟩ = some sv := by rw [← hsv]; exact HNZ.out.2.2.1.cell rfl
                have hsO : OwnS wr (gC + 1) 3 1 sv l.length (fun j => .int .i64 (ix 0 l j)) := by rw [← hsv]; exact HNZ.out.2.2.2.1
                have HSV := Lib.hid (And.intro hsv hsO)
                clear hsv hsO
                have cA : ∀ o, (wr.alloc o).cell? ⟨gC, 2, none⟩ = some sv := fun o => ((Ext.refl wr).alloc o).cell c2
                go_wp2_with (at_builtin; go_loud (refine wpList_push rfl _ _ 74 rfl (gC + 1) 3 iI (.int .i64 0) 1 8 Try.underlying74 HI2.out.1 HI2.out.2.1 HI2.out.2.2.1 HI2.out.2.2.2 rfl (by decide) sv l.length (fun j => .int .i64 (ix 0 l j)) rfl (HSV.out.2.ext ((Ext.refl _).alloc _)) ⟨wr.heap.size, 0, none⟩ 1 (fun _ => .int .i64 ((t : Int) * (1 + (v5 : Int)) + v3)) rfl (fun j hj => new_one _ _ _ hj) (fun _ _ => rfl) ?b63 ?bby ?bba _ rfl (fun j => .int .i64 (ix 0 (l ++ [(t : Int) * (1 + (v5 : Int)) + v3]) j)) (fun j hj => push_old hj) (fun j hj => push_new hj) ?_); (case b63 => unfold maxLen; omega); (case bby => omega); (case bba => simp; omega); intro g cap w' hO' hgrow hExt hor hg; have hb2 := (HNZ.out.2.2.1.alloc (.cells #[.int .i64 ((t : Int) * (1 + (v5 : Int)) + v3)] 3)).grown hgrow (own_ne HSV.out.2 (by omega)); have c3 := hb2.cell (i := 2) (v := .slice LAl l.length LCl) rfl; have f3 := hb2.frozen 2)
                have hq := names_push (v := (t : Int) * (1 + (v5 : Int)) + v3) HNZ.out.2.2.2.2.1 (by omega) HNZ.out.2.2.2.2.2
                have hq2 := names_last (v := (t : Int) * (1 + (v5 : Int)) + v3) (u := ((t + 1 : Nat) : Int) * (1 + (v5 : Int)) + v3) HNZ.out.2.2.2.2.2 (by rw [Int.natCast_add, Int.add_mul]; omega)
                have hEy := (hExt _ (HNZ.out.2.1.alloc (.cells #[.int .i64 ((t : Int) * (1 + (v5 : Int)) + v3)] 3)) (by omega)).setCell (p := ⟨gC, 2, none⟩) hsz2 (.slice (some ⟨g, 0, none⟩) (l.length + 1) cap)
                have hBy := hb2.set 2 (.slice (some ⟨g, 0, none⟩) (l.length + 1) cap)
                have hNy := hO'.far (p := ⟨gC, 2, none⟩) (by simp) (.slice (some ⟨g, 0, none⟩) (l.length + 1) cap)
                go_roundg (8 - (t + 1))
                case measure => go_light; omega
                exact ⟨t + 1, l ++ [(t : Int) * (1 + (v5 : Int)) + v3], some ⟨g, 0, none⟩, cap, by omega, rfl, by simp, by rw [List.length_append]; simp; omega, hEy, by rw [List.length_append]; exact hBy, by unfold NameS; rw [List.length_append]; exact hNy, by rw [List.length_append]; exact hq, by rw [List.length_append]; exact hq2⟩
              · rw [if_neg h1] at hbit
                go_wp2
                go_roundg (8 - (t + 1))
                case measure => go_light; omega
                exact ⟨t + 1, l, LAl, LCl, by omega, rfl, by simp, by omega, HNZ.out.2.1, HNZ.out.2.2.1, HNZ.out.2.2.2.1, HNZ.out.2.2.2.2.1, fun i hi => by have := HNZ.out.2.2.2.2.2 i hi; rw [Int.natCast_add, Int.add_mul]; omega⟩
            · obtain rfl : t = 8 := by omega
              have s7 := Hs.out
              have hmay : MayOk ⟨4, v2, l⟩ := by unfold MayOk; exact .inl ⟨rfl, (by show (v2 : Int) = 0 ∨ (v2 : Int) = 1; omega), hNt, hlt2⟩
              have hNb : NameS wr (w.heap.size + 1 + 1) LAl LCl l := OwnS.mono hNz (by omega)
              have HT0 := Lib.hid (And.intro hEz (And.intro hCz (And.intro hmay hNb)))
              clear hmay hNb hEz hCz hNz hNt hlast
              go_wp2_with fail
              obtain ⟨hEb, hCb, hmay, hNb⟩ := HT0.out
              have HT := Lib.hid (And.intro hCb (And.intro hEb (And.intro hNb hmay)))
              clear hCb hEb hNb hmay
              have hRb := HB.out.2.1.ext HT.out.2.1
              obtain ⟨LA, LC, hO, hLL⟩ := hRb.2.1 u hu
              rw [hV] at hO
              have cO : wr.cell? ⟨w.heap.size + 1, u, none⟩ = some (.slice VA (R u).length vc) := by rw [← hV]; exact hRb.1.cellAt (by omega)
              have HO := Lib.hid (And.intro hRb (And.intro hO hLL))
              clear hRb hO hLL
              have k0 := HT.out.1.cell (i := 0) (v := .int .i64 4) rfl
              have k1 := HT.out.1.cell (i := 1) (v := .int .i64 (v2 : Int)) rfl
              have k2 := HT.out.1.cell (i := 2) (v := .slice LAl l.length LCl) rfl
              have kA0 := fun o => (HT.out.1.alloc o).cell (i := 0) (v := .int .i64 4) rfl
              have kA1 := fun o => (HT.out.1.alloc o).cell (i := 1) (v := .int .i64 (v2 : Int)) rfl
              have kA2 := fun o => (HT.out.1.alloc o).cell (i := 2) (v := .slice LAl l.length LCl) rfl
              have cOA : ∀ o, (wr.alloc o).cell? ⟨w.heap.size + 1, u, none⟩ = some (.slice VA (R u).length vc) := fun o => ((Ext.refl wr).alloc o).cell cO
              obtain ⟨hl40, hlm⟩ := len_lt (HU.out.2.2 u hu).2 HU.out.1 (by omega) hm2
              have HM := Lib.hid hlm
              clear hlm
              obtain ⟨N, hN⟩ : ∃ N, (R u).length = N := ⟨_, rfl⟩
              have hgs : w.heap.size + 1 < wr.heap.size := (World.ownsRow.lt HO.out.1.1 (w.heap.size + 1) rfl).2
              have hne0 : (Value.slice (some ⟨w.heap.size + 1, 0, none⟩) T T).ownBlock = none ∨ (Value.slice (some ⟨w.heap.size + 1, 0, none⟩) T T).ownBlock ≠ (Value.slice VA (R u).length vc).ownBlock := .inr (own_ne (g := w.heap.size + 1) HO.out.2.1 (by omega))
              have HN := Lib.hid hN
              rw [hN] at cO cOA hl40 hne0
              clear hN
              have e4 := HD.out.2.2.2
              go_region_law ((refine step_push (by rfl) _ _ 77 (by rfl) (w.heap.size + 1 + 1) 76 i0 (.agg #[.int .i64 0, .int .i64 0, .slice none 0 0]) 3 40 Try.underlying77 HI.out.1 HI.out.2.1 HI.out.2.2.1 HI.out.2.2.2 (by rfl) (by omega) (.slice VA N vc) N (callv (R u) LA LC) (by rfl) (by rw [← HN.out]; exact HO.out.2.1.ext ((Ext.refl _).alloc _).drew) ⟨wr.heap.size, 0, none⟩ 1 (onev 4 (v2 : Int) LAl l.length LCl) (by rfl) (new_call _ _ _ _ _ _ _) (onev_one _ _ _ _ _) (by unfold maxLen; omega) (by omega) (by simp; omega) _ rfl (pushv N (callv (R u) LA LC) 4 (v2 : Int) LAl l.length LCl) (fun _ h => pushv_lt h) (fun _ h => pushv_new h) ?_; intro g cap w' hO' hgrow hExt hor hg; have hr2 := (HO.out.1.ext ((Ext.refl _).alloc _).drew).1.grown hgrow hne0; have c3 := hr2.cellAt (j := u) (by omega); have f3 := hr2.frozenAt u))
              all_goals (have hO2 : OwnS wr (w.heap.size + 1 + 1) 76 3 (.slice VA N vc) N (callv (R u) LA LC) := by rw [← HN.out]; exact HO.out.2.1)
              all_goals (obtain ⟨V', R', hR', hl'⟩ := crows_step HO.out.1 hu (by rw [hV, HN.out]) HN.out HT.out.2.2.1 rfl HT.out.2.2.2 hO2 HO.out.2.2 hgrow hO' hor rfl)
              all_goals (have hlens' := lens_step hl' HU.out.2.2 hl40 (by rw [← HN.out]; exact HM.out))
              all_goals (have hEz := (hExt w ((hE.trans HT.out.2.1).alloc (.cells #[.int .i64 4, .int .i64 (v2 : Int), .slice LAl l.length LCl] 76)).drew (by omega)).setCell (p := ⟨w.heap.size + 1, u, none⟩) (by simp) (.slice (some ⟨g, 0, none⟩) (N + 1) cap))
              all_goals (have hBz := ((((HB.out.1.ext HT.out.2.1).alloc (.cells #[.int .i64 4, .int .i64 (v2 : Int), .slice LAl l.length LCl] 76)).drew).grown hgrow (own_ne (g := w.heap.size) hO2 (by omega))).far (p := ⟨w.heap.size + 1, u, none⟩) (by simp) (.slice (some ⟨g, 0, none⟩) (N + 1) cap))
              all_goals (have hj3 : j + 3 = 3 * (m + 1) := by have := HU.out.2.1; omega)
              all_goals (have HZ := Lib.hid (And.intro hEz (And.intro hBz (And.intro hR' hlens'))))
              all_goals (clear hEz hBz hR' hlens' hl')
              all_goals go_wp2
              all_goals (go_roundg (50 * T - (m + 1)); (case measure => go_light; omega); exact ⟨m + 1, j + 3, V', R', hj3, by omega, rfl, by simp, HZ.out.1, HZ.out.2.1, HZ.out.2.2.1, HZ.out.2.2.2⟩)
        · have s7 : (a0 : Int) % 12 = 10 := by omega
          obtain ⟨v2, hv2⟩ : ∃ v : Nat, a1 % 2 = v := ⟨_, rfl⟩
          have e2 : (a1 : Int) % 2 = (v2 : Int) := by omega
          have b2 : v2 < 2 := by omega
          obtain ⟨v5, hv5⟩ : ∃ v : Nat, a1 / 2 % 5 = v := ⟨_, rfl⟩
          have e5 : (a1 : Int) / 2 % 5 = (v5 : Int) := by omega
          have b5 : v5 < 5 := by omega
          obtain ⟨v3, hv3⟩ : ∃ v : Nat, a1 / 10 % 3 = v := ⟨_, rfl⟩
          have e10 : (a1 : Int) / 10 % 3 = (v3 : Int) := by omega
          have b3 : v3 < 3 := by omega
          clear hv2 hv5 hv3
          have Hs := Lib.hid s7
          go_wp2_with fail
          go_region
          clear c1 d0 d1 d2 e3 q6 q7 q0 q1 q2 q3 q4 q5 e4
          go_wp2_with (go_at_call 33; refine (size_any a1 _ (by omega)).mono ?_; rintro e w1 ⟨⟨z, rfl, hz⟩, hE1⟩; have d0' := fun o => (hE1.alloc o).cell HD.out.1; obtain ⟨p0, p1⟩ := HP.out)
          have hEb : Ext wr (w1.alloc (.cells #[.int .i64 4, .int .i64 (v2 : Int), .slice none 0 0] 76)) := (((Ext.refl wr).drew).trans hE1).alloc _
          have hCb := Blk.new w1 76 #[.int .i64 4, .int .i64 (v2 : Int), .slice none 0 0] _ rfl
          have hsz2 : wr.heap.size ≤ w1.heap.size := hE1.size
          have hsz1 : w.heap.size + 2 ≤ w1.heap.size := by have := (World.ownsRow.lt HB.out.2.1.1 (w.heap.size + 1) rfl).2; omega
          clear d0'
          generalize w1.alloc (.cells #[.int .i64 4, .int .i64 (v2 : Int), .slice none 0 0] 76) = wd at hEb hCb ⊢
          clear hE1
          generalize w1.heap.size = gC at hCb hsz1 hsz2 ⊢
          obtain ⟨iI, hi', hz0', hz1', hz2'⟩ := info_parts Try.infoInt
          have HI2 := Lib.hid (And.intro hi' (And.intro hz0' (And.intro hz1' hz2')))
          clear hi' hz0' hz1' hz2'
          clear s7 e2
          go_loopg [11] 8 (fun q i wz => ∃ (t : Nat) (l : List Int) (LAl : Option Addr) (LCl : Nat), t ≤ 8 ∧ q = 8 - t ∧ i = .int .i64 t ∧ l.length ≤ t ∧ Ext wr wz ∧ Blk wz gC 76 #[.int .i64 4, .int .i64 (v2 : Int), .slice LAl l.length LCl] ∧ NameS wz (gC + 1) LAl LCl l ∧ NamesTo l l.length ∧ ∀ i, i < l.length → ix 0 l i < (t : Int) * (1 + (v5 : Int)) + v3)
          case atStart => exact ⟨0, [], none, 0, by omega, rfl, rfl, by simp, hEb, hCb, OwnS.nil _ _ _ _ _, fun j hj => absurd hj (by simp), fun j hj => absurd hj (by simp)⟩
          case round =>
            clear hEb hCb
            obtain ⟨t, l, LAl, LCl, ht, rfl, rfl, hlt2, hEz, hCz, hNz, hNt, hlast⟩ := hrel
            have HNZ := Lib.hid (And.intro hlt2 (And.intro hEz (And.intro hCz (And.intro hNz (And.intro hNt hlast)))))
            have hgC := hCz.lt
            by_cases ht8 : t < 8
            · clear hEz hCz hNz hNt hlast
              have w64 : (t : Int) ≤ 64 := by omega
              have w63 : decide ((t : Int) < 64) = true := by simp; omega
              have hbit := shr_and_one_i64 a2 t x2
              have hmul0 : (0 : Int) ≤ (t : Int) * (1 + (v5 : Int)) := Int.mul_nonneg (by omega) (by omega)
              have hmul1 : (t : Int) * (1 + (v5 : Int)) ≤ 8 * 5 := Int.mul_le_mul (by omega) (by omega) (by omega) (by omega)
              by_cases h1 : a2.testBit t = true
              · rw [h1, if_pos rfl] at hbit
                obtain ⟨sv, hsv⟩ : ∃ sv, Value.slice LAl l.length LCl = sv := ⟨_, rfl⟩
                have c2 : wr.cell? ⟨gC, 2, none⟩ = some sv := by rw [← hsv]; exact HNZ.out.2.2.1.cell rfl
                have hsO : OwnS wr (gC + 1) 3 1 sv l.length (fun j => .int .i64 (ix 0 l j)) := by rw [← hsv]; exact HNZ.out.2.2.2.1
                have HSV := Lib.hid (And.intro hsv hsO)
                clear hsv hsO
                have cA : ∀ o, (wr.alloc o).cell? ⟨gC, 2, none⟩ = some sv := fun o => ((Ext.refl wr).alloc o).cell c2
                go_wp2_with (at_builtin; go_loud (refine wpList_push rfl _ _ 74 rfl (gC + 1) 3 iI (.int .i64 0) 1 8 Try.underlying74 HI2.out.1 HI2.out.2.1 HI2.out.2.2.1 HI2.out.2.2.2 rfl (by decide) sv l.length (fun j => .int .i64 (ix 0 l j)) rfl (HSV.out.2.ext ((Ext.refl _).alloc _)) ⟨wr.heap.size, 0, none⟩ 1 (fun _ => .int .i64 ((t : Int) * (1 + (v5 : Int)) + v3)) rfl (fun j hj => new_one _ _ _ hj) (fun _ _ => rfl) ?b63 ?bby ?bba _ rfl (fun j => .int .i64 (ix 0 (l ++ [(t : Int) * (1 + (v5 : Int)) + v3]) j)) (fun j hj => push_old hj) (fun j hj => push_new hj) ?_); (case b63 => unfold maxLen; omega); (case bby => omega); (case bba => simp; omega); intro g cap w' hO' hgrow hExt hor hg; have hb2 := (HNZ.out.2.2.1.alloc (.cells #[.int .i64 ((t : Int) * (1 + (v5 : Int)) + v3)] 3)).grown hgrow (own_ne HSV.out.2 (by omega)); have c3 := hb2.cell (i := 2) (v := .slice LAl l.length LCl) rfl; have f3 := hb2.frozen 2)
                have hq := names_push (v := (t : Int) * (1 + (v5 : Int)) + v3) HNZ.out.2.2.2.2.1 (by omega) HNZ.out.2.2.2.2.2
                have hq2 := names_last (v := (t : Int) * (1 + (v5 : Int)) + v3) (u := ((t + 1 : Nat) : Int) * (1 + (v5 : Int)) + v3) HNZ.out.2.2.2.2.2 (by rw [Int.natCast_add, Int.add_mul]; omega)
                have hEy := (hExt _ (HNZ.out.2.1.alloc (.cells #[.int .i64 ((t : Int) * (1 + (v5 : Int)) + v3)] 3)) (by omega)).setCell (p := ⟨gC, 2, none⟩) hsz2 (.slice (some ⟨g, 0, none⟩) (l.length + 1) cap)
                have hBy := hb2.set 2 (.slice (some ⟨g, 0, none⟩) (l.length + 1) cap)
                have hNy := hO'.far (p := ⟨gC, 2, none⟩) (by simp) (.slice (some ⟨g, 0, none⟩) (l.length + 1) cap)
                go_roundg (8 - (t + 1))
                case measure => go_light; omega
                exact ⟨t + 1, l ++ [(t : Int) * (1 + (v5 : Int)) + v3], some ⟨g, 0, none⟩, cap, by omega, rfl, by simp, by rw [List.length_append]; simp; omega, hEy, by rw [List.length_append]; exact hBy, by unfold NameS; rw [List.length_append]; exact hNy, by rw [List.length_append]; exact hq, by rw [List.length_append]; exact hq2⟩
              · rw [if_neg h1] at hbit
                go_wp2
                go_roundg (8 - (t + 1))
                case measure => go_light; omega
                exact ⟨t + 1, l, LAl, LCl, by omega, rfl, by simp, by omega, HNZ.out.2.1, HNZ.out.2.2.1, HNZ.out.2.2.2.1, HNZ.out.2.2.2.2.1, fun i hi => by have := HNZ.out.2.2.2.2.2 i hi; rw [Int.natCast_add, Int.add_mul]; omega⟩
            · obtain rfl : t = 8 := by omega
              have s7 := Hs.out
              have hmay : MayOk ⟨4, v2, l⟩ := by unfold MayOk; exact .inl ⟨rfl, (by show (v2 : Int) = 0 ∨ (v2 : Int) = 1; omega), hNt, hlt2⟩
              have hNb : NameS wr (w.heap.size + 1 + 1) LAl LCl l := OwnS.mono hNz (by omega)
              have HT0 := Lib.hid (And.intro hEz (And.intro hCz (And.intro hmay hNb)))
              clear hmay hNb hEz hCz hNz hNt hlast
              go_wp2_with fail
              obtain ⟨hEb, hCb, hmay, hNb⟩ := HT0.out
              have HT := Lib.hid (And.intro hCb (And.intro hEb (And.intro hNb hmay)))
              clear hCb hEb hNb hmay
              have hRb := HB.out.2.1.ext HT.out.2.1
              obtain ⟨LA, LC, hO, hLL⟩ := hRb.2.1 u hu
              rw [hV] at hO
              have cO : wr.cell? ⟨w.heap.size + 1, u, none⟩ = some (.slice VA (R u).length vc) := by rw [← hV]; exact hRb.1.cellAt (by omega)
              have HO := Lib.hid (And.intro hRb (And.intro hO hLL))
              clear hRb hO hLL
              have k0 := HT.out.1.cell (i := 0) (v := .int .i64 4) rfl
              have k1 := HT.out.1.cell (i := 1) (v := .int .i64 (v2 : Int)) rfl
              have k2 := HT.out.1.cell (i := 2) (v := .slice LAl l.length LCl) rfl
              have kA0 := fun o => (HT.out.1.alloc o).cell (i := 0) (v := .int .i64 4) rfl
              have kA1 := fun o => (HT.out.1.alloc o).cell (i := 1) (v := .int .i64 (v2 : Int)) rfl
              have kA2 := fun o => (HT.out.1.alloc o).cell (i := 2) (v := .slice LAl l.length LCl) rfl
              have cOA : ∀ o, (wr.alloc o).cell? ⟨w.heap.size + 1, u, none⟩ = some (.slice VA (R u).length vc) := fun o => ((Ext.refl wr).alloc o).cell cO
              obtain ⟨hl40, hlm⟩ := len_lt (HU.out.2.2 u hu).2 HU.out.1 (by omega) hm2
              have HM := Lib.hid hlm
              clear hlm
              obtain ⟨N, hN⟩ : ∃ N, (R u).length = N := ⟨_, rfl⟩
              have hgs : w.heap.size + 1 < wr.heap.size := (World.ownsRow.lt HO.out.1.1 (w.heap.size + 1) rfl).2
              have hne0 : (Value.slice (some ⟨w.heap.size + 1, 0, none⟩) T T).ownBlock = none ∨ (Value.slice (some ⟨w.heap.size + 1, 0, none⟩) T T).ownBlock ≠ (Value.slice VA (R u).length vc).ownBlock := .inr (own_ne (g := w.heap.size + 1) HO.out.2.1 (by omega))
              have HN := Lib.hid hN
              rw [hN] at cO cOA hl40 hne0
              clear hN
              have e4 := HD.out.2.2.2
              go_region_law ((refine step_push (by rfl) _ _ 77 (by rfl) (w.heap.size + 1 + 1) 76 i0 (.agg #[.int .i64 0, .int .i64 0, .slice none 0 0]) 3 40 Try.underlying77 HI.out.1 HI.out.2.1 HI.out.2.2.1 HI.out.2.2.2 (by rfl) (by omega) (.slice VA N vc) N (callv (R u) LA LC) (by rfl) (by rw [← HN.out]; exact HO.out.2.1.ext ((Ext.refl _).alloc _).drew) ⟨wr.heap.size, 0, none⟩ 1 (onev 4 (v2 : Int) LAl l.length LCl) (by rfl) (new_call _ _ _ _ _ _ _) (onev_one _ _ _ _ _) (by unfold maxLen; omega) (by omega) (by simp; omega) _ rfl (pushv N (callv (R u) LA LC) 4 (v2 : Int) LAl l.length LCl) (fun _ h => pushv_lt h) (fun _ h => pushv_new h) ?_; intro g cap w' hO' hgrow hExt hor hg; have hr2 := (HO.out.1.ext ((Ext.refl _).alloc _).drew).1.grown hgrow hne0; have c3 := hr2.cellAt (j := u) (by omega); have f3 := hr2.frozenAt u))
              all_goals (have hO2 : OwnS wr (w.heap.size + 1 + 1) 76 3 (.slice VA N vc) N (callv (R u) LA LC) := by rw [← HN.out]; exact HO.out.2.1)
              all_goals (obtain ⟨V', R', hR', hl'⟩ := crows_step HO.out.1 hu (by rw [hV, HN.out]) HN.out HT.out.2.2.1 rfl HT.out.2.2.2 hO2 HO.out.2.2 hgrow hO' hor rfl)
              all_goals (have hlens' := lens_step hl' HU.out.2.2 hl40 (by rw [← HN.out]; exact HM.out))
              all_goals (have hEz := (hExt w ((hE.trans HT.out.2.1).alloc (.cells #[.int .i64 4, .int .i64 (v2 : Int), .slice LAl l.length LCl] 76)).drew (by omega)).setCell (p := ⟨w.heap.size + 1, u, none⟩) (by simp) (.slice (some ⟨g, 0, none⟩) (N + 1) cap))
              all_goals (have hBz := ((((HB.out.1.ext HT.out.2.1).alloc (.cells #[.int .i64 4, .int .i64 (v2 : Int), .slice LAl l.length LCl] 76)).drew).grown hgrow (own_ne (g := w.heap.size) hO2 (by omega))).far (p := ⟨w.heap.size + 1, u, none⟩) (by simp) (.slice (some ⟨g, 0, none⟩) (N + 1) cap))
              all_goals (have hj3 : j + 3 = 3 * (m + 1) := by have := HU.out.2.1; omega)
              all_goals (have HZ := Lib.hid (And.intro hEz (And.intro hBz (And.intro hR' hlens'))))
              all_goals (clear hEz hBz hR' hlens' hl')
              all_goals go_wp2
              all_goals (go_roundg (50 * T - (m + 1)); (case measure => go_light; omega); exact ⟨m + 1, j + 3, V', R', hj3, by omega, rfl, by simp, HZ.out.1, HZ.out.2.1, HZ.out.2.2.1, HZ.out.2.2.2⟩)
      · have c3 : ¬ j < 120 * T := by omega
        have q7 : decide ((j : Int) < 120 * (T : Int)) = false := by simp; omega
        clear hB hR ej
        go_wp2
        go_ret
        exact ⟨⟨_, R, rfl, HB.out.2.1.callss (fun u hu => by have := (HB.out.2.2 u hu).1; unfold maxLen; omega), fun u hu => ⟨(HB.out.2.2 u hu).1, HB.out.2.1.mays hu⟩⟩, hE⟩
    · have q7 : decide ((j : Int) + 2 < (xs.length : Int)) = false := by simp; omega
      have hj : j ≤ 720 := by omega
      clear hB hR ej
      go_wp2
      go_ret
      exact ⟨⟨_, R, rfl, HB.out.2.1.callss (fun u hu => by have := (HB.out.2.2 u hu).1; unfold maxLen; omega), fun u hu => ⟨(HB.out.2.2 u hu).1, HB.out.2.1.mays hu⟩⟩, hE⟩
end Go.Proofs.Ytmpiodlkhjjbfaa
