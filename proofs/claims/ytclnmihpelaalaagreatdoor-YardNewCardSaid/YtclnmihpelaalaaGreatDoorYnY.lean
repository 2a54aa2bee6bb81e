/- Walks: yard.New: a yard of any setup and calls that may be. -/
import Derived.Test.YtclnmihpelaalaaGreatDoorYnA
import Derived.Test.YtclnmihpelaalaaGreatDoorScript2
namespace Go.Proofs.YtclnmihpelaalaaGreatDoor
open Go.RowKit Go.IntWalk
set_option linter.unusedVariables false
set_option linter.unusedSimpArgs false

theorem Tryz.infoIntY : (Tryz.prog.info? 3).map (fun i => (i.zero, i.size, i.bytes)) = some (some (.int .i64 0), 1, 8) := by kernel_rfl
theorem Tryz.infoCallY : (Tryz.prog.info? 44).map (fun i => (i.zero, i.size, i.bytes)) = some (some (.agg #[.int .i64 0, .int .i64 0, .slice none 0 0]), 3, 40) := by kernel_rfl
theorem Tryz.infoThreadP : (Tryz.prog.info? 54).map (fun i => (i.zero, i.size, i.bytes)) = some (some (.pointer none), 1, 8) := by kernel_rfl

set_option maxHeartbeats 2000000 in
set_option maxRecDepth 100000 in
theorem cloneI_any (A : Option Addr) (n c : Nat) (l : Nat → Int) (w : World) (hn : n ≤ 100) (hd : SlR w A n 1 (fun j => .int .i64 (l j))) :
    Calls Tryz.prog 15 #[.slice A n c] w fun e w' => ∃ A' c', e = .returned (.slice A' n c') ∧ Ext w w' := by
  obtain ⟨i0, hi, hz0, hz1, hz2⟩ := info_parts Tryz.infoIntY
  have q22 : ∀ (w : World) (a : Option Addr) (n c n' c' : Nat), (binOp .eql 42 (.slice a n c) (.slice none n' c')).run Tryz.prog w = .ok (.bool a.isNone) w := fun w a n c n' c' => Lib.run_eql_slice_nil w _ _ a n c n' c' Tryz.underlying42
  have HD := Lib.hid hd
  clear hd
  cases A with
  | none =>
    obtain rfl : n = 0 := by
      rcases Nat.eq_zero_or_pos n with h | h
      · exact h
      · obtain ⟨b, off, hA, _⟩ := HD.out h
        cases hA
    go_enter Tryz.func15, Tryz.ntmps15
    go_wp2
    go_ret
    exact ⟨_, _, rfl, Ext.refl _⟩
  | some a =>
    go_enter Tryz.func15, Tryz.ntmps15
    go_wp2_with (at_builtin; refine wpList_pushAll rfl _ _ 42 rfl w.heap.size 3 i0 (.int .i64 0) 1 8 Tryz.underlying42 hi hz0 hz1 hz2 rfl (by decide) _ 0 (fun _ => undef) rfl (OwnS.lit0 w _ 1 _) (some a) n c (fun j => .int .i64 (l j)) rfl ?qc1 (fun _ _ => rfl) ?qc4 ?qc5 ?qc6 (fun j => .int .i64 (l j)) (fun j hj => absurd hj (by omega)) (fun j hj => by rw [Nat.zero_mul, Nat.zero_add]) n (Nat.zero_add _) ?_)
    case qc1 => exact SlR.ext HD.out ((Ext.refl _).alloc _)
    case qc4 => unfold maxLen; omega
    case qc5 => omega
    case qc6 => simp
    intro A' c' w1 hown hgrow hE hor
    go_wp2
    go_ret
    exact ⟨_, _, rfl, hE w ((Ext.refl _).alloc _) (Nat.le_refl _)⟩

theorem own_ne_blk {w : World} {base : Nat} {e : TypeId} {size : Nat} {v : Value} {n : Nat} {F : Nat → Value} {g : Nat} {t : TypeId} {cs : Array Value} (h : OwnS w base e size v n F) (hb : Blk w g t cs) (he : e ≠ t) : some g ≠ v.ownBlock := by
  intro e1
  rcases h.2 with ⟨rfl, _⟩ | ⟨g', cap, cur, rfl, hg, hh, r⟩
  · cases e1
  · simp only [Value.ownBlock, Option.some.injEq] at e1
    subst e1
    unfold Blk at hb
    rw [hb] at hh
    injection hh with hh
    injection hh with h1 h2 h3
    exact he h2.symm

/-- A thread that has n calls, and is ahead of the first. -/
def ThrR (w : World) (g n : Nat) : Prop := ∃ cs A c, Blk w g 63 cs ∧ cs[0]? = some (.slice A n c) ∧ cs[1]? = some (.int .i64 0)
theorem ThrR.ext {w w' : World} {g n : Nat} (h : ThrR w g n) (hE : Ext w w') : ThrR w' g n := by
  obtain ⟨cs, A, c, h1, h2⟩ := h
  exact ⟨cs, A, c, h1.ext hE, h2⟩
theorem ThrR.far {w : World} {g n : Nat} (h : ThrR w g n) {p : Addr} (hp : g ≠ p.block) (u : Value) : ThrR (w.setCell p u) g n := by
  obtain ⟨cs, A, c, h1, h2⟩ := h
  exact ⟨cs, A, c, h1.far hp u, h2⟩
theorem ThrR.grown {w w' : World} {g n base : Nat} {e : TypeId} {size : Nat} {v : Value} {m : Nat} {F : Nat → Value} (h : ThrR w g n) (hO : OwnS w base e size v m F) (he : e ≠ 63) (hg : w.grownBy w' v.ownBlock) : ThrR w' g n := by
  obtain ⟨cs, A, c, h1, h2⟩ := h
  exact ⟨cs, A, c, h1.grown hg (own_ne_blk hO h1 he), h2⟩

/-- The yard's threads: k of them, in rows of their own, behind base. -/
def ThrsR (w : World) (base : Nat) (v : Value) (k : Nat) (css : List (List CallD)) (G : Nat → Nat) : Prop :=
  OwnS w base 54 1 v k (fun j => .pointer (some ⟨G j, 0, none⟩)) ∧ ∀ j, j < k → ThrR w (G j) (ix [] css j).length ∧ base ≤ G j
/-- The yard's block. -/
def yardC (ga : Nat) (v : Value) (n P : Int) : Array Value := #[.pointer (some ⟨ga, 0, none⟩), v, .int .i64 n, .int .i64 P, .slice none 0 0, .slice none 0 0, .slice none 0 0, .slice none 0 0]
def YardR (w : World) (base gy ga : Nat) (v : Value) (n P : Int) (k : Nat) (css : List (List CallD)) (G : Nat → Nat) : Prop :=
  Blk w gy 53 (yardC ga v n P) ∧ base ≤ gy ∧ ThrsR w base v k css G
theorem YardR.ext {w w' : World} {base gy ga : Nat} {v : Value} {n P : Int} {k : Nat} {css : List (List CallD)} {G : Nat → Nat} (h : YardR w base gy ga v n P k css G) (hE : Ext w w') : YardR w' base gy ga v n P k css G :=
  ⟨h.1.ext hE, h.2.1, h.2.2.1.ext hE, fun j hj => ⟨(h.2.2.2 j hj).1.ext hE, (h.2.2.2 j hj).2⟩⟩
/-- A row of calls grows. -/
theorem YardR.grown {w w' : World} {base gy ga : Nat} {v : Value} {n P : Int} {k : Nat} {css : List (List CallD)} {G : Nat → Nat} {b s m : Nat} {u : Value} {F : Nat → Value} (h : YardR w base gy ga v n P k css G) (hO : OwnS w b 44 s u m F) (hg : w.grownBy w' u.ownBlock) : YardR w' base gy ga v n P k css G :=
  ⟨h.1.grown hg (own_ne_blk hO h.1 (by decide)), h.2.1, h.2.2.1.grown hg (own_types h.2.2.1 hO (by decide)), fun j hj => ⟨(h.2.2.2 j hj).1.grown hO (by decide) hg, (h.2.2.2 j hj).2⟩⟩
/-- Another block is turned. -/
theorem YardR.far {w : World} {base gy ga : Nat} {v : Value} {n P : Int} {k : Nat} {css : List (List CallD)} {G : Nat → Nat} (h : YardR w base gy ga v n P k css G) {p : Addr} (h1 : gy ≠ p.block) (h2 : v.ownBlock ≠ some p.block) (h3 : ∀ j, j < k → G j ≠ p.block) (u : Value) : YardR (w.setCell p u) base gy ga v n P k css G :=
  ⟨h.1.far h1 u, h.2.1, h.2.2.1.setOther h2 u, fun j hj => ⟨(h.2.2.2 j hj).1.far (h3 j hj) u, (h.2.2.2 j hj).2⟩⟩
theorem blk_ne {w : World} {a b : Nat} {t t' : TypeId} {cs cs' : Array Value} (h1 : Blk w a t cs) (h2 : Blk w b t' cs') (ht : t ≠ t') : a ≠ b := by
  rintro rfl
  unfold Blk at h1 h2
  rw [h1] at h2
  injection h2 with h2
  injection h2 with h3 h4 h5
  exact ht h4
/-- One thread more. -/
theorem YardR.pushed {w w' : World} {base gy ga : Nat} {v S : Value} {n P : Int} {k g : Nat} {css : List (List CallD)} {G : Nat → Nat} (h : YardR w base gy ga v n P k css G) (hT : ThrR w g (ix [] css k).length) (hg : base ≤ g) (hgrow : w.grownBy w' v.ownBlock)
    (hO : OwnS w' base 54 1 S (k + 1) (fun j => .pointer (some ⟨if j < k then G j else g, 0, none⟩))) : YardR (w'.setCell ⟨gy, 1, none⟩ S) base gy ga S n P (k + 1) css (fun j => if j < k then G j else g) := by
  have hB := h.1.grown hgrow (own_ne_blk h.2.2.1 h.1 (by decide))
  refine ⟨by have := hB.set 1 S; exact this, h.2.1, hO.setOther (fun e => own_ne_blk hO hB (by decide) e.symm) _, fun j hj => ?_⟩
  have key : ∀ {x m}, ThrR w x m → ThrR (w'.setCell ⟨gy, 1, none⟩ S) x m := by
    intro x m hx
    have h2 := hx.grown h.2.2.1 (by decide) hgrow
    refine h2.far ?_ S
    obtain ⟨cs, A, c, h3, _⟩ := h2
    exact blk_ne h3 hB (by decide)
  by_cases e : j < k
  · dsimp only
    rw [if_pos e]
    exact ⟨key (h.2.2.2 j e).1, (h.2.2.2 j e).2⟩
  · dsimp only
    rw [if_neg e]
    obtain rfl : j = k := by omega
    exact ⟨key hT, hg⟩
theorem thrs_lt {k : Nat} {G : Nat → Nat} {g j : Nat} (h : j < k * 1) : Value.pointer (some ⟨if j < k then G j else g, 0, none⟩) = .pointer (some ⟨G j, 0, none⟩) := by
  rw [if_pos (by omega)]
theorem thrs_new {k : Nat} {G : Nat → Nat} {g j : Nat} (h : j < 1) : Value.pointer (some ⟨if k * 1 + j < k then G (k * 1 + j) else g, 0, none⟩) = .pointer (some ⟨g, 0, none⟩) := by
  rw [if_neg (by omega)]
theorem new_oneY (w : World) (t : TypeId) (v : Value) : ∀ j, j < 1 → (w.alloc (.cells #[v] t)).cell? ((⟨w.heap.size, 0, none⟩ : Addr).add j) = some v := by
  intro j hj
  obtain rfl : j = 0 := by omega
  exact cell_new w _ t 0 _ rfl

/-- The arena of which pointer ga tells: its words begin so. -/
def ArenaR (w : World) (ga : Nat) : Prop := ∃ gs gw n, w.cell? ⟨ga, 2, none⟩ = some (.pointer (some ⟨gs, 0, none⟩)) ∧ w.cell? ⟨gs, 0, none⟩ = some (.slice (some ⟨gw, 0, none⟩) n n) ∧ w.cell? ⟨gw, 0, none⟩ = some (.int .u64 1) ∧ 77 ≤ n
theorem ArenaR.ext {w w' : World} {ga : Nat} (h : ArenaR w ga) (hE : Ext w w') : ArenaR w' ga := by
  obtain ⟨gs, gw, n, h1, h2, h3, h4⟩ := h
  exact ⟨gs, gw, n, hE.cell h1, hE.cell h2, hE.cell h3, h4⟩

theorem right_ok {p t : Int} {css : List (List CallD)} (h : rightC p t css = 0) : LayMay p t ∧ (css.length : Int) = t ∧ ∀ i, i < css.length → (ix [] css i).length ≤ 40 ∧ ∀ j, j < (ix [] css i).length → (ix noCall (ix [] css i) j).l.length ≤ 8 := by
  unfold rightC at h
  split at h
  · rename_i h1
    split at h
    · cases h
    · rename_i h2
      have h2 : ¬ ((css.length : Int) ≠ t ∨ ∃ i, i < css.length ∧ BadCalls (ix [] css i)) := fun hh => h2 (B_yes hh)
      refine ⟨B_iff.1 h1, ?_, fun i hi => ?_⟩
      · rcases Classical.em ((css.length : Int) = t) with h3 | h3
        · exact h3
        · exact absurd (.inl h3) h2
      · have h3 : ¬ BadCalls (ix [] css i) := fun hh => h2 (.inr ⟨i, hi, hh⟩)
        unfold BadCalls at h3
        refine ⟨by omega, fun j hj => ?_⟩
        have h4 : MayOk (ix noCall (ix [] css i) j) := by
          rcases Classical.em (MayOk (ix noCall (ix [] css i) j)) with h5 | h5
          · exact h5
          · exact absurd (.inr ⟨j, hj, h5⟩) h3
        unfold MayOk NamesOk at h4
        omega
  · cases h

/-- A thread's block. -/
def thrC (v : Value) : Array Value := #[v, .int .i64 0, .nilIface, .int .i64 0, .int .i64 0, .int .i64 0, .int .i64 0, .int .i64 0, .int .i64 0, .int .i64 0, .int .i64 0, .slice none 0 0, .int .i64 0, .int .i64 0, .int .i64 0, .int .i64 0, .int .i64 0, .bool false, .int .i64 0, .slice none 0 0, .int .i64 0]
/-- The cells of one call. -/
def onecY (a b : Int) (A : Option Addr) (n c : Nat) (j : Nat) : Value := if j = 0 then .int .i64 a else if j = 1 then .int .i64 b else .slice A n c
theorem onecY_one (a b : Int) (A : Option Addr) (n c : Nat) : ∀ j, j < 3 → (onecY a b A n c j).oneCell' = true := by
  intro j hj
  unfold onecY
  split
  · rfl
  · split <;> rfl
def pushY (m : Nat) (F G : Nat → Value) (j : Nat) : Value := if j < m * 3 then F j else G (j - m * 3)
theorem pushY_lt {m : Nat} {F G : Nat → Value} {j : Nat} (h : j < m * 3) : pushY m F G j = F j := if_pos h
theorem pushY_new {m : Nat} {F G : Nat → Value} {j : Nat} : pushY m F G (m * 3 + j) = G j := by
  unfold pushY
  rw [if_neg (Nat.not_lt.2 (Nat.le_add_right _ _)), Nat.add_sub_cancel_left]
theorem new_callY (w : World) (t : TypeId) (k av : Int) (A : Option Addr) (n lc : Nat) : ∀ j, j < 3 → ((w.alloc (.cells #[.int .i64 k, .int .i64 av, .slice A n lc] t)).drew).cell? ((⟨w.heap.size, 0, none⟩ : Addr).add j) = some (onecY k av A n lc j) := by
  intro j hj
  have h : j = 0 ∨ j = 1 ∨ j = 2 := by omega
  rcases h with rfl | rfl | rfl
  · exact cell_new w _ t 0 _ rfl
  · exact cell_new w _ t 1 _ rfl
  · exact cell_new w _ t 2 _ rfl

set_option maxHeartbeats 4000000 in
set_option maxRecDepth 100000 in
theorem yardOk_any (p t : Int) (DA : Option Addr) (dn dc : Nat) (d : Nat → Int) (css : List (List CallD)) (CA : Option Addr) (cc : Nat) (w : World) (hR : rightC p t css = 0) (hA : DA = none → dn = 0) (hn : dn ≤ 100) (hd : DrawsR w DA dn d) (hl : CallssR w CA css) :
    Calls Tryz.prog 5 #[.agg #[.int .i64 p, .int .i64 t, .slice DA dn dc], .slice CA css.length cc] w fun e w' =>
      (∃ wA gy ga v G, e = .returned (.tuple #[.pointer (some ⟨gy, 0, none⟩), .int .i64 0]) ∧ Ext w wA ∧ YardR w' wA.heap.size gy ga v 0 p css.length css G ∧ ArenaR wA ga ∧ Ext wA w') ∧ Ext w w' := by
  obtain ⟨hM, hlen, hall⟩ := right_ok hR
  have hcn : css.length ≤ maxLen := by have := hM.2.2.2; unfold maxLen; omega
  have hcn' : css.length ≤ 64 := by have := hM.2.2.2; omega
  have HD := Lib.hid (And.intro hd (And.intro hl (And.intro hM hall)))
  obtain ⟨i0, hi, hz0, hz1, hz2⟩ := info_parts Tryz.infoCallY
  obtain ⟨i1, hj, hy0, hy1, hy2⟩ := info_parts Tryz.infoThreadP
  have HI := Lib.hid (And.intro (And.intro hi (And.intro hz0 (And.intro hz1 hz2))) (And.intro hj (And.intro hy0 (And.intro hy1 hy2))))
  clear hd hl hM hall hi hz0 hz1 hz2 hj hy0 hy1 hy2 hlen
  go_enter Tryz.func5, Tryz.ntmps5
  go_wp2_with (go_at_call 13; refine (right_any _ _ _ _ _ _ _ hcn ?h1 ⟨_, _, _, rfl⟩).mono ?_; (case h1 => exact HD.out.2.1.ext ((Ext.refl _).alloc _)); rintro e w1 ⟨rfl, hE1⟩; rw [hR])
  have hE01 : Ext w w1 := ((Ext.refl _).alloc _).trans hE1
  have b0 : Blk w1 w.heap.size 24 #[.int .i64 p, .int .i64 t, .slice DA dn dc] := (Blk.new w _ _ _ rfl).ext hE1
  have HK : ∀ w', Ext w1 w' → w'.cell? ⟨w.heap.size, 0, none⟩ = some (.int .i64 p) ∧ w'.cell? ⟨w.heap.size, 1, none⟩ = some (.int .i64 t) ∧ w'.cell? ⟨w.heap.size, 2, none⟩ = some (.slice DA dn dc) := fun w' h => ⟨(b0.ext h).cell rfl, (b0.ext h).cell rfl, (b0.ext h).cell rfl⟩
  have HKS := Lib.hid HK
  have HD1 := Lib.hid (HD.out.1.ext (hE01.drew))
  clear HK b0
  go_region_held3 (fun w' => w'.cell? ⟨w.heap.size, 0, none⟩ = some (.int .i64 p) ∧ w'.cell? ⟨w.heap.size, 1, none⟩ = some (.int .i64 t) ∧ w'.cell? ⟨w.heap.size, 2, none⟩ = some (.slice DA dn dc)) (first | exact HKS.out _ ((Ext.refl w1).drew) | exact HKS.out _ hA' | exact HKS.out _ (hA'.alloc _)) (first
    | (go_at_call 14; refine (arenaNew_any p t DA dn dc d _ HD.out.2.2.1 hA hn ?h1).mono ?_; (case h1 => exact HD1.out); rintro e w2 ⟨⟨ga, gs, gw, nw, rfl, x1, x2, x3, x4⟩, hE2⟩; have hA' : Ext w1 w2 := ((Ext.refl w1).drew).trans hE2))
  have hAr : ArenaR w2 ga := ⟨gs, gw, nw, x1, x2, x3, x4⟩
  have hE02 : Ext w w2 := hE01.trans hA'
  have hY0 : YardR (w2.alloc (.cells (yardC ga (.slice none 0 0) 0 p) 53)) w2.heap.size w2.heap.size ga (.slice none 0 0) 0 p 0 css (fun _ => 0) :=
    ⟨Blk.new _ _ _ _ rfl, Nat.le_refl _, OwnS.nil _ _ _ _ _, fun j hj => absurd hj (by omega)⟩
  have HY := Lib.hid (And.intro hY0 (And.intro hAr hE02))
  clear x1 x2 x3 x4 hE2 hA' hY0 hAr hE02 HKS
  go_wp2
  go_loopg [27] css.length (fun q i wr => ∃ k v G, k ≤ css.length ∧ q = css.length - k ∧ i = .int .i64 (k : Int) ∧ Ext w2 wr ∧ YardR wr w2.heap.size w2.heap.size ga v 0 p k css G)
  case atStart => exact ⟨0, _, _, Nat.zero_le _, rfl, rfl, (Ext.refl _).alloc _, HY.out.1⟩
  case round =>
    obtain ⟨k, v, G, hk, rfl, rfl, hE, hY⟩ := hrel
    have HYr := Lib.hid (And.intro hY hE)
    clear hY
    by_cases hlt : k < css.length
    · obtain ⟨LA, LC, hl1, hl2⟩ := HD.out.2.1
      obtain ⟨b, off, rfl, hc⟩ := hl1 (by omega)
      have c0 := (HY.out.2.2.trans hE).cell (hc k (by omega))
      obtain ⟨hl3, hl4⟩ := hl2 k hlt
      have HL := Lib.hid (And.intro hl3 (HD.out.2.2.2 k hlt))
      clear hl1 hl2 hc hl3 hl4
      dsimp only at c0
      generalize hcs : ix [] css k = cs at c0 HL
      generalize LA k = Ak at c0 HL
      generalize LC k = Ck at c0
      have q1 : (k : Int) < (css.length : Int) := by omega
      have q0 : (0 : Int) ≤ (k : Int) := by omega
      go_wp2
      have hgb : w2.heap.size ≤ wr.heap.size := hE.size
      have hGlt : ∀ j, j < k → G j < wr.heap.size := fun j hj => by
        obtain ⟨cs', A', c', hb, _⟩ := (HYr.out.1.2.2.2 j hj).1
        exact hb.lt
      have hY3 : YardR (wr.alloc (.cells (thrC (.slice none 0 0)) 63)) w2.heap.size w2.heap.size ga v 0 p k css G := HYr.out.1.ext ((Ext.refl _).alloc _)
      have hB3 : Blk (wr.alloc (.cells (thrC (.slice none 0 0)) 63)) wr.heap.size 63 (thrC (.slice none 0 0)) := Blk.new _ _ _ _ rfl
      have hE3 : Ext w2 (wr.alloc (.cells (thrC (.slice none 0 0)) 63)) := hE.alloc _
      have hgy : w2.heap.size < wr.heap.size := HYr.out.1.1.lt
      have HG := Lib.hid (And.intro hgb (And.intro hGlt (And.intro hY3 (And.intro hB3 hE3))))
      clear hGlt hY3 hB3 hE3
      generalize hg : wr.heap.size = g at *
      go_loopg [35] cs.length (fun q i w5 => ∃ m v' F, m ≤ cs.length ∧ q = cs.length - m ∧ i = .int .i64 (m : Int) ∧ Ext w2 w5 ∧ YardR w5 w2.heap.size w2.heap.size ga v 0 p k css G ∧ Blk w5 g 63 (thrC v') ∧ OwnS w5 w2.heap.size 44 3 v' m F)
      case atStart => exact ⟨0, _, fun _ => undef, Nat.zero_le _, rfl, rfl, HG.out.2.2.2.2, HG.out.2.2.1, HG.out.2.2.2.1, OwnS.nil _ _ _ _ _⟩
      case round =>
        obtain ⟨m, v', F, hm, rfl, rfl, hE5, hY5, hB5, hO5⟩ := hrel
        by_cases hlt2 : m < cs.length
        · obtain ⟨LA2, LC2, hs1, hs2⟩ := HL.out.1
          obtain ⟨b2, off2, rfl, hc2⟩ := hs1 (by omega)
          have hE05 : Ext w wr := HY.out.2.2.trans hE5
          have d0 := hE05.cell (hc2 (m * 3) (by omega))
          have d1 := hE05.cell (hc2 (m * 3 + 1) (by omega))
          have d2 := hE05.cell (hc2 (m * 3 + 2) (by omega))
          rw [callv0] at d0
          rw [callv1, ← Nat.add_assoc] at d1
          rw [callv2, ← Nat.add_assoc] at d2
          obtain ⟨hs3, _⟩ := hs2 m hlt2
          have hn8 := HL.out.2.2 m hlt2
          have h40 := HL.out.2.1
          clear hs1 hs2 hc2
          generalize ix noCall cs m = cl at d0 d1 d2 hs3 hn8
          obtain ⟨kk, aa, nl⟩ := cl
          dsimp only at d0 d1 d2 hs3 hn8
          have hs4 := hs3.ext (hE05.alloc (.cells #[.int .i64 kk, .int .i64 aa, .slice (LA2 m) nl.length (LC2 m)] 44))
          have r1 : (m : Int) < (cs.length : Int) := by omega
          have r0 : (0 : Int) ≤ (m : Int) := by omega
          have HF := Lib.hid (And.intro hE5 (And.intro hY5 (And.intro hB5 hO5)))
          have HN := Lib.hid (And.intro hs4 hn8)
          clear hE5 hY5 hB5 hO5 hs3 hs4 hn8 hE05
          go_wp2_with (go_at_call 15; refine (cloneI_any _ _ _ (fun j => ix 0 nl j) _ ?h1 ?h2).mono ?_; (case h1 => have := HN.out.2; omega); (case h2 => exact HN.out.1); rintro e w6 ⟨A6, c6, rfl, hE6⟩; have B6 := (Blk.new wr 44 #[.int .i64 kk, .int .i64 aa, .slice (LA2 m) nl.length (LC2 m)] _ rfl).ext hE6; have e2 := B6.cell (i := 2) (v := .slice (LA2 m) nl.length (LC2 m)) rfl; have g2 := B6.frozen 2)
          have hEw : Ext wr w6 := ((Ext.refl _).alloc _).trans hE6
          have hlG : ∀ j, j < k → G j < wr.heap.size := fun j hj => by
            obtain ⟨cs', A', c', hb, _⟩ := (HF.out.2.1.2.2.2 j hj).1
            exact hb.lt
          have f1 : Ext w2 (w6.setCell ⟨wr.heap.size, 2, none⟩ (.slice A6 nl.length c6)) := (HF.out.1.trans hEw).setCell HF.out.1.size _
          have f2 : YardR (w6.setCell ⟨wr.heap.size, 2, none⟩ (.slice A6 nl.length c6)) w2.heap.size w2.heap.size ga v 0 p k css G := (HF.out.2.1.ext hEw).far (Nat.ne_of_lt HF.out.2.1.1.lt) (fun e => absurd (World.ownsRow.lt HF.out.2.1.2.2.1 _ e).2 (Nat.lt_irrefl _)) (fun j hj => Nat.ne_of_lt (hlG j hj)) _
          have f3 : Blk (w6.setCell ⟨wr.heap.size, 2, none⟩ (.slice A6 nl.length c6)) g 63 (thrC v') := (HF.out.2.2.1.ext hEw).far (Nat.ne_of_lt HF.out.2.2.1.lt) _
          have f4 : OwnS (w6.setCell ⟨wr.heap.size, 2, none⟩ (.slice A6 nl.length c6)) w2.heap.size 44 3 v' m F := (HF.out.2.2.2.ext hEw).setOther (fun e => absurd (World.ownsRow.lt HF.out.2.2.2 _ e).2 (Nat.lt_irrefl _)) _
          have f5 : Blk (w6.setCell ⟨wr.heap.size, 2, none⟩ (.slice A6 nl.length c6)) wr.heap.size 44 #[.int .i64 kk, .int .i64 aa, .slice A6 nl.length c6] := by
            have := B6.set 2 (.slice A6 nl.length c6)
            exact this
          generalize hWb : w6.setCell ⟨wr.heap.size, 2, none⟩ (.slice A6 nl.length c6) = Wb at f1 f2 f3 f4 f5 ⊢
          have t0 := f3.cell (i := 0) (v := v') rfl
          have u0 := f3.frozen 0
          have k0 := f5.cell (i := 0) (v := .int .i64 kk) rfl
          have k1 := f5.cell (i := 1) (v := .int .i64 aa) rfl
          have k2 := f5.cell (i := 2) (v := .slice A6 nl.length c6) rfl
          have hgl := f3.lt
          have hcl := f5.lt
          have hbs := f1.size
          have HQ := Lib.hid (And.intro f1 (And.intro f2 (And.intro f3 f4)))
          clear hWb f1 f2 f3 f4 f5 e2 g2 B6 hE6 hEw hlG d0 d1 d2
          have hX1 : OwnS (Wb.alloc (.cells #[.int .i64 kk, .int .i64 aa, .slice A6 nl.length c6] 44)).drew w2.heap.size 44 3 v' m F := HQ.out.2.2.2.ext ((Ext.refl _).alloc _).drew
          have hX2 : Blk (Wb.alloc (.cells #[.int .i64 kk, .int .i64 aa, .slice A6 nl.length c6] 44)).drew g 63 (thrC v') := HQ.out.2.2.1.ext ((Ext.refl _).alloc _).drew
          have hX3 : some g ≠ v'.ownBlock := own_ne_blk hX1 hX2 (by decide)
          have hX4 : w2.heap.size ≤ (Wb.alloc (.cells #[.int .i64 kk, .int .i64 aa, .slice A6 nl.length c6] 44)).drew.heap.size := by simp; omega
          have hX5 : m + 1 ≤ maxLen := by unfold maxLen; omega
          go_region_law ((refine step_push (by rfl) _ _ 33 (by rfl) w2.heap.size 44 i0 (.agg #[.int .i64 0, .int .i64 0, .slice none 0 0]) 3 40 Tryz.underlying33 HI.out.1.1 HI.out.1.2.1 HI.out.1.2.2.1 HI.out.1.2.2.2 (by rfl) (by omega) v' m F (by rfl) hX1 ⟨Wb.heap.size, 0, none⟩ 1 (onecY kk aa A6 nl.length c6) (by rfl) (new_callY _ _ _ _ _ _ _) (onecY_one _ _ _ _ _) hX5 (by omega) hX4 _ rfl (pushY m F (onecY kk aa A6 nl.length c6)) (fun _ h => pushY_lt h) (fun _ _ => pushY_new) ?_; intro gg cap w7 hO7 hgrow hExt hor hgg; have hB7 := hX2.grown hgrow hX3; have c3 := hB7.cell (i := 0) (v := v') rfl; have f3 := hB7.frozen 0))
          all_goals
            have g1 : Ext w2 (w7.setCell ⟨g, 0, none⟩ (.slice (some ⟨gg, 0, none⟩) (m + 1) cap)) := (hExt w2 (HQ.out.1.trans ((Ext.refl _).alloc _).drew) (Nat.le_refl _)).setCell hgb _
            have hY7 := (HQ.out.2.1.ext ((Ext.refl _).alloc (.cells #[.int .i64 kk, .int .i64 aa, .slice A6 nl.length c6] 44)).drew).grown hX1 hgrow
            have g2 := hY7.far (p := ⟨g, 0, none⟩) (Nat.ne_of_lt hgy) (fun e => own_ne_blk hY7.2.2.1 hB7 (by decide) e.symm) (fun j hj => Nat.ne_of_lt (HG.out.2.1 j hj)) (.slice (some ⟨gg, 0, none⟩) (m + 1) cap)
            have g3 : Blk (w7.setCell ⟨g, 0, none⟩ (.slice (some ⟨gg, 0, none⟩) (m + 1) cap)) g 63 (thrC (.slice (some ⟨gg, 0, none⟩) (m + 1) cap)) := by
              have := hB7.set 0 (.slice (some ⟨gg, 0, none⟩) (m + 1) cap)
              exact this
            have g4 := hO7.setOther (p := ⟨g, 0, none⟩) (fun e => own_ne_blk hO7 hB7 (by decide) e.symm) (.slice (some ⟨gg, 0, none⟩) (m + 1) cap)
            have HR4 := Lib.hid (And.intro g1 (And.intro g2 (And.intro g3 g4)))
            clear g1 g2 g3 g4 hY7 hX1 hX2 hX3 hX4 hX5 hO7 hgrow hExt hor hgg hB7 c3 f3
            go_wp2
            go_roundg (cs.length - (m + 1))
            case measure => go_light; omega
            case rel => exact ⟨m + 1, _, _, by omega, rfl, by go_num, HR4.out.1, HR4.out.2.1, HR4.out.2.2.1, HR4.out.2.2.2⟩
        · obtain rfl : m = cs.length := by omega
          have hT5 : ThrR wr g (ix [] css k).length := by
            obtain ⟨A', c', rfl, _⟩ := hO5.form
            exact ⟨_, A', c', hB5, by rw [hcs]; rfl, rfl⟩
          have y1 := hY5.1.cell (i := 1) (v := v) rfl
          have HP := Lib.hid (And.intro hE5 (And.intro hY5 hT5))
          have hgyl := hY5.1.lt
          have hbw := hE5.size
          have hk64 : k + 1 ≤ maxLen := by unfold maxLen; omega
          clear hE5 hY5 hB5 hO5 hT5
          go_wp2_with (at_builtin; refine wpList_push rfl _ _ 49 rfl w2.heap.size 54 i1 (.pointer none) 1 8 Tryz.underlying49 HI.out.2.1 HI.out.2.2.1 HI.out.2.2.2.1 HI.out.2.2.2.2 rfl (by decide) v k (fun j => .pointer (some ⟨G j, 0, none⟩)) rfl ?qown ⟨wr.heap.size, 0, none⟩ 1 (fun _ => .pointer (some ⟨g, 0, none⟩)) rfl ?qnew (fun _ _ => rfl) hk64 ?qb ?qbase _ rfl (fun j => .pointer (some ⟨if j < k then G j else g, 0, none⟩)) (fun _ h => thrs_lt h) (fun _ h => thrs_new h) ?_)
          case qown => exact HP.out.2.1.2.2.1.ext ((Ext.refl _).alloc _)
          case qnew => exact new_oneY _ _ _
          case qb => omega
          case qbase => simp; omega
          intro gg cap w8 hO8 hgrow hExt hor hgg
          have hYw := HP.out.2.1.ext ((Ext.refl wr).alloc (.cells #[.pointer (some ⟨g, 0, none⟩)] 54))
          have hT8 := HP.out.2.2.ext ((Ext.refl wr).alloc (.cells #[.pointer (some ⟨g, 0, none⟩)] 54))
          have hY8 := hYw.pushed hT8 hgb hgrow hO8
          have hBy := hYw.1.grown hgrow (own_ne_blk hYw.2.2.1 hYw.1 (by decide))
          have s1 := hBy.cell (i := 1) (v := v) rfl
          have s2 := hBy.frozen 1
          have hE8 : Ext w2 w8 := hExt w2 (HP.out.1.alloc _) (Nat.le_refl _)
          have HR8 := Lib.hid (And.intro (hE8.setCell (p := ⟨w2.heap.size, 1, none⟩) (Nat.le_refl _) (.slice (some ⟨gg, 0, none⟩) (k + 1) cap)) hY8)
          clear hYw hT8 hY8 hBy hE8 hO8 hgrow hExt hor hgg
          go_wp2
          go_roundg (css.length - (k + 1))
          case measure => go_light; omega
          case rel => exact ⟨k + 1, _, _, by omega, rfl, by go_num, HR8.out.1, HR8.out.2⟩
    · obtain rfl : k = css.length := by omega
      go_wp2
      go_ret2
      exact ⟨⟨w2, w2.heap.size, ga, v, G, rfl, HY.out.2.2, HYr.out.1, HY.out.2.1, hE⟩, HY.out.2.2.trans hE⟩
end Go.Proofs.YtclnmihpelaalaaGreatDoor
