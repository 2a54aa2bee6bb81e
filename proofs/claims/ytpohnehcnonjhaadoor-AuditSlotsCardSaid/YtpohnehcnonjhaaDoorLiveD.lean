/- Walk: audit.Live. -/
import Derived.Test.YtpohnehcnonjhaaDoorLive30
import Derived.Test.YtpohnehcnonjhaaDoorPlaces
import Derived.Test.YtpohnehcnonjhaaDoorShelf
import Derived.Sort.OwnSortedInts
namespace Go.Proofs.YtpohnehcnonjhaaDoor
open Go.RowKit Go.Sort
set_option linter.unusedVariables false
set_option linter.unusedSimpArgs false

/-- The first k of the slots of a span that are allocated, each that lives put behind. -/
noncomputable def pushTo (x : SpanD) (g : Int) (acc : List Int) : Nat → List Int
  | 0 => acc
  | k + 1 => if B (LivP x g (ix 0 (places x.alloc) k)) then pushTo x g acc k ++ [begC x.page x.cls (ix 0 (places x.alloc) k : Nat)] else pushTo x g acc k
noncomputable def appTo (sp : List SpanD) (g : Int) : Nat → List Int
  | 0 => []
  | i + 1 => pushTo (ix noSpan sp i) g (appTo sp g i) (places (ix noSpan sp i).alloc).length
theorem pushTo_len (x : SpanD) (g : Int) (acc : List Int) : ∀ k, (pushTo x g acc k).length ≤ acc.length + k
  | 0 => Nat.le_refl _
  | k + 1 => by
    have h := pushTo_len x g acc k
    unfold pushTo
    split
    · rw [List.length_append]; simp; omega
    · omega
theorem pushTo_yes {x : SpanD} {g : Int} {acc : List Int} {k p : Nat} (e : ix 0 (places x.alloc) k = p) (h : LivP x g p) : pushTo x g acc (k + 1) = pushTo x g acc k ++ [begC x.page x.cls p] := by
  subst e; exact if_pos (B_yes h)
theorem pushTo_no {x : SpanD} {g : Int} {acc : List Int} {k p : Nat} (e : ix 0 (places x.alloc) k = p) (h : ¬ LivP x g p) : pushTo x g acc (k + 1) = pushTo x g acc k := by
  subst e; exact if_neg (by rw [B_no h]; simp)
theorem appTo_len (sp : List SpanD) (g : Int) : ∀ i, (appTo sp g i).length ≤ 64 * i
  | 0 => Nat.le_refl _
  | i + 1 => by
    have h := appTo_len sp g i
    have h2 := pushTo_len (ix noSpan sp i) g (appTo sp g i) (places (ix noSpan sp i).alloc).length
    have h3 := places_len (ix noSpan sp i).alloc
    unfold appTo
    omega
theorem intv_old {l : List Int} {x : Int} {j : Nat} (h : j < l.length * 1) : intv (l ++ [x]) j = intv l j := by unfold intv; rw [ix_app_lt 0 l x (by omega)]
theorem intv_new {l : List Int} {x : Int} {j : Nat} (h : j < 1) : intv (l ++ [x]) (l.length * 1 + j) = .int .i64 x := by
  obtain rfl : j = 0 := by omega
  unfold intv
  rw [Nat.mul_one, Nat.add_zero, ix_app_end]

theorem own_blk_ne {w : World} {b g n size : Nat} {e t : TypeId} {v : Value} {F : Nat → Value} {cs : Array Value} (h : OwnS w b e size v n F) (hb : Blk w g t cs) (ht : t ≠ e) : some g ≠ v.ownBlock := by
  rcases h.2 with ⟨rfl, _⟩ | ⟨g', cap, cur, rfl, hg, hh, _⟩
  · simp [Value.ownBlock]
  · intro e'
    simp only [Value.ownBlock, Option.some.injEq] at e'
    subst e'
    unfold Blk at hb
    rw [hh] at hb
    simp at hb
    exact ht hb.2.symm
theorem own_past {w : World} {b1 b2 n1 n2 s1 s2 : Nat} {e1 e2 : TypeId} {v1 v2 : Value} {F1 F2 : Nat → Value} {W : World} (h1 : OwnS w b1 e1 s1 v1 n1 F1) (h2 : OwnS W b2 e2 s2 v2 n2 F2) (hb : w.heap.size ≤ b2) : v2.ownBlock = none ∨ v2.ownBlock ≠ v1.ownBlock := by
  cases e : v2.ownBlock with
  | none => exact .inl rfl
  | some k =>
    refine .inr fun e' => ?_
    have l2 := World.ownsRow.lt h2 k e
    have l1 := World.ownsRow.lt h1 k e'.symm
    omega

theorem slr_holds {w : World} {b : Nat} {C : List Int} (h : ∀ j, j < C.length → w.cell? ⟨b, 0 + j, none⟩ = some (.int .i64 (C.toArray[j]!))) : SlR w (some ⟨b, 0, none⟩) C.length 1 (intv C) :=
  fun _ => ⟨b, 0, rfl, fun j hj => by
    rw [h j (by omega)]
    unfold intv
    rw [ix_lt (by omega)]
    simp [show j < C.length by omega]⟩
theorem ext_grown {w W W' : World} {g : Nat} (hE : Ext w W) (hg : W.grownBy W' (some g)) (hb : w.heap.size ≤ g) : Ext w W' :=
  Below.grown hE hg hE.size (fun k hk => by injection hk with hk; omega)
theorem app_get (C R : List Int) {j : Nat} (h : j < C.length) : (C ++ R).toArray[j]! = C.toArray[j]! := by
  simp [List.getElem?_append_left h]
theorem comp_le (M : List Int) : (Lib.compact M).length ≤ M.length := by
  unfold Lib.compact Lib.compactUpTo
  rw [List.length_map]
  exact Nat.le_trans (List.length_filter_le _ _) (by simp)
def CompOut (w : World) (C : List Int) (e : Ending) (w' : World) : Prop := (∃ A c, e = .returned (.slice A C.length c) ∧ SlR w' A C.length 1 (intv C)) ∧ Ext w w'
set_option maxRecDepth 100000 in
set_option maxHeartbeats 4000000 in
theorem live_any (sp : List SpanD) (sA : Option Addr) (sc : Nat) (g : Int) (w : World) (hl : sp.length ≤ 10000) (hb : ∀ i, i < sp.length → SpBd (ix noSpan sp i)) (hS : SpansR w sA sp) (hT : Tab w) (hTB : TabB w) :
    Calls Tryd.prog 11 #[.slice sA sp.length sc, .int .i64 g] w (CompOut w (Lib.compact ((appTo sp g sp.length).mergeSort fun x y => decide (x ≤ y)))) := by
  have HS := Lib.hid (And.intro hS hb)
  have HT := Lib.hid (And.intro hT hTB)
  clear hS hb hT hTB
  obtain ⟨i0, hi, hz0, hz1, hz2⟩ := info_parts Tryd.infoIntQ
  have HI := Lib.hid (And.intro hi (And.intro hz0 (And.intro hz1 hz2)))
  clear hi hz0 hz1 hz2
  go_enter Tryd.func11, Tryd.ntmps11
  go_wp2_with fail
  go_loopg [4, 13] sp.length (fun q v i wr => ∃ k : Nat, k ≤ sp.length ∧ q = sp.length - k ∧ i = .int .i64 k ∧ Ext w wr ∧ OwnS wr w.heap.size 3 1 v (appTo sp g k).length (intv (appTo sp g k)))
  case atStart => exact ⟨0, Nat.zero_le _, rfl, rfl, Ext.refl _, OwnS.nil _ _ _ _ _⟩
  case round =>
    obtain ⟨k, hk, rfl, rfl, hE, hO⟩ := hrel
    by_cases hlt : k < sp.length
    · have HB := Lib.hid (HS.out.2 k hlt)
      have HL := Lib.hid (show pushTo (ix noSpan sp k) g (appTo sp g k) (places (ix noSpan sp k).alloc).length = appTo sp g (k + 1) from rfl)
      have HC := Lib.hid (appTo_len sp g k)
      obtain ⟨b, off, rfl, hc⟩ := HS.out.1 (by omega)
      have h0 := hE.cell (hc (k * 7) (by omega))
      have h1 := hE.cell (hc (k * 7 + 1) (by omega))
      have h2 := hE.cell (hc (k * 7 + 2) (by omega))
      have h3 := hE.cell (hc (k * 7 + 3) (by omega))
      have h4 := hE.cell (hc (k * 7 + 4) (by omega))
      have h5 := hE.cell (hc (k * 7 + 5) (by omega))
      have h6 := hE.cell (hc (k * 7 + 6) (by omega))
      rw [spanv0] at h0
      rw [spanv1, ← Nat.add_assoc] at h1
      rw [spanv2, ← Nat.add_assoc] at h2
      rw [spanv3, ← Nat.add_assoc] at h3
      rw [spanv4, ← Nat.add_assoc] at h4
      rw [spanv5, ← Nat.add_assoc] at h5
      rw [spanv6, ← Nat.add_assoc] at h6
      clear hc
      generalize ix noSpan sp k = x at h0 h1 h2 h3 h4 h5 h6 HB HL
      generalize appTo sp g k = acc at HL HC hO
      have HO := Lib.hid hO
      clear hO
      go_wp2_with fail
      go_at_call 19
      refine (places_any x.alloc _ HB.out.1 (HT.out.2.ext (hE.alloc _))).mono ?_
      rintro e w1 ⟨⟨PA, pc, rfl, hP⟩, hE1⟩
      rw [World.size_alloc] at hP
      have hEw1 := (hE.alloc _).trans hE1
      have hBx := (Blk.new wr 25 #[.int .i64 x.page, .int .i64 x.pages, .int .i64 x.cls, .int .i64 x.gen, .int .i64 x.phase, .int .u64 x.alloc, .int .u64 x.mark] _ rfl).ext hE1
      have hO1 := (HO.out.ext ((Ext.refl wr).alloc _)).ext hE1
      have hne := own_past HO.out hP (by omega)
      clear h0 h1 h2 h3 h4 h5 h6
      have hPl := places_len x.alloc
      have HPL := Lib.hid (And.intro hP (And.intro hE1 (And.intro hEw1 (And.intro hBx (And.intro hO1 hne)))))
      clear hE1 hP hBx hO1 hne
      obtain ⟨N, hN⟩ : ∃ N, (places x.alloc).length = N := ⟨_, rfl⟩
      have HN := Lib.hid hN
      rw [hN] at HPL HL hPl ⊢
      clear hN
      go_wp2_with fail
      go_loopg [4, 21] N (fun q v i wy => ∃ j : Nat, j ≤ N ∧ q = N - j ∧ i = .int .i64 j ∧ Ext w wy ∧ wr.heap.size < wy.heap.size ∧ Blk wy wr.heap.size 25 #[.int .i64 x.page, .int .i64 x.pages, .int .i64 x.cls, .int .i64 x.gen, .int .i64 x.phase, .int .u64 x.alloc, .int .u64 x.mark] ∧ OwnS wy (wr.heap.size + 1) 3 1 (.slice PA N pc) N (natv (places x.alloc)) ∧ OwnS wy w.heap.size 3 1 v (pushTo x g acc j).length (intv (pushTo x g acc j)) ∧ ((Value.slice PA N pc).ownBlock = none ∨ (Value.slice PA N pc).ownBlock ≠ v.ownBlock))
      case atStart => exact ⟨0, Nat.zero_le _, rfl, rfl, HPL.out.2.2.1, HPL.out.2.2.2.1.lt, HPL.out.2.2.2.1, HPL.out.1, HPL.out.2.2.2.2.1, HPL.out.2.2.2.2.2⟩
      case round =>
        clear hE hEw1
        obtain ⟨j, hj, rfl, rfl, hE, hsz, hBx, hP, hO, hne⟩ := hrel
        have HZ := Lib.hid (And.intro hBx (And.intro hP (And.intro hO hne)))
        clear hO hP hne
        by_cases hlt2 : j < N
        · have c0 := hBx.cell (i := 0) rfl
          have c1 := hBx.cell (i := 1) rfl
          have c2 := hBx.cell (i := 2) rfl
          have c3 := hBx.cell (i := 3) rfl
          have c4 := hBx.cell (i := 4) rfl
          have c5 := hBx.cell (i := 5) rfl
          have c6 := hBx.cell (i := 6) rfl
          clear hBx
          obtain ⟨gp, cp, hgp⟩ := HZ.out.2.1.form' (by omega)
          obtain rfl : PA = some ⟨gp, 0, none⟩ := by injection hgp
          clear hgp
          have cp0 := HZ.out.2.1.cellAt (j := j) (by omega)
          unfold natv at cp0
          generalize hpp : ix 0 (places x.alloc) j = p at cp0
          have hmem := places_lt (x := x.alloc) (i := p) (by rw [← hpp]; exact ix_mem (by rw [HN.out]; exact hlt2))
          have HPP := Lib.hid (And.intro hpp hmem)
          clear hpp hmem
          have HTT := Lib.hid (HT.out.1.ext hE)
          go_wp2_with fail
          go_at_call 20
          refine (begin_s_any _ _ _ _ HTT.out).mono ?_
          rintro e w2 ⟨rfl, hE2⟩
          by_cases hBg : BegP x.page x.cls p
          rotate_left
          · have HY := Lib.hid (pushTo_no (acc := acc) (g := g) HPP.out.1 (fun h => hBg h.1))
            rw [B_no hBg]
            clear hBg
            go_wp2_with fail
            go_roundg (N - (j + 1))
            case measure => go_light; omega
            exact ⟨j + 1, by omega, rfl, by simp, hE.trans hE2, Nat.lt_of_lt_of_le hsz hE2.size, HZ.out.1.ext hE2, HZ.out.2.1.ext hE2, by rw [HY.out]; exact HZ.out.2.2.1.ext hE2, HZ.out.2.2.2⟩
          have HBg := Lib.hid hBg
          rw [B_yes hBg]
          clear hBg
          have e0 := hE2.cell c0
          have e1 := hE2.cell c1
          have e2 := hE2.cell c2
          have e3 := hE2.cell c3
          have e4 := hE2.cell c4
          have e5 := hE2.cell c5
          have e6 := hE2.cell c6
          clear c0 c1 c2 c3 c4 c5 c6
          go_wp2_with fail
          go_at_call 9
          refine (slot_any x g p _ HB.out (HTT.out.ext hE2)).mono ?_
          rintro e w3 ⟨rfl, hE3⟩
          have hE23 := hE2.trans hE3
          clear e0 e1 e2 e3 e4 e5 e6
          by_cases h2 : slotC x g p = 2
          rotate_left
          · have HY := Lib.hid (pushTo_no (acc := acc) (g := g) HPP.out.1 (fun h => h2 h.2))
            have e2 : (slotC x g p == 2) = false := by simpa using h2
            clear h2
            go_wp2_with fail
            go_roundg (N - (j + 1))
            case measure => go_light; omega
            exact ⟨j + 1, by omega, rfl, by simp, hE.trans hE23, Nat.lt_of_lt_of_le hsz hE23.size, HZ.out.1.ext hE23, HZ.out.2.1.ext hE23, by rw [HY.out]; exact HZ.out.2.2.1.ext hE23, HZ.out.2.2.2⟩
          have HY := Lib.hid (pushTo_yes (acc := acc) (g := g) HPP.out.1 ⟨HBg.out, h2⟩)
          have e2 : (slotC x g p == 2) = true := by simpa using h2
          clear h2
          have hlen := pushTo_len x g acc j
          generalize hL : pushTo x g acc j = L at HZ HY hlen
          have hHC := HC.out
          have hE3' := (hE.trans hE23).size
          go_wp2_with (at_builtin; go_loud (refine wpList_push rfl _ _ 28 rfl w.heap.size 3 i0 (.int .i64 0) 1 8 Tryd.underlying28 HI.out.1 HI.out.2.1 HI.out.2.2.1 HI.out.2.2.2 rfl (by decide) _ L.length (intv L) rfl ((HZ.out.2.2.1.ext hE23).ext ((Ext.refl _).alloc _)) ⟨w3.heap.size, 0, none⟩ 1 (fun _ => .int .i64 (begC x.page x.cls p)) rfl (fun j hj => by obtain rfl : j = 0 := (by omega); exact cell_new _ _ _ 0 _ rfl) (fun _ _ => rfl) ?b63 ?bby ?bba _ rfl (intv (L ++ [begC x.page x.cls p])) (fun j hj => intv_old hj) (fun j hj => intv_new hj) ?_); (case b63 => unfold maxLen; omega); (case bby => omega); (case bba => simp; omega); intro gq capq w4 hO4 hgrow hExt hor hg4)
          go_roundg (N - (j + 1))
          case measure => go_light; omega
          have hB3 := (HZ.out.1.ext hE23).alloc (.cells #[.int .i64 (begC x.page x.cls p)] 3)
          have hP3 := (HZ.out.2.1.ext hE23).ext ((Ext.refl w3).alloc (.cells #[.int .i64 (begC x.page x.cls p)] 3))
          have hV3 := (HZ.out.2.2.1.ext hE23).ext ((Ext.refl w3).alloc (.cells #[.int .i64 (begC x.page x.cls p)] 3))
          have hlt4 := World.ownsRow.lt (HZ.out.2.1.ext hE23) gp rfl
          refine ⟨j + 1, by omega, rfl, by simp, hExt w ((hE.trans hE23).alloc _) (Nat.le_refl _), (hB3.grown hgrow (own_blk_ne hV3 hB3 (by decide))).lt, hB3.grown hgrow (own_blk_ne hV3 hB3 (by decide)), hP3.grown hgrow HZ.out.2.2.2, by rw [HY.out, List.length_append]; exact hO4, .inr ?_⟩
          intro e'
          simp only [Value.ownBlock, Option.some.injEq] at e'
          rcases hor with h | h
          · rcases HZ.out.2.2.2 with h' | h'
            · cases h'
            · exact h' ((congrArg some e').trans h.symm)
          · simp only [World.size_alloc] at h
            omega
        · obtain rfl : j = N := by omega
          have HZ2 := HL.out
          go_wp2_with fail
          go_roundg (sp.length - (k + 1))
          case measure => go_light; omega
          exact ⟨k + 1, by omega, rfl, by simp, hE, by rw [← HZ2]; exact HZ.out.2.2.1⟩
    · obtain rfl : k = sp.length := by omega
      have hlen := appTo_len sp g sp.length
      obtain ⟨L, hL⟩ : ∃ L, appTo sp g sp.length = L := ⟨_, rfl⟩
      have HQ := Lib.hid hL
      rw [hL] at hO hlen
      clear hL
      rcases id hO.2 with ⟨rfl, hL0⟩ | ⟨gq, cap, cur, rfl, hg, hh, hc1, hc2, hc3, hc4⟩
      · obtain rfl := List.eq_nil_of_length_eq_zero hL0
        go_wp2_with fail
        go_at_call 21
        refine (Tryd.slices_Sort_int_none _ _ _).mono ?_
        rintro e w1 ⟨rfl, rfl⟩
        go_wp2_with fail
        go_at_call 22
        refine (Tryd.slices_Compact_int_empty _ _ _).mono ?_
        rintro e w2 ⟨rfl, rfl⟩
        go_wp2_with fail
        go_ret
        unfold CompOut
        rw [HQ.out, show Lib.compact (([] : List Int).mergeSort fun x y => decide (x ≤ y)) = [] by simp [Lib.compact, Lib.compactUpTo]]
        exact ⟨⟨none, 0, rfl, SlR.nil⟩, hE⟩
      · have hH := holds_of_blockI (ss := L) hh (by
          rw [Nat.mul_one] at hc4
          rw [hc4]
          apply List.ext_getElem
          · simp
          · intro i h1 h2
            simp only [List.getElem_map, List.getElem_range]
            unfold intv
            rw [ix_lt (by simpa using h1)])
        have hlt := (Array.getElem?_eq_some_iff.1 hh).1
        go_wp2_with fail
        go_at_call 21
        refine (Tryd.slices_Sort_int gq 0 cap L _ hH hlt (by omega)).mono ?_
        rintro e w1 ⟨rfl, n, os, rfl⟩
        have hS := holds_grow _ _ os gq 0 _ (by simpa [putRow, mapBlock, Sort.ahead] using hlt) (holds_putRow (Value.int .i64) (Sort.ahead _ n) gq 0 L.toArray (L.mergeSort fun x y => decide (x ≤ y)).toArray hH (by simp))
        have hE1 := ext_grown hE (grownBy_sortedI (w := wr) (g := gq) (n := n) (os := os) (L.mergeSort fun x y => decide (x ≤ y)).toArray) hg
        generalize hw1 : grow (putRow (Value.int .i64) (Sort.ahead wr n) gq 0 (L.mergeSort fun x y => decide (x ≤ y)).toArray) os = w1 at hS hE1 ⊢
        have hml : L.length = (L.mergeSort fun x y => decide (x ≤ y)).length := by simp
        obtain ⟨M, hM⟩ : ∃ M, (L.mergeSort fun x y => decide (x ≤ y)) = M := ⟨_, rfl⟩
        have HM := Lib.hid hM
        rw [hM] at hS hml
        clear hM
        rw [hml] at hc1 hlen ⊢
        go_wp2_with fail
        go_at_call 22
        refine (Tryd.slices_Compact_int gq 0 cap M _ hS (by omega) hc1).mono ?_
        rintro e w2 ⟨rfl, q, rfl⟩
        have hcl := comp_le M
        have hC := cell?_putRow (Value.int .i64) (Sort.ahead w1 q) gq 0 M.toArray (Lib.compact M ++ List.replicate (M.length - (Lib.compact M).length) 0).toArray hS (by simp; omega)
        have hE2 := ext_grown hE1 (grownBy_sortedI (w := w1) (g := gq) (n := q) (os := #[]) (Lib.compact M ++ List.replicate (M.length - (Lib.compact M).length) 0).toArray) hg
        rw [grow_empty] at hE2
        have HC := Lib.hid (And.intro hC (And.intro hE2 hcl))
        clear hC hE2 hcl
        go_wp2_with fail
        go_ret
        unfold CompOut
        rw [HQ.out, HM.out]
        refine ⟨⟨some ⟨gq, 0, none⟩, cap, rfl, slr_holds fun j hj => ?_⟩, HC.out.2.1⟩
        rw [HC.out.1 j (by have := HC.out.2.2; simp; omega)]
        rw [app_get _ _ hj]
end Go.Proofs.YtpohnehcnonjhaaDoor
