/- Walk: audit.Whole. -/
import Derived.Test.YtpohnehcnonjhaaDoorWho
namespace Go.Proofs.YtpohnehcnonjhaaDoor
open Go.RowKit
set_option linter.unusedVariables false
set_option linter.unusedSimpArgs false
attribute [local go_sem] Oper.semAt_some

theorem Tryd.infoBool : (Tryd.prog.info? 4).map (fun i => (i.zero, i.size, i.bytes)) = some (some (.bool false), 1, 1) := by kernel_rfl
theorem ownS_made {w : World} {T : Nat} (hT : T ≤ maxLen) (g : Nat) (hg : w.heap.size = g) (e : TypeId) (z : Value) : OwnS (w.alloc (.cells (madeCells #[z] T) e)) g e 1 (.slice (some ⟨g, 0, none⟩) T T) T (fun _ => z) := by
  subst hg
  refine ⟨by simp, .inr ⟨w.heap.size, T, _, rfl, Nat.le_refl _, Deep.blk_alloc_new w _, Nat.le_refl _, hT, ?_, ?_⟩⟩
  · rw [size_madeCells]; omega
  · rw [toList_madeCells_one, Nat.mul_one, List.take_of_length_le (by simp)]; apply List.ext_getElem? ; intro k; by_cases hk : k < T <;> simp [hk]

theorem good_sum {P : Nat} {xs : List Pc} (h : GoodP P xs) : 0 ≤ sumP xs ∧ sumP xs ≤ P := by
  have h1 := cntTo_sum h.1
  have h2 := (cntTo_le h.2 P).1
  omega
theorem whole_res : Tryd.f24.results = #[.cell 8 4] := by kernel_rfl
/-- in[..] when the pages of pre, and those from a to q, are taken. -/
def inF (pre : List Pc) (a q : Nat) (j : Nat) : Value := .bool (decide (0 < cntP pre j ∨ (a ≤ j ∧ j < q)))
theorem inF_start (pre : List Pc) (a j : Nat) : inF pre 0 0 j = inF pre a a j := by unfold inF; congr 2; simp; omega
theorem inF_step {pre : List Pc} {a q j : Nat} (h : a ≤ q) : (if j = q then Value.bool true else inF pre a q j) = inF pre a (q + 1) j := by
  unfold inF
  by_cases e : j = q
  · subst e; rw [if_pos rfl]; congr 1; symm; rw [decide_eq_true_eq]; omega
  · rw [if_neg e]; congr 2; rw [eq_iff_iff]; omega
theorem inF_end {pre : List Pc} {x : Pc} {a n j : Nat} (ha : x.a = a) (hn : x.n = n) : inF pre a (a + n) j = inF (pre ++ [x]) 0 0 j := by
  unfold inF
  congr 2
  rw [cntP_snoc, eq_iff_iff]
  by_cases hb : covB x j = true
  · rw [if_pos hb]; have := covB_iff.1 hb; omega
  · rw [if_neg hb]
    have : ¬ (x.a ≤ (j : Int) ∧ (j : Int) < x.a + x.n) := fun h => hb (covB_iff.2 h)
    omega
theorem inF_nil (j : Nat) : inF [] 0 0 j = .bool false := by unfold inF; simp [cntP_nil]

set_option maxHeartbeats 400000 in
theorem whole_no (fA sA hA : Option Addr) (fn fc sn sc hn hc : Nat) (P : Int) (w : World) (hP : P < 1 ∨ 4096 < P) :
    Calls Tryd.prog 24 #[.int .i64 P, .slice fA fn fc, .slice sA sn sc, .slice hA hn hc] w fun e w' =>
      e = .returned (.bool false) ∧ Ext w w' := by
  have cN := (Boxed.new (w.alloc (.cells #[.int .i64 P] 3)) 4 (.bool false)).cell
  rw [World.size_alloc] at cN
  have HE := Lib.hid ((((Ext.refl w).alloc (.cells #[.int .i64 P] 3)).alloc (.cells #[.bool false] 4)))
  rcases hP with hP | hP
  · have d1 : decide (P < 1) = true := by simpa using hP
    go_enter Tryd.func24, Tryd.ntmps24
    go_wp2
    exact bodyPost_ret (v := .bool false) (by simp [results, whole_res, go_sem, cN]) rfl ⟨rfl, HE.out⟩
  · have d1 : decide (P < 1) = false := by simp; omega
    have d2 : decide (4096 < P) = true := by simpa using hP
    go_enter Tryd.func24, Tryd.ntmps24
    go_wp2
    exact bodyPost_ret (v := .bool false) (by simp [results, whole_res, go_sem, cN]) rfl ⟨rfl, HE.out⟩

set_option maxRecDepth 100000 in
set_option maxHeartbeats 4000000 in
theorem whole_yes (fr : List RunD) (sp : List SpanD) (hd : List HandD) (fA sA hA : Option Addr) (fc sc hc : Nat) (P : Nat) (w : World) (hfl : fr.length ≤ maxLen) (hsl : sp.length ≤ maxLen) (hhl : hd.length ≤ maxLen) (hP1 : 1 ≤ P) (hP2 : P ≤ 4096)
    (hF : RunsR w fA fr) (hS : SpansR w sA sp) (hH : HandsR w hA hd) :
    Calls Tryd.prog 24 #[.int .i64 P, .slice fA fr.length fc, .slice sA sp.length sc, .slice hA hd.length hc] w fun e w' =>
      e = .returned (.bool (B (WholeP P (pcs fr sp hd)))) ∧ Ext w w' := by
  refine (callsIn_wide (n := 8)).1 ?_
  refine callsIn_of_wp_marks Tryd.func24 rfl trivial ?_ rfl
  simp only [Tryd.ntmps24, List.size_toArray, List.length_cons, List.length_nil, Nat.reduceAdd, Nat.reduceSub, Array.replicate_succ, Array.replicate_zero, List.push_toArray, List.append_toArray, List.nil_append, List.cons_append]
  have HS := Lib.hid (And.intro (SlB.of hF (by omega)) (And.intro (SlB.of hS (by omega)) (SlB.of hH (by omega))))
  clear hF hS hH
  obtain ⟨B0, hB0⟩ : ∃ B0, w.heap.size = B0 := ⟨_, rfl⟩
  rw [hB0] at HS
  have hmk := run_make_row' (P := Tryd.prog) 71 4 (.bool false) 1 Tryd.underlying71 Tryd.infoBool rfl .i64 .i64 P (by omega) (by omega)
  have d1 : decide ((P : Int) < 1) = false := by simp; omega
  have d2 : decide ((4096 : Int) < (P : Int)) = false := by simp; omega
  have hPm : P ≤ maxLen := by unfold maxLen; omega
  gi_wp2_with (refine ⟨trivial, ?_⟩; gi_at_call 35; refine (pieces_in _ _ _ _ _ _ _ _ _ _ _).mono ?_; rintro e w' ⟨rfl, rfl⟩)
  clear hmk d1 d2
  have hg := allocs_get [.cells #[.int .i64 P] 3, .cells #[.bool false] 4, .cells (madeCells #[.bool false] P) 4, .cells #[.slice (some ⟨B0 + 1 + 1, 0, none⟩) P P] 71, .cells #[.int .i64 P] 3, .cells #[.slice fA fr.length fc] 48, .cells #[.slice sA sp.length sc] 36, .cells #[.slice hA hd.length hc] 66] w
  have hsz := allocs_size [.cells #[.int .i64 P] 3, .cells #[.bool false] 4, .cells (madeCells #[.bool false] P) 4, .cells #[.slice (some ⟨B0 + 1 + 1, 0, none⟩) P P] 71, .cells #[.int .i64 P] 3, .cells #[.slice fA fr.length fc] 48, .cells #[.slice sA sp.length sc] 36, .cells #[.slice hA hd.length hc] 66] w
  have hE := allocs_ext [.cells #[.int .i64 P] 3, .cells #[.bool false] 4, .cells (madeCells #[.bool false] P) 4, .cells #[.slice (some ⟨B0 + 1 + 1, 0, none⟩) P P] 71, .cells #[.int .i64 P] 3, .cells #[.slice fA fr.length fc] 48, .cells #[.slice sA sp.length sc] 36, .cells #[.slice hA hd.length hc] 66] w
  simp only [List.foldl] at hg hsz hE
  obtain ⟨W0, hW0⟩ : ∃ W0, (((((((w.alloc (.cells #[.int .i64 P] 3)).alloc (.cells #[.bool false] 4)).alloc (.cells (madeCells #[.bool false] P) 4)).alloc (.cells #[.slice (some ⟨B0 + 1 + 1, 0, none⟩) P P] 71)).alloc (.cells #[.int .i64 P] 3)).alloc (.cells #[.slice fA fr.length fc] 48)).alloc (.cells #[.slice sA sp.length sc] 36)).alloc (.cells #[.slice hA hd.length hc] 66) = W0 := ⟨_, rfl⟩
  rw [hW0] at hg hsz hE ⊢
  rw [hB0] at hg hsz
  clear hW0
  have b0 : Boxed W0 B0 3 (.int .i64 P) := hg 0 _ rfl
  have b1 : Boxed W0 (B0 + 1) 4 (.bool false) := hg 1 _ rfl
  have b3 : Boxed W0 (B0 + 1 + 1 + 1) 71 (.slice (some ⟨B0 + 1 + 1, 0, none⟩) P P) := hg 3 _ rfl
  have b4 : Boxed W0 (B0 + 1 + 1 + 1 + 1) 3 (.int .i64 P) := hg 4 _ rfl
  have b5 : Boxed W0 (B0 + 5) 48 (.slice fA fr.length fc) := hg 5 _ rfl
  have b6 : Boxed W0 (B0 + 5 + 1) 36 (.slice sA sp.length sc) := hg 6 _ rfl
  have b7 : Boxed W0 (B0 + 5 + 2) 66 (.slice hA hd.length hc) := hg 7 _ rfl
  have hrow : OwnS W0 (B0 + 1 + 1) 4 1 (.slice (some ⟨B0 + 1 + 1, 0, none⟩) P P) P (inF [] 0 0) := by
    have h := hg 2 _ rfl
    refine OwnS.congr (F := fun _ => .bool false) ?_ (fun j _ => (inF_nil j).symm)
    refine ⟨by simp, .inr ⟨B0 + 1 + 1, P, _, rfl, Nat.le_refl _, h, Nat.le_refl _, hPm, ?_, ?_⟩⟩
    · rw [size_madeCells]; omega
    · rw [toList_madeCells_one, Nat.mul_one, List.take_of_length_le (by simp)]; apply List.ext_getElem? ; intro k; by_cases hk : k < P <;> simp [hk]
  simp only [List.length_cons, List.length_nil] at hsz
  have hBw : Below B0 w W0 := by rw [← hB0]; exact hE
  clear hg hE
  refine wpIn_rangeFunc_ownH rfl (by omega) (gf := 53) (lb := #[.pointer (some ⟨B0 + 5, 0, none⟩), .pointer (some ⟨B0 + 5 + 1, 0, none⟩), .pointer (some ⟨B0 + 5 + 2, 0, none⟩)]) rfl trivial (enters_of Tryd.func53 (by kernel_rfl) rfl)
    (pieces_stops 7 (by omega) B0 (B0 + 5) fr sp hd fA sA hA fc sc hc hfl hsl hhl W0 (by omega) (by omega) b5 b6 b7 (HS.out.1.below hBw) (HS.out.2.1.below hBw) (HS.out.2.2.below hBw)) (fun h k => h.trans k) (fun W l o o' => KpB.put (by omega) (by omega) W l o o') (Below.refl _ _) (fun _ => rfl)
    (fun pre W => (((((GoodP P pre ∧ Boxed W B0 3 (.int .i64 P)) ∧ Boxed W (B0 + 1) 4 (.bool false)) ∧ Boxed W (B0 + 1 + 1 + 1) 71 (.slice (some ⟨B0 + 1 + 1, 0, none⟩) P P)) ∧ Boxed W (B0 + 1 + 1 + 1 + 1) 3 (.int .i64 (P - sumP pre))) ∧ OwnS W (B0 + 1 + 1) 4 1 (.slice (some ⟨B0 + 1 + 1, 0, none⟩) P P) P (inF pre 0 0)) ∧ (Below B0 w W ∧ B0 + 8 ≤ W.heap.size))
    (fun c pre W => ((c = .ret ∧ ¬ GoodP P pre) ∧ Boxed W (B0 + 1) 4 (.bool false)) ∧ Below B0 w W)
    (OwnFrom.and (OwnFrom.and (OwnFrom.and (OwnFrom.and (OwnFrom.and (OwnFrom.and (ownFrom_pure _ _) (Own.from (boxed_own _ _ _) _)) (Own.from (boxed_own _ _ _) _)) (Own.from (boxed_own _ _ _) _)) (Own.from (boxed_own _ _ _) _)) (Own.from (ownS_own _ _ _ _ _ _) _)) (OwnFrom.and (ownFrom_below (by omega) (by omega)) (ownFrom_size _ _)))
    (fun c => OwnFrom.and (OwnFrom.and (ownFrom_pure _ _) (Own.from (boxed_own _ _ _) _)) (ownFrom_below (by omega) (by omega)))
    ⟨⟨⟨⟨⟨⟨GoodP.nil _, b0⟩, b1⟩, b3⟩, by simpa [sumP] using b4⟩, hrow⟩, hBw, by omega⟩
    (fun x a' W => ∃ Bx, B0 + 8 ≤ Bx ∧ Blk W Bx 47 #[.int .i64 x.a, .int .i64 x.n] ∧ a' = { tmps := List.toArray ((.int .i64 P : Value) :: (.slice fA fr.length fc : Value) :: (.slice sA sp.length sc : Value) :: (.slice hA hd.length hc : Value) :: (.pointer (some ⟨B0, 0, none⟩) : Value) :: undef :: undef :: undef :: (.pointer (some ⟨B0 + 1, 0, none⟩) : Value) :: (.pointer (some ⟨B0 + 1 + 1 + 1, 0, none⟩) : Value) :: (.pointer (some ⟨B0 + 1 + 1 + 1 + 1, 0, none⟩) : Value) :: undef :: (.pointer (some ⟨Bx, 0, none⟩) : Value) :: undef :: (.int .i64 P : Value) :: (.bool false : Value) :: (.bool false : Value) :: (.int .i64 P : Value) :: (.bool false : Value) :: (.bool false : Value) :: (.int .i64 P : Value) :: (.slice (some ⟨B0 + 1 + 1, 0, none⟩) P P : Value) :: (.int .i64 P : Value) :: (.slice fA fr.length fc : Value) :: (.slice sA sp.length sc : Value) :: (.slice hA hd.length hc : Value) :: (.func (.func 53) #[] #[.pointer (some ⟨B0 + 5, 0, none⟩), .pointer (some ⟨B0 + 5 + 1, 0, none⟩), .pointer (some ⟨B0 + 5 + 2, 0, none⟩)] : Value) :: (.int .i64 x.kind : Value) :: (.agg #[.int .i64 x.a, .int .i64 x.n] : Value) :: undef :: undef :: undef :: undef :: undef :: undef :: undef :: undef :: undef :: undef :: undef :: undef :: undef :: undef :: undef :: undef :: undef :: undef :: undef :: undef :: undef :: undef :: undef :: undef :: undef :: undef :: undef :: undef :: undef :: undef :: undef :: undef :: undef :: undef :: undef :: undef :: []), defers := [] })
    (fun x a' _ X Y row hs hg hr => by obtain ⟨Bx, e1, e2, e3⟩ := hs; exact ⟨Bx, e1, blk_own Bx _ (fun (_ : Unit) => #[.int .i64 x.a, .int .i64 x.n]) () X Y row e2 hg (fun r e => (hr r e).2), e3⟩)
    ?assign ?body ?done ?stop
  case assign =>
    rintro l pre x W K ⟨⟨⟨⟨⟨⟨hg, b0⟩, b1⟩, b3⟩, b4⟩, hrow⟩, hBW, hs1⟩ hK
    simp only [encPc]
    gi_wp2
    exact hK _ _ ((KeepsOthers.alloc _ _).from _) ((KpB.refl _ _ _).alloc (by omega) (by omega) _) ⟨⟨⟨⟨⟨⟨hg, b0.alloc _⟩, b1.alloc _⟩, b3.alloc _⟩, b4.alloc _⟩, hrow.ext ((Ext.refl _).alloc _)⟩, hBW.alloc (by omega) _, by simp; omega⟩ ⟨W.heap.size, by omega, Blk.new _ _ _ _ rfl, rfl⟩
  case body =>
    rintro l pre x a' W hl ⟨r, hr⟩ ⟨⟨⟨⟨⟨⟨hg, b0⟩, b1⟩, b3⟩, b4⟩, hrow⟩, hBW, hs1⟩ ⟨Bx, hBx, bX, rfl⟩ hlt
    have HH := Lib.hid (And.intro hg (And.intro b0 (And.intro b1 (And.intro b3 (And.intro b4 (And.intro hrow hBW))))))
    obtain ⟨o, ho⟩ : ∃ o : Obj, Obj.cells #[.int .i64 x.a, .int .i64 x.n] 47 = o := ⟨_, rfl⟩
    have x0 := bX.cell (i := 0) (v := .int .i64 x.a) rfl
    have x1 := bX.cell (i := 1) (v := .int .i64 x.n) rfl
    have x0' := (bX.alloc (.cells #[.int .i64 x.a, .int .i64 x.n] 47)).cell (i := 0) (v := .int .i64 x.a) rfl
    have x1' := (bX.alloc (.cells #[.int .i64 x.a, .int .i64 x.n] 47)).cell (i := 1) (v := .int .i64 x.n) rfl
    have c0 := (b0.alloc (.cells #[.int .i64 x.a, .int .i64 x.n] 47)).cell
    have c1 := (b1.alloc (.cells #[.int .i64 x.a, .int .i64 x.n] 47)).cell
    have f1 := (b1.alloc (.cells #[.int .i64 x.a, .int .i64 x.n] 47)).frozen
    have HX := Lib.hid bX
    have HO := Lib.hid ho
    clear hg b0 b1 b3 b4 hrow bX hlt hr ho
    by_cases hm : MayPc x
    · have hB : B (MayPc x) = true := B_yes hm
      have hm' := hm
      have HM := Lib.hid hm
      obtain ⟨m1, m2, m3, m4⟩ := hm'
      clear hm
      by_cases hfit : x.a + x.n ≤ P
      · have d1 : decide ((P : Int) < x.a + x.n) = false := by simp; omega
        gi_wp2_with (refine ⟨trivial, ?_⟩; gi_at_call 36; refine (CallsIn.inRound l (callsIn_wide.2 (mayPc_any x _))).mono ?_; rintro e w' ⟨rfl, rfl⟩)
        obtain ⟨kd, xa, xn⟩ := x
        dsimp only at *
        obtain ⟨a, rfl⟩ := Int.eq_ofNat_of_zero_le m1
        obtain ⟨n, rfl⟩ := Int.eq_ofNat_of_zero_le (show 0 ≤ xn by omega)
        obtain ⟨W1, hW1⟩ : ∃ W1, W.alloc (.cells #[.int .i64 a, .int .i64 n] 47) = W1 := ⟨_, rfl⟩
        have hk1 : KeepsFrom W0.heap.size W W1 := by rw [← hW1]; exact (KeepsOthers.alloc _ _).from _
        have hp1 : KpB B0 (B0 + 5) W W1 := by rw [← hW1]; exact (KpB.refl _ _ _).alloc (by omega) (by omega) _
        have hb1 : Below B0 w W1 := by rw [← hW1]; exact HH.out.2.2.2.2.2.2.alloc (by omega) _
        have hz1 : B0 + 8 ≤ W1.heap.size := by rw [← hW1]; simp; omega
        have e0 : Boxed W1 B0 3 (.int .i64 P) := by rw [← hW1]; exact HH.out.2.1.alloc _
        have e1 : Boxed W1 (B0 + 1) 4 (.bool false) := by rw [← hW1]; exact HH.out.2.2.1.alloc _
        have e3 : Boxed W1 (B0 + 1 + 1 + 1) 71 (.slice (some ⟨B0 + 1 + 1, 0, none⟩) P P) := by rw [← hW1]; exact HH.out.2.2.2.1.alloc _
        have e4 : Boxed W1 (B0 + 1 + 1 + 1 + 1) 3 (.int .i64 (P - sumP pre)) := by rw [← hW1]; exact HH.out.2.2.2.2.1.alloc _
        have eX : Blk W1 Bx 47 #[.int .i64 a, .int .i64 n] := by rw [← hW1]; exact HX.out.alloc _
        have eR : OwnS W1 (B0 + 1 + 1) 4 1 (.slice (some ⟨B0 + 1 + 1, 0, none⟩) P P) P (inF pre a a) := by rw [← hW1]; exact (HH.out.2.2.2.2.2.1.ext ((Ext.refl _).alloc _)).congr (fun j _ => inF_start pre a j)
        rw [hW1]
        have hsum := good_sum HH.out.1
        clear hW1 d1 x0 x1 x0' x1' c0 c1 f1 HO
        gi_loopw [13] (fun i wr => ∃ q : Nat, a ≤ q ∧ q ≤ a + n ∧ i = .int .i64 q ∧ (KeepsFrom W0.heap.size W wr ∧ KpB B0 (B0 + 5) W wr ∧ Below B0 w wr ∧ B0 + 8 ≤ wr.heap.size) ∧
          (Boxed wr B0 3 (.int .i64 P) ∧ Boxed wr (B0 + 1) 4 (.bool false) ∧ Boxed wr (B0 + 1 + 1 + 1) 71 (.slice (some ⟨B0 + 1 + 1, 0, none⟩) P P) ∧ Boxed wr (B0 + 1 + 1 + 1 + 1) 3 (.int .i64 (P - sumP pre)) ∧ Blk wr Bx 47 #[.int .i64 a, .int .i64 n]) ∧
          OwnS wr (B0 + 1 + 1) 4 1 (.slice (some ⟨B0 + 1 + 1, 0, none⟩) P P) P (inF pre a q) ∧ ∀ j : Nat, a ≤ j → j < q → cntP pre j = 0) (fun i _ => a + n - (intOf i).toNat)
        case atStart => exact ⟨a, Nat.le_refl _, by omega, rfl, ⟨hk1, hp1, hb1, hz1⟩, ⟨e0, e1, e3, e4, eX⟩, eR, fun j h1 h2 => absurd h2 (by omega)⟩
        case round =>
          clear hk1 hp1 hb1 hz1 e0 e1 e3 e4 eX eR
          obtain ⟨q, hq1, hq2, rfl, hw, ⟨b0, b1, b3, b4, bX⟩, hrow, hall⟩ := hrel
          have HR := Lib.hid (And.intro hw (And.intro (And.intro b0 (And.intro b1 (And.intro b3 (And.intro b4 bX)))) (And.intro hrow hall)))
          have x0 := bX.cell (i := 0) (v := .int .i64 a) rfl
          have x1 := bX.cell (i := 1) (v := .int .i64 n) rfl
          by_cases hlt : q < a + n
          · have cI := b3.cell
            have cq := hrow.cellAt (j := q) (by omega)
            have fq := hrow.frozenAt q
            have c1 := b1.cell
            have f1 := b1.frozen
            have g0 : (0 : Int) ≤ (q : Int) := by omega
            have g1 : (q : Int) < (P : Int) := by omega
            by_cases hc : cntP pre q = 0
            · have cq2 : inF pre a q q = .bool false := by unfold inF; congr 1; rw [decide_eq_false_iff_not]; omega
              rw [cq2] at cq
              have HC := Lib.hid hc
              clear b0 b1 b3 b4 bX hw hrow hall hc cq2
              gi_wp2
              obtain ⟨⟨kf, kp, bl, hz⟩, ⟨b0, b1, b3, b4, bX⟩, hrow, hall⟩ := HR.out
              go_roundw
              case rel => exact ⟨q + 1, by omega, by omega, by simp, ⟨kf.trans ((KeepsOthers.setCell _ _ _).from _), kp.setCell (p := ⟨B0 + 1 + 1, q, none⟩) (by simp; omega) (by simp) _, bl.setCell (p := ⟨B0 + 1 + 1, q, none⟩) (by simp; omega) _, by simp; omega⟩, ⟨Boxed_far b0 (p := ⟨B0 + 1 + 1, q, none⟩) (by dsimp only; omega) _, Boxed_far b1 (p := ⟨B0 + 1 + 1, q, none⟩) (by dsimp only; omega) _, Boxed_far b3 (p := ⟨B0 + 1 + 1, q, none⟩) (by dsimp only; omega) _, Boxed_far b4 (p := ⟨B0 + 1 + 1, q, none⟩) (by dsimp only; omega) _, bX.far (p := ⟨B0 + 1 + 1, q, none⟩) (by dsimp only; omega) _⟩, (hrow.set q (.bool true)).congr (fun j _ => inF_step hq1), fun j h1 h2 => by
                by_cases e : j = q
                · subst e; exact HC.out
                · exact hall j h1 (by omega)⟩
              case measure => simp [intOf]; omega
            · have cq2 : inF pre a q q = .bool true := by unfold inF; congr 1; rw [decide_eq_true_eq]; omega
              rw [cq2] at cq
              have HC := Lib.hid hc
              clear b0 b1 b3 b4 bX hw hrow hall hc cq2
              gi_wp2
              obtain ⟨⟨kf, kp, bl, hz⟩, ⟨b0, b1, b3, b4, bX⟩, hrow, hall⟩ := HR.out
              exact ⟨kf.trans ((KeepsOthers.setCell _ _ _).from _), ⟨⟨rfl, bad_cov (p := q) (by show (a : Int) ≤ q; omega) (by show (q : Int) < a + n; omega) HC.out⟩, b1.set _⟩, bl.setCell (p := ⟨B0 + 1, 0, none⟩) (by simp) _⟩
          · obtain rfl : q = a + n := by omega
            have c4 := b4.cell
            have f4 := b4.frozen
            clear b0 b1 b3 b4 bX hw hrow hall
            gi_wp2
            obtain ⟨⟨kf, kp, bl, hz⟩, ⟨b0, b1, b3, b4, bX⟩, hrow, hall⟩ := HR.out
            have es : (P : Int) - sumP (pre ++ [⟨kd, a, n⟩]) = P - sumP pre - n := by rw [sumP_snoc]; show (P : Int) - (sumP pre + n) = _; omega
            have hg2 : GoodP P (pre ++ [⟨kd, a, n⟩]) := HH.out.1.snoc HM.out hfit (fun p h1 h2 => by
              have k1 : (a : Int) ≤ p := h1
              have k2 : p < (a : Int) + n := h2
              obtain ⟨j, rfl⟩ := Int.eq_ofNat_of_zero_le (show 0 ≤ p by omega)
              exact hall j (by omega) (by omega))
            exact ⟨kf.trans ((KeepsOthers.setCell _ _ _).from _), kp.setCell (p := ⟨B0 + 1 + 1 + 1 + 1, 0, none⟩) (by simp; omega) (by simp) _, ⟨⟨⟨⟨⟨hg2, b0.other (by omega) _⟩, b1.other (by omega) _⟩, b3.other (by omega) _⟩, by rw [es]; exact b4.set _⟩, (hrow.setOther (p := ⟨B0 + 1 + 1 + 1 + 1, 0, none⟩) (by simp [Value.ownBlock]) _).congr (fun j _ => inF_end rfl rfl)⟩, bl.setCell (p := ⟨B0 + 1 + 1 + 1 + 1, 0, none⟩) (by simp; omega) _, by simp; omega⟩
      · have d1 : decide ((P : Int) < x.a + x.n) = true := by simp; omega
        have HBad := Lib.hid (bad_may (P := P) (xs := pre) (x := x) (fun h => hfit h.2))
        gi_wp2_with (refine ⟨trivial, ?_⟩; gi_at_call 36; refine (CallsIn.inRound l (callsIn_wide.2 (mayPc_any x _))).mono ?_; rintro e w' ⟨rfl, rfl⟩)
        exact ⟨((KeepsOthers.alloc _ _).trans (KeepsOthers.setCell _ _ _)).from _, ⟨⟨rfl, HBad.out⟩, (HH.out.2.2.1.alloc _).set _⟩, (HH.out.2.2.2.2.2.2.alloc (by omega) _).setCell (p := ⟨B0 + 1, 0, none⟩) (by simp) _⟩
    · have hB : B (MayPc x) = false := B_no hm
      have HBad := Lib.hid (bad_may (P := P) (xs := pre) (x := x) (fun h => hm h.1))
      clear hm
      gi_wp2_with (refine ⟨trivial, ?_⟩; gi_at_call 36; refine (CallsIn.inRound l (callsIn_wide.2 (mayPc_any x _))).mono ?_; rintro e w' ⟨rfl, rfl⟩)
      exact ⟨((KeepsOthers.alloc _ _).trans (KeepsOthers.setCell _ _ _)).from _, ⟨⟨rfl, HBad.out⟩, (HH.out.2.2.1.alloc _).set _⟩, (HH.out.2.2.2.2.2.2.alloc (by omega) _).setCell (p := ⟨B0 + 1, 0, none⟩) (by simp) _⟩
  case done =>
    rintro D ys W hD rfl ⟨⟨⟨⟨⟨⟨hg, b0⟩, b1⟩, b3⟩, b4⟩, hrow⟩, hBW, hs1⟩ hK
    have c4 := b4.cell
    have c1 := b1.cell
    have f1 := b1.frozen
    have HG := Lib.hid hg
    clear hg
    gi_wp2
    obtain ⟨v, hv⟩ : ∃ v, Value.bool ((P : Int) - sumP (pcs fr sp hd) == 0) = v := ⟨_, rfl⟩
    have hval : v = .bool (B (WholeP P (pcs fr sp hd))) := by
      rw [← hv]
      congr 1
      refine B_of ?_
      rw [beq_iff_eq]
      exact ⟨fun h => ⟨by omega, by omega, HG.out, by omega⟩, fun h => by have := h.2.2.2; omega⟩
    rw [hv]
    have hK' := (KeepsOthers.setCell W ⟨B0 + 1, 0, none⟩ v).same D _ hK rfl
    have e1 := b1.set v
    have hB' := hBW.setCell (p := ⟨B0 + 1, 0, none⟩) (by simp) v
    refine ⟨by simp, .inl ⟨_, _, rfl, run_takeDeferred hK', ?_⟩⟩
    have k1 := cell_kept e1.cell (grownBy_putObj' _ D (.deferred none)) (fun r e => by cases e; exact ⟨_, hK', rfl⟩)
    refine ⟨v, ?_, by rw [hval], ?_⟩
    · simp [results, whole_res, go_sem, k1]
    · show Below w.heap.size w _
      rw [hB0]
      exact hB'.trans (belowK_b (w := w) (by omega) _ D _ _ (by omega) hK' rfl rfl)
  case stop =>
    rintro D c pre W hD hpre ⟨⟨⟨rfl, hbad⟩, b1⟩, hBW⟩ hK
    have c1 := b1.cell
    have hno : B (WholeP P (pcs fr sp hd)) = false := B_no (fun h => hbad (h.2.2.1.pre hpre))
    have HNO := Lib.hid hno
    clear hno
    gi_wp2
    refine ⟨by simp, .inl ⟨_, _, rfl, run_takeDeferred hK, ?_⟩⟩
    have k1 := cell_kept b1.cell (grownBy_putObj' _ D (.deferred none)) (fun r e => by cases e; exact ⟨_, hK, rfl⟩)
    refine ⟨.bool false, ?_, by rw [HNO.out], ?_⟩
    · simp [results, whole_res, go_sem, k1]
    · show Below w.heap.size w _
      rw [hB0]
      exact hBW.trans (belowK_b (w := w) (by omega) _ D _ _ (by omega) hK rfl rfl)
end Go.Proofs.YtpohnehcnonjhaaDoor
