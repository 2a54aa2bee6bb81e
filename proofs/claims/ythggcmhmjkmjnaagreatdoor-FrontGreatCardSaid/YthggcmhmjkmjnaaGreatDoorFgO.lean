/- FrontGreat: what the evaluation knows (printed by gen_fg.py). -/
import Derived.Test.YthggcmhmjkmjnaaGreatDoorFgS
namespace Go.Proofs.YthggcmhmjkmjnaaGreatDoor
open Go.RowKit Go.IntWalk
set_option linter.unusedVariables false
set_option linter.unusedSimpArgs false
set_option maxRecDepth 100000
def FgF : List FnEnt := [⟨7, [], .bool true⟩]
def isU64 : Value → Bool
  | .int .u64 _ => true
  | _ => false
def mkC (f : FuncId) (args : Array Value) (w : World) : Option (Array Value × TypeId) := if f == 18 then match args.toList with
  | [.complex .f32 b 0] => match w.heap[b]? with
    | some (.cells cs e _) => if cs.toList.all isU64 && cs.size == 77 then some (cs, e) else none
    | _ => none
  | _ => none else none
def sameW (f : FuncId) (args : Array Value) (w : World) : Option Value := if f == 11 then match args.toList with
  | [.complex .f32 a 0, .complex .f32 b 0] => match w.heap[a]?, w.heap[b]? with
    | some (.cells x _ _), some (.cells y _ _) => if beqL (beqV 4) x.toList y.toList && x.toList.all isU64 && x.size == 77 then some (.bool true) else none
    | _, _ => none
  | _ => none else none
def orcF (es : List Ent) : Orc := { op := (orcL es (fsL FgF)).op, fn := fun f args w => match fsL FgF f args with | some v => some v | none => sameW f args w, long := true, mkL := mkC }
section
variable {σ : Nat → Value} {W0 : World} {H : Nat}
theorem isU64_eq {v : Value} (h : isU64 v = true) : ∃ n, v = .int .u64 n := by
  cases v with
  | int k n => cases k <;> first | exact ⟨n, rfl⟩ | (cases h; done)
  | _ => cases h
def fU (x : Array Value) (j : Nat) : Int := match x[j]? with
  | some (.int _ n) => n
  | _ => 0
theorem cell_of {w : World} {b : Nat} {cs : Array Value} {e : TypeId} {fz : Nat × Nat} (h : w.heap[b]? = some (.cells cs e fz)) (j : Nat) : w.cell? ⟨b, j, none⟩ = cs[j]? := by
  unfold World.cell?
  simp only [h]
  rfl
/-- A long row reads as its first cells, and zeros. -/
theorem longReads {Γ : Gst} {A : Ren} {w w' : World} (hw : WR σ W0 H Γ A w w') {b : Nat} (ht : A.t b) {x : Array Value} {e : TypeId} {fz : Nat × Nat} (hx : w.heap[b]? = some (.cells x e fz)) (hu : x.toList.all isU64 = true) (hs : x.size = 77) :
    ∃ (L : Int) (cs' : Array Value) (e' : TypeId) (fz' : Nat × Nat), σ 0 = .int .i64 L ∧ 77 ≤ L ∧ w'.heap[A.f b]? = some (.cells cs' e' fz') ∧ L.toNat ≤ cs'.size ∧ ∀ j, j < L.toNat → cs'[j]? = some (.int .u64 (fU x j)) := by
  obtain ⟨hd, _, L, cs', e', fz', h1, h2, h3, h4, h5⟩ := hw.long b ht
  refine ⟨L, cs', e', fz', h1, h2, h3, h4, fun j hj => ?_⟩
  rcases hw.obj b _ hx with ⟨c, e2, he⟩ | ⟨cs0, e0, fz0, cs2, e2, fz2, he, k2, k3, _⟩
  · cases he
  cases he
  rw [h3] at k2
  cases k2
  by_cases hj7 : j < 77
  · have hjx : j < x.size := by omega
    obtain ⟨n, hn⟩ := isU64_eq (all_get hu (Array.getElem?_eq_getElem hjx))
    obtain ⟨v', m1, m2⟩ := k3.2 j _ (Array.getElem?_eq_getElem hjx)
    rw [hn] at m2
    cases m2
    rw [m1]
    unfold fU
    rw [Array.getElem?_eq_getElem hjx, hn]
  · rw [h5 j (by omega) hj]
    unfold fU
    rw [Array.getElem?_eq_none (by omega)]
theorem long_inv {A : Ren} {b : Nat} {u : Value} (h : RV σ A (.complex .f32 b 0) u) : ∃ (c : Nat) (L : Int), A.d b ∧ A.t b ∧ σ 0 = .int .i64 L ∧ u = .slice (some ⟨A.f b, 0, none⟩) L.toNat c := by
  cases h with
  | long _ c L h1 h2 h3 => exact ⟨c, L, h1, h2, h3, rfl⟩
  | grow _ _ n r c h1 h2 => exfalso; omega
  | gptr _ _ n i r c h1 h2 h3 h4 => exfalso; omega
theorem orcF_ok {es : List Ent} (hes : AllOK Tryz.prog σ es) (hσ : ∀ j, σ j ≠ .nilIface) (hfs : ∀ e ∈ FgF, FnOK Tryz.prog σ W0 H e) (hL : ∃ L : Int, σ 0 = .int .i64 L ∧ 77 ≤ L ∧ L ≤ 1000000) : OrcOK Tryz.prog σ W0 H (orcF es) := by
  have h := orcL_ok (W0 := W0) (H := H) hes hσ (fsL_ok hfs)
  obtain ⟨L, hL0, hL1, hL2⟩ := hL
  refine ⟨h.op, ?_, fun _ => ⟨L, hL0, hL1, hL2⟩, ?_⟩
  · intro f args args' v Γ A w w' hf ha hw
    simp only [orcF] at hf
    split at hf
    · rename_i u hu
      cases hf
      exact h.fn f args args' _ Γ A w w' hu ha hw
    · unfold sameW at hf
      split at hf
      case isFalse => cases hf
      rename_i hff
      have hff := eq_of_beq hff
      subst hff
      split at hf
      case h_2 => cases hf
      rename_i a b hab
      split at hf
      case h_2 => cases hf
      rename_i x e1 z1 y e2 z2 hx hy
      split at hf
      case isFalse => cases hf
      rename_i hc
      cases hf
      rw [Bool.and_eq_true, Bool.and_eq_true, beq_iff_eq] at hc
      obtain ⟨⟨hxy, hu⟩, hs⟩ := hc
      have hxy2 : x = y := Array.ext' (beqL_eq (fun x y h => beqV_eq h) hxy)
      subst hxy2
      have eargs : args = #[.complex .f32 a 0, .complex .f32 b 0] := Array.ext' (by simpa using hab)
      subst eargs
      obtain ⟨u1, u2, rfl⟩ : ∃ u1 u2, args' = #[u1, u2] := by
        have := ha.1
        obtain ⟨l⟩ := args'
        simp at this
        match l, this with
        | [p, q], _ => exact ⟨p, q, rfl⟩
      have r1 : RV σ A (.complex .f32 a 0) u1 := ha.2 0 _ _ rfl rfl
      have r2 : RV σ A (.complex .f32 b 0) u2 := ha.2 1 _ _ rfl rfl
      obtain ⟨c1, L1, d1, t1, s1, rfl⟩ := long_inv r1
      obtain ⟨c2, L2, d2, t2, s2, rfl⟩ := long_inv r2
      obtain ⟨L3, cs1, _, _, g0, g1, g2, g3, g4⟩ := longReads hw t1 hx hu hs
      obtain ⟨L4, cs2, _, _, k0, k1, k2, k3, k4⟩ := longReads hw t2 hy hu hs
      rw [hL0] at s1 s2 g0 k0
      cases s1; cases s2; cases g0; cases k0
      refine (sameW_any L.toNat (fU x) (A.f a) (A.f b) c1 c2 w' (by omega) (fun j hj => (cell_of g2 j).trans (g4 j hj)) (fun j hj => (cell_of k2 j).trans (k4 j hj))).mono ?_
      rintro e w'' ⟨rfl, hE⟩
      exact ⟨_, rfl, .bool true, hE⟩
  · intro f args args' cs e Γ A w w' hf ha hw
    change mkC f args w = some (cs, e) at hf
    unfold mkC at hf
    split at hf
    case isFalse => cases hf
    rename_i hff
    have hff := eq_of_beq hff
    subst hff
    split at hf
    case h_2 => cases hf
    rename_i b hab
    split at hf
    case h_2 => cases hf
    rename_i x e1 z1 hx
    split at hf
    case isFalse => cases hf
    rename_i hc
    cases hf
    rw [Bool.and_eq_true, beq_iff_eq] at hc
    obtain ⟨hu, hs⟩ := hc
    have eargs : args = #[.complex .f32 b 0] := Array.ext' (by simpa using hab)
    subst eargs
    obtain ⟨u1, rfl⟩ : ∃ u1, args' = #[u1] := by
      have := ha.1
      obtain ⟨l⟩ := args'
      simp at this
      match l, this with
      | [p], _ => exact ⟨p, rfl⟩
    have r1 : RV σ A (.complex .f32 b 0) u1 := ha.2 0 _ _ rfl rfl
    obtain ⟨c1, L1, d1, t1, s1, rfl⟩ := long_inv r1
    obtain ⟨L3, cs1, _, _, g0, g1, g2, g3, g4⟩ := longReads hw t1 hx hu hs
    rw [hL0] at s1 g0
    cases s1; cases g0
    refine (clone64_any L.toNat (fU cs) (A.f b) c1 w' (by omega) (fun j hj => (cell_of g2 j).trans (g4 j hj))).mono ?_
    rintro q w'' ⟨v', rfl, ⟨hlen, hor⟩, hnil, hE⟩
    rcases hor with ⟨h1, _⟩ | ⟨g, cap, cur, rfl, hg, hh, hn, _, hsz, htk⟩
    · exact absurd h1 hnil
    rw [Nat.mul_one] at hsz htk
    have hcur : ∀ j, j < L.toNat → cur[j]? = some (.int .u64 (fU cs j)) := by
      intro j hj
      rw [← Array.getElem?_toList]
      have h5 : (cur.toList.take L.toNat)[j]? = cur.toList[j]? := by rw [List.getElem?_take, if_pos hj]
      rw [← h5, htk, List.getElem?_map, List.getElem?_range hj]
      rfl
    refine ⟨g, L, cap, cur, _, rfl, hE, hg, hh, ⟨by omega, fun i v hv => ?_⟩, hL0, hL1, by omega, fun j hj hjl => ?_, by omega⟩
    · have hi : i < cs.size := by
        rcases Nat.lt_or_ge i cs.size with h6 | h6
        · exact h6
        · rw [Array.getElem?_eq_none h6] at hv; cases hv
      refine ⟨_, hcur i (by omega), ?_⟩
      obtain ⟨n, hn2⟩ := isU64_eq (all_get hu hv)
      subst hn2
      have : fU cs i = n := by unfold fU; rw [hv]
      rw [this]
      exact .int _ _
    · rw [hcur j hjl]
      unfold fU
      rw [Array.getElem?_eq_none (by omega)]
end
theorem ev_fg {l : List Value} (hl : TokL l) {es : List Ent} {w : World} (hes : AllOK Tryz.prog (sgV l) es) (hA : ∀ w', Below w.heap.size w w' → Calls Tryz.prog 7 #[] w' fun e w'' => e = .returned (.bool true) ∧ Ext w' w'') {L : Int} (h0 : l[0]? = some (.int .i64 L)) (h1 : 77 ≤ L) (h2 : L ≤ 1000000) {G : Nat} {tabs : List (Nat × Array Value)} (hG : G ≤ w.heap.size) (hT : TabR w tabs) {n : Nat} {f : FuncId} {args : Array Value} {v : Value}
    (hc : closedN 8 v = true) (ha : args.toList.all (tokC 4) = true) (h : (evCall (ev Tryz.prog (orcF es) G n) Tryz.prog (orcF es) [] f args (baseWorld G tabs)).map (·.1) = some v) :
    Calls Tryz.prog f (args.toList.map (tokV (sgV l) 4)).toArray w fun e w' => e = .returned v ∧ Ext w w' := by
  refine ev_val (sgV_one hl) (orcF_ok hes (sgV_ne hl) (fun e he => ?_) ⟨L, by unfold sgV; rw [h0]; rfl, h1, h2⟩) hG hT hc ha h
  obtain rfl : e = ⟨7, [], .bool true⟩ := by simpa [FgF] using he
  exact FnOK.mk rfl fun w' hw' => hA w' hw'
end Go.Proofs.YthggcmhmjkmjnaaGreatDoor
