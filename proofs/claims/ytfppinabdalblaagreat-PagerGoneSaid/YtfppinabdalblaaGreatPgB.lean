/- PagerGone: what is known ahead: words read, words of ones, bits. -/
import Derived.Test.YtfppinabdalblaaGreatPgA
namespace Go.Proofs.YtfppinabdalblaaGreat
open Go.RowKit Go.IntWalk
set_option linter.unusedVariables false
set_option linter.unusedSimpArgs false
section
variable {P : Program} {σ : Nat → Value}
theorem ent_shl0 {t : TypeId} {x : Value} {a : Nat} (ha : a < 18446744073709551616) (h1 : tokV σ 4 x = .int .u64 (a : Int)) (hc : tokC 4 x = true) : EntOK P σ ⟨.bin .shl t, [x, vI 0], x⟩ := by
  refine ⟨_, fun w => ?_, fun A => tok_rv hc⟩
  have h2 : tokV σ 4 (vI 0) = .int .i64 0 := rfl
  simp only [List.map_cons, List.map_nil, h1, h2, semK]
  rw [guard_int]
  have e : IntKind.u64.wrap ((a : Int) * 1) = (a : Int) := by rw [IntKind.wrap_u64]; omega
  simp [binOp, Op.shift, go_sem, e]
  have e2 : IntKind.u64.wrap (a : Int) = (a : Int) := by rw [IntKind.wrap_u64]; omega
  exact e2
theorem ent_min {ts : Array TypeId} {x y r : Value} {k : IntKind} {a c b : Int} (h1 : tokV σ 4 x = .int k a) (h2 : tokV σ 4 y = .int k c) (hb : b = if c < a then c else a) (hr : tokV σ 4 r = .int k b) (hc : tokC 4 r = true) : EntOK P σ ⟨.mn ts, [x, y], r⟩ := by
  refine ⟨_, fun w => ?_, fun A => tok_rv hc⟩
  simp only [List.map_cons, List.map_nil, h1, h2, hr, semK]
  simp [Builtin.min_, Builtin.min2, go_sem, hb]
theorem ent_andN {t : TypeId} {x y r : Value} {a c b : Nat} (ha : a < 18446744073709551616) (hc2 : c < 18446744073709551616) (h1 : tokV σ 4 x = .int .u64 (a : Int)) (h2 : tokV σ 4 y = .int .u64 (c : Int)) (hb : b = a &&& c) (hr : tokV σ 4 r = .int .u64 (b : Int)) (hc : tokC 4 r = true) : EntOK P σ ⟨.bin .and t, [x, y], r⟩ := by
  refine ent_and h1 h2 ?_ hc
  rw [hr, hb]
  exact congrArg (Value.int .u64) (u64_and_nat a c ha hc2).symm
theorem ent_neg {x r : Value} {v b : Nat} (hv : 0 < v) (hb : b + v = 18446744073709551616) (h1 : tokV σ 4 x = .int .u64 (v : Int)) (hr : tokV σ 4 r = .int .u64 (b : Int)) (hc : tokC 4 r = true) : EntOK P σ ⟨.un .neg, [x], r⟩ := by
  refine ⟨_, fun w => ?_, fun A => tok_rv hc⟩
  simp only [List.map_cons, List.map_nil, h1, hr, semK]
  have e : IntKind.u64.wrap (-(v : Int)) = (b : Int) := by rw [IntKind.wrap_u64]; omega
  simp [Op.unary, go_sem, e]
theorem ent_addw {t : TypeId} {x y r : Value} {a c b : Nat} (hb : (a + c) % 18446744073709551616 = b) (h1 : tokV σ 4 x = .int .u64 (a : Int)) (h2 : tokV σ 4 y = .int .u64 (c : Int)) (hr : tokV σ 4 r = .int .u64 (b : Int)) (hc : tokC 4 r = true) : EntOK P σ ⟨.bin .add t, [x, y], r⟩ := by
  refine ent_add h1 h2 ?_ hc
  rw [hr]
  refine congrArg (Value.int .u64) ?_
  rw [IntKind.wrap_u64]
  omega
theorem eA {t : TypeId} {x y r : Value} (a c b : Int) (h : a + c = b ∧ -9223372036854775808 ≤ b ∧ b ≤ 9223372036854775807) (h1 : tokV σ 4 x = .int .i64 a := by rfl) (h2 : tokV σ 4 y = .int .i64 c := by rfl) (hr : tokV σ 4 r = .int .i64 b := by rfl) (hc : tokC 4 r = true := by rfl) : EntOK P σ ⟨.bin .add t, [x, y], r⟩ :=
  ent_add h1 h2 (by rw [hr]; exact congrArg (Value.int .i64) ((i64_in (a + c) (by omega)).trans h.1).symm) hc
theorem eS {t : TypeId} {x y r : Value} (a c b : Int) (h : a - c = b ∧ -9223372036854775808 ≤ b ∧ b ≤ 9223372036854775807) (h1 : tokV σ 4 x = .int .i64 a := by rfl) (h2 : tokV σ 4 y = .int .i64 c := by rfl) (hr : tokV σ 4 r = .int .i64 b := by rfl) (hc : tokC 4 r = true := by rfl) : EntOK P σ ⟨.bin .sub t, [x, y], r⟩ :=
  ent_sub h1 h2 (by rw [hr]; exact congrArg (Value.int .i64) ((i64_in (a - c) (by omega)).trans h.1).symm) hc
theorem eM {t : TypeId} {x y r : Value} (a c b : Int) (h : a * c = b ∧ -9223372036854775808 ≤ b ∧ b ≤ 9223372036854775807) (h1 : tokV σ 4 x = .int .i64 a := by rfl) (h2 : tokV σ 4 y = .int .i64 c := by rfl) (hr : tokV σ 4 r = .int .i64 b := by rfl) (hc : tokC 4 r = true := by rfl) : EntOK P σ ⟨.bin .mul t, [x, y], r⟩ :=
  ent_mul h1 h2 (by rw [hr]; exact congrArg (Value.int .i64) ((i64_in (a * c) (by omega)).trans h.1).symm) hc
theorem elssT {t : TypeId} {x y : Value} (a c : Int) (h : a < c) (h1 : tokV σ 4 x = .int .i64 a := by rfl) (h2 : tokV σ 4 y = .int .i64 c := by rfl) : EntOK P σ ⟨.bin .lss t, [x, y], .bool true⟩ := ent_cmp (op := .lss) h1 h2 (decide_eq_true (by omega)).symm
theorem elssF {t : TypeId} {x y : Value} (a c : Int) (h : ¬ (a < c)) (h1 : tokV σ 4 x = .int .i64 a := by rfl) (h2 : tokV σ 4 y = .int .i64 c := by rfl) : EntOK P σ ⟨.bin .lss t, [x, y], .bool false⟩ := ent_cmp (op := .lss) h1 h2 (decide_eq_false (by omega)).symm
theorem eleqT {t : TypeId} {x y : Value} (a c : Int) (h : a ≤ c) (h1 : tokV σ 4 x = .int .i64 a := by rfl) (h2 : tokV σ 4 y = .int .i64 c := by rfl) : EntOK P σ ⟨.bin .leq t, [x, y], .bool true⟩ := ent_cmp (op := .leq) h1 h2 (decide_eq_true (by omega)).symm
theorem eleqF {t : TypeId} {x y : Value} (a c : Int) (h : ¬ (a ≤ c)) (h1 : tokV σ 4 x = .int .i64 a := by rfl) (h2 : tokV σ 4 y = .int .i64 c := by rfl) : EntOK P σ ⟨.bin .leq t, [x, y], .bool false⟩ := ent_cmp (op := .leq) h1 h2 (decide_eq_false (by omega)).symm
theorem egtrT {t : TypeId} {x y : Value} (a c : Int) (h : c < a) (h1 : tokV σ 4 x = .int .i64 a := by rfl) (h2 : tokV σ 4 y = .int .i64 c := by rfl) : EntOK P σ ⟨.bin .gtr t, [x, y], .bool true⟩ := ent_cmp (op := .gtr) h1 h2 (decide_eq_true (by omega)).symm
theorem egtrF {t : TypeId} {x y : Value} (a c : Int) (h : ¬ (c < a)) (h1 : tokV σ 4 x = .int .i64 a := by rfl) (h2 : tokV σ 4 y = .int .i64 c := by rfl) : EntOK P σ ⟨.bin .gtr t, [x, y], .bool false⟩ := ent_cmp (op := .gtr) h1 h2 (decide_eq_false (by omega)).symm
theorem egeqT {t : TypeId} {x y : Value} (a c : Int) (h : c ≤ a) (h1 : tokV σ 4 x = .int .i64 a := by rfl) (h2 : tokV σ 4 y = .int .i64 c := by rfl) : EntOK P σ ⟨.bin .geq t, [x, y], .bool true⟩ := ent_cmp (op := .geq) h1 h2 (decide_eq_true (by omega)).symm
theorem egeqF {t : TypeId} {x y : Value} (a c : Int) (h : ¬ (c ≤ a)) (h1 : tokV σ 4 x = .int .i64 a := by rfl) (h2 : tokV σ 4 y = .int .i64 c := by rfl) : EntOK P σ ⟨.bin .geq t, [x, y], .bool false⟩ := ent_cmp (op := .geq) h1 h2 (decide_eq_false (by omega)).symm
/-- A call whose answer is a number that is not looked into. -/
theorem FnOK.num {W0 : World} {H : Nat} {e : FnEnt} (hc : tokC 4 e.v = true) (h : ∀ w', Below H W0 w' → Calls P e.f (e.args.map (tokV σ 4)).toArray w' fun x w'' => x = .returned (tokV σ 4 e.v) ∧ Ext w' w'') : FnOK P σ W0 H e :=
  fun w' hw' => (h w' hw').mono fun x w'' hx => ⟨_, hx.1, fun A => tok_rv hc, hx.2⟩
end
section
variable {σ : Nat → Value}
theorem pg_fnW {W0 : World} {H : Nat} {x r : Value} {n : Int} {b : Nat} (h0 : 1 ≤ n) (h1 : n ≤ 1000) (hx : tokV σ 4 x = .int .i64 n) (hb : b = 2 ^ (min n.toNat 64) - 1) (hr : tokV σ 4 r = .int .u64 (b : Int)) (hc : tokC 4 r = true) : FnOK Tryz.prog σ W0 H ⟨106, [x], r⟩ :=
  FnOK.num hc fun w' _ => by
    show Calls Tryz.prog 106 (List.map (tokV σ 4) [x]).toArray w' _
    simp only [List.map_cons, List.map_nil, hx, hr, hb]
    exact pg_onesW n w' h0 h1
theorem pg_fnR {W0 : World} {H : Nat} {x r : Value} {n : Int} {b : Nat} (h0 : 1 ≤ n) (h1 : n ≤ 1000) (hx : tokV σ 4 x = .int .i64 n) (hb : b = 2 ^ (min n.toNat 64) - 1) (hr : tokV σ 4 r = .int .u64 (b : Int)) (hc : tokC 4 r = true) : FnOK Tryz.prog σ W0 H ⟨5, [x], r⟩ :=
  FnOK.num hc fun w' _ => by
    show Calls Tryz.prog 5 (List.map (tokV σ 4) [x]).toArray w' _
    simp only [List.map_cons, List.map_nil, hx, hr, hb]
    exact pg_onesR n w' h0 h1
theorem pg_fnB {W0 : World} {H : Nat} {x y : Value} {a n : Nat} {b : Bool} (ha : a < 18446744073709551616) (hn : n < 64) (hx : tokV σ 4 x = .int .u64 (a : Int)) (hy : tokV σ 4 y = .int .i64 (n : Int)) (hb : a.testBit n = b) : FnOK Tryz.prog σ W0 H ⟨12, [x, y], .bool b⟩ :=
  FnOK.mk (by cases b <;> rfl) fun w' _ => by
    show Calls Tryz.prog 12 (List.map (tokV σ 4) [x, y]).toArray w' _
    simp only [List.map_cons, List.map_nil, hx, hy, ← hb]
    exact pg_bit a n w' ha hn
theorem FnsOK.nil {P : Program} {W0 : World} {H : Nat} : ∀ e ∈ ([] : List FnEnt), FnOK P σ W0 H e := fun e he => by cases he
theorem FnsOK.cons {P : Program} {W0 : World} {H : Nat} {x : FnEnt} {l : List FnEnt} (h1 : FnOK P σ W0 H x) (h2 : ∀ e ∈ l, FnOK P σ W0 H e) : ∀ e ∈ x :: l, FnOK P σ W0 H e := fun e he => by
  rcases List.mem_cons.1 he with h | h
  · exact h ▸ h1
  · exact h2 e h
end
theorem pg_key {f : FuncId} {args args' : Array Value} {w : World} {R : Ending → World → Prop} (e : args = args') (h : Calls Tryz.prog f args w R) : Calls Tryz.prog f args' w R := e ▸ h
def vA : Value := .complex .f64 0 0
/-- The law's text, and what stands behind its first statements. -/
noncomputable def pgC : Nat → Code
  | 0 => bodyOf Tryz.prog 3
  | k + 1 => seqR (pgC k)
/-- A piece of its run. -/
def PgS (O : Orc) (t : Code) (l : List Value) (h : List Obj) (e : Ex) (l1 : List Value) (h1 : List Obj) : Prop :=
  ∀ (σ : Nat → Value), (∀ j, OneC (σ j)) → ∀ (W0 : World) (H : Nat), OrcOK Tryz.prog σ W0 H O → Seg1 Tryz.prog σ W0 H 0 #[] (.code t) (mkA l) (mkW h) e #[] (mkA l1) (mkW h1)
theorem pgS_ev {O : Orc} {t : Code} {l : List Value} {h : List Obj} {e : Ex} {l1 : List Value} {h1 : List Obj} (m : List Nat) (hs : cutSt1 0 #[] (ev Tryz.prog O 0 20000 [] (.code t) (mkA l) (mkW h)) e m [] l1 h1 = true) : PgS O t l h e l1 h1 :=
  fun σ hσ W0 H hO => seg1_ev (ys := []) hσ hO hs
def Pg0 : List Value := [kf 5, kf 6, kf 7, kf 8] ++ List.replicate 146 undef
theorem Pg0_eq : mkA Pg0 = { tmps := #[kf 5, kf 6, kf 7, kf 8] ++ Array.replicate (150 - 4) undef, defers := [] } := by
  have h : Pg0.toArray = #[kf 5, kf 6, kf 7, kf 8] ++ Array.replicate (150 - 4) undef := by
    apply Array.ext'
    simp only [Array.toList_append, Array.toList_replicate, Nat.reduceSub]
    unfold Pg0
    rfl
  exact congrArg (fun x => ({ tmps := x, defers := [] } : Act)) h
theorem pg_w0 : mkW [] = baseWorld 0 [] := by
  unfold mkW baseWorld
  simp
theorem pg_sp {σ : Nat → Value} {P L : Int} {m : Nat} (hm : 1 ≤ m ∧ m ≤ 2) (h0 : σ 0 = .int .i64 L) (hL : L = 82 + 6 * P + 2 * (m : Int)) (hP : 1 ≤ P ∧ P ≤ 1000) (h : ∀ j, j < 2 * m → ∃ x : Int, σ (1 + j) = .int .i64 x ∧ x = 82 + 6 * P + (j : Int)) : SpOK σ (2 * m) := by
  refine ⟨L, h0, by omega, by omega, by omega, fun j hj => ?_⟩
  obtain ⟨x, h1, h2⟩ := h j hj
  refine ⟨x.toNat, by rw [h1]; exact congrArg (Value.int .i64) (by omega), by omega, by omega, fun k hk e => ?_⟩
  obtain ⟨y, h3, h4⟩ := h k (by omega)
  rw [h3, h1] at e
  simp only [Value.int.injEq, true_and] at e
  omega
theorem pg_tmod0 {j : Int} (h0 : 0 ≤ j) (h1 : j < 64) : Int.tmod j 64 = j := by rw [Int.tmod_eq_emod_of_nonneg h0]; omega
theorem pg_tmod1 {j : Int} (h0 : 64 ≤ j) (h1 : j < 128) : Int.tmod j 64 = j - 64 := by rw [Int.tmod_eq_emod_of_nonneg (by omega)]; omega
/-- The words of an arena: the long row's block, and what stands at the places that are told apart. -/
def pgArena (w : World) (b : Nat) : Option (Nat × Nat) :=
  match w.cell? ⟨b, 2, none⟩ with
  | some (.pointer (some ⟨s, 0, none⟩)) => match w.cell? ⟨s, 0, none⟩ with
    | some (.complex .f32 c 0) => match w.heap[c]? with
      | some (.cells cs e _) => if cs.size == 77 && cs.toList.all isNumV then some (c, e) else none
      | _ => none
    | _ => none
  | _ => none
def rdG : FuncId → Array Value → World → Option Value := fun f args w =>
  if f == 13 then match args.toList with
    | [.pointer (some ⟨b, 0, none⟩), .float _ k] => match pgArena w b with
      | some (_, e) => if 1 ≤ k ∧ k ≤ spM e then some (if spD e (k - 1) = 0 then .int .u64 0 else .float .f64 (spD e (k - 1) - 1)) else none
      | none => none
    | _ => none
  else none
theorem cell_of {w : World} {b i : Nat} {cs : Array Value} {e : TypeId} {fz : Nat × Nat} (h : w.heap[b]? = some (.cells cs e fz)) : w.cell? ⟨b, i, none⟩ = cs[i]? := by
  unfold World.cell?
  simp [h]
theorem isNum_one {σ : Nat → Value} (hσ : ∀ j, OneC (σ j)) {A : Ren} {v v' : Value} (h : isNumV v = true) (hr : RV σ A v v') : OneC v' := by
  cases v <;> first | (cases h; done) | skip
  · cases hr; trivial
  · cases hr; exact hσ _
theorem rdG_ok {σ : Nat → Value} {W0 : World} {H : Nat} (hσ : ∀ j, OneC (σ j)) (hL : ∃ L : Int, σ 0 = .int .i64 L ∧ L ≤ 1000000) : RdOK Tryz.prog σ W0 H rdG := by
  intro f args args' v Γ A w w' h ha hw
  unfold rdG at h
  split at h
  case isFalse => cases h
  rename_i hf
  have hf := eq_of_beq hf
  subst hf
  split at h
  case h_2 => cases h
  rename_i b fk k hargs
  split at h
  case h_2 => cases h
  rename_i cW eW har
  split at h
  case isFalse => cases h
  rename_i hk
  cases h
  obtain ⟨hk1, hk2⟩ := hk
  unfold pgArena at har
  split at har
  case h_2 => cases har
  rename_i s hs
  split at har
  case h_2 => cases har
  rename_i c2 hc2
  split at har
  case h_2 => cases har
  rename_i cs e2 fz hb
  split at har
  case isFalse => cases har
  rename_i hchk
  injection har with har
  injection har with har1 har2
  subst har1 har2
  rw [Bool.and_eq_true, beq_iff_eq] at hchk
  obtain ⟨hsz, hnum⟩ := hchk
  have ea : args = #[.pointer (some ⟨b, 0, none⟩), .float fk k] := Array.ext' (by simpa using hargs)
  subst ea
  obtain ⟨u0, e0, r0⟩ := ha.get (i := 0) rfl
  obtain ⟨u1, e1, r1⟩ := ha.get (i := 1) rfl
  have ea' : args' = #[u0, u1] := by
    have hs2 : args'.size = 2 := ha.1.symm
    refine Array.ext (by rw [hs2]; rfl) fun i h1 h2 => ?_
    rcases (show i = 0 ∨ i = 1 by omega) with rfl | rfl
    · rw [Array.getElem?_eq_getElem h1] at e0; exact Option.some.inj e0
    · rw [Array.getElem?_eq_getElem h1] at e1; exact Option.some.inj e1
  subst ea'
  cases r0 with
  | ptr _ hd =>
  cases r1
  obtain ⟨v2, q1, q2⟩ := hw.cell hs
  cases q2 with
  | ptr _ hd2 =>
  obtain ⟨v3, p1, p2⟩ := hw.cell hc2
  cases p2 with
  | grow _ _ n r c h1 h2 => exfalso; omega
  | gptr _ _ n i r c h1 h2 h3 h4 => exfalso; omega
  | lptr _ _ j p h1 h2 h3 h4 => exfalso; omega
  | long _ c' L hd3 ht hs0 =>
  obtain ⟨hdb, cs1, e1', fz1, ⟨k1, k2⟩, L2, cs', e', fz', k3, k4, k5, k6, k7⟩ := hw.long _ ht
  rw [hb] at k1
  cases k1
  rw [hs0] at k3
  cases k3
  obtain ⟨L3, hL3, hL4⟩ := hL
  rw [hs0] at hL3
  cases hL3
  obtain ⟨p, m1, m2, m3, m4, m5⟩ := k7.spot (k - 1) (by omega)
  rw [show 1 + (k - 1) = k by omega] at m1
  have hcr : CR σ A cs cs' := by
    rcases hw.obj _ _ hb with ⟨c, e', he⟩ | ⟨cs0, e0, fz0, cs'', e'', fz'', he, hb', hcr, hfz⟩
    · cases he
    cases he
    rw [k5] at hb'
    cases hb'
    exact hcr
  have hcell : ∀ j, w'.cell? ⟨A.f c2, j, none⟩ = cs'[j]? := fun j => cell_of k5
  have hone : ∀ j, j < L.toNat → ∃ u, cs'[j]? = some u ∧ OneC u := by
    intro j hj
    rcases Nat.lt_or_ge j 77 with h7 | h7
    · have hj2 : j < cs.size := by omega
      obtain ⟨u, w1, w2⟩ := hcr.2 j _ (Array.getElem?_eq_getElem hj2)
      refine ⟨u, w1, isNum_one hσ ?_ w2⟩
      rw [List.all_eq_true] at hnum
      exact hnum _ (by simp)
    · rcases Classical.em (∃ j', j' < spM e2 ∧ σ (1 + j') = .int .i64 (j : Int)) with ⟨j', h1, h2⟩ | hno
      · obtain ⟨p2, z1, z2, z3, z4, z5⟩ := k7.spot j' h1
        rw [h2] at z1
        have : p2 = j := by
          simp only [Value.int.injEq, true_and] at z1
          omega
        subst this
        refine ⟨_, z4, ?_⟩
        unfold spV
        split
        · trivial
        · exact hσ _
      · exact ⟨_, k7.zero j h7 hj fun j' h1 h2 => hno ⟨j', h1, h2⟩, trivial⟩
  have hF : ∀ j, j < L.toNat → w'.cell? ⟨A.f c2, j, none⟩ = some (cs'.getD j (.bool true)) ∧ OneC (cs'.getD j (.bool true)) := by
    intro j hj
    obtain ⟨u, h1, h2⟩ := hone j hj
    rw [hcell, h1]
    have : cs'.getD j (.bool true) = u := by simp [Array.getD_eq_getD_getElem?, h1]
    rw [this]
    exact ⟨rfl, h2⟩
  have hp : cs'.getD p (.bool true) = spV σ (spD e2 (k - 1)) := by simp [Array.getD_eq_getD_getElem?, m4]
  have key := pg_read (ab := A.f b) (sb := A.f s) (wb := A.f c2) (L := L.toNat) (c := c') (at_ := p) (fun j => cs'.getD j (.bool true)) w' q1 p1 (fun j hj => (hF j hj).1) (fun j hj => (hF j hj).2) (by omega) m3
  rw [m1]
  refine key.mono ?_
  rintro x w'' ⟨rfl, hE⟩
  refine ⟨_, rfl, ?_, hE⟩
  simp only [hp]
  unfold spV
  split
  · exact .int _ _
  · exact .tok _ _
end Go.Proofs.YtfppinabdalblaaGreat
