/- Layouts held against one another. -/
import Derived.Test.YtfppinabdalblaaGreatRefl16
import Derived.Test.YtfppinabdalblaaGreatProg
import Derived.Laws.StructEq
namespace Go.Proofs.YtfppinabdalblaaGreat
open Go.RowKit
set_option linter.unusedVariables false
set_option maxRecDepth 100000
theorem lay_fields : ∃ f0 f1 : Field, (Tryz.prog.fieldsOf 38).toList = [f0, f1] ∧ (f0.name == "_") = false ∧ (f1.name == "_") = false ∧ f0.offset = 0 ∧ f1.offset = 1 ∧ f0.type = 3 ∧ f1.type = 3 :=
  ⟨(Tryz.prog.fieldsOf 38).toList.getD 0 default, (Tryz.prog.fieldsOf 38).toList.getD 1 default, by kernel_rfl, by kernel_rfl, by kernel_rfl, by kernel_rfl, by kernel_rfl, by kernel_rfl, by kernel_rfl⟩
theorem lay_isAgg (w : World) : (isAgg 3).run Tryz.prog w = .ok false w := by
  simp [isAgg, run_underlying Tryz.underlying3, Sem.run_bind, Result.andThen]
theorem lay_part (xs : Array Value) (i : Nat) (v : Value) (h : xs[i]? = some v) (w : World) : (part 3 xs i).run Tryz.prog w = .ok v w := by
  unfold part
  rw [Sem.run_bind, lay_isAgg]
  simp [Result.andThen, h]
theorem lay_equal (a b c d : Int) (w : World) : (Op.equalIn 10000 38 (.agg #[.int .i64 a, .int .i64 b]) (.agg #[.int .i64 c, .int .i64 d])).run Tryz.prog w = .ok (a == c && b == d) w := by
  rw [run_equalIn_agg w 9999 38 _ _ (by kernel_rfl) (by kernel_rfl)]
  obtain ⟨f0, f1, h, n0, n1, o0, o1, t0, t1⟩ := lay_fields
  rw [h]
  have m0 : f0.name ≠ "_" := by simpa using n0
  have m1 : f1.name ≠ "_" := by simpa using n1
  have i0 : ∀ (x y : Int) (d : Nat), (Op.equalIn (d + 1) 3 (.int .i64 x) (.int .i64 y)).run Tryz.prog w = .ok (x == y) w := fun x y d => run_equalIn_int w d _ _ _ _ _ Tryz.underlying3
  have p0 : ∀ x y : Int, (part 3 #[.int .i64 x, .int .i64 y] 0).run Tryz.prog w = .ok (.int .i64 x) w := fun x y => lay_part _ 0 _ rfl w
  have p1 : ∀ x y : Int, (part 3 #[.int .i64 x, .int .i64 y] 1).run Tryz.prog w = .ok (.int .i64 y) w := fun x y => lay_part _ 1 _ rfl w
  simp only [Op.eqFields, m0, m1, ne_eq, not_false_eq_true, if_true, Sem.run_bind, o0, o1, t0, t1, p0, Result.andThen_ok]
  rw [show (9999 : Nat) = 9998 + 1 from rfl, i0]
  simp only [Result.andThen_ok]
  cases hac : (a == c)
  · simp
  · simp only [Bool.not_true, Bool.false_eq_true, if_false, Sem.run_bind, p1, Result.andThen_ok, i0]
    cases hbd : (b == d) <;> simp
theorem lay_eqlS {P T : Int} (h : ¬ (P = 3 ∧ T = 2)) {σ : Nat → Value} (e0 : σ 0 = .int .i64 P) (e1 : σ 1 = .int .i64 T) :
    AllOK Tryz.prog σ [⟨.bin .eql 38, [vG [kf 0, kf 1], vG [vI 3, vI 2]], .bool false⟩, ⟨.bin .neq 38, [vG [vI 3, vI 2], vG [kf 0, kf 1]], .bool true⟩] := by
  have x0 : tokV σ 4 (vG [kf 0, kf 1]) = .agg #[.int .i64 P, .int .i64 T] := by
    show Value.agg (List.map (tokV σ 3) [kf 0, kf 1]).toArray = _
    simp only [List.map_cons, List.map_nil]
    show Value.agg #[σ 0, σ 1] = _
    rw [e0, e1]
  have x1 : tokV σ 4 (vG [vI 3, vI 2]) = .agg #[.int .i64 3, .int .i64 2] := rfl
  have gt : Tryz.prog.eqGuardType Tryz.prog.depth 38 = false := by kernel_rfl
  refine .two ⟨.bool false, fun w => ?_, fun A => .bool false⟩ ⟨.bool true, fun w => ?_, fun A => .bool true⟩
  · simp only [List.map_cons, List.map_nil, semK, x0, x1]
    rw [Sem.run_bind, run_eqGuard_agg w _ _ _ _ _ _ gt]
    simp only [Result.andThen_ok]
    rw [run_eql_struct, lay_equal]
    have e : (P == 3 && T == 2) = false := by
      rw [Bool.eq_false_iff]
      intro hh
      rw [Bool.and_eq_true] at hh
      exact h ⟨by simpa using hh.1, by simpa using hh.2⟩
    rw [e]
    rfl
  · simp only [List.map_cons, List.map_nil, semK, x0, x1]
    rw [Sem.run_bind, run_eqGuard_agg w _ _ _ _ _ _ gt]
    simp only [Result.andThen_ok]
    rw [run_neq_struct, lay_equal]
    have e : (3 == P && 2 == T) = false := by
      rw [Bool.eq_false_iff]
      intro hh
      rw [Bool.and_eq_true] at hh
      have a1 : (3 : Int) = P := by simpa using hh.1
      have a2 : (2 : Int) = T := by simpa using hh.2
      exact h ⟨a1.symm, a2.symm⟩
    rw [e]
    rfl
theorem lay_eql {P T : Int} (h : ¬ (P = 3 ∧ T = 2)) {l : List (IntKind × Int)} (h0 : l[0]? = some (.i64, P)) (h1 : l[1]? = some (.i64, T)) :
    AllOK Tryz.prog (sgI l) [⟨.bin .eql 38, [vG [kf 0, kf 1], vG [vI 3, vI 2]], .bool false⟩, ⟨.bin .neq 38, [vG [vI 3, vI 2], vG [kf 0, kf 1]], .bool true⟩] :=
  lay_eqlS h (by unfold sgI; rw [h0]) (by unfold sgI; rw [h1])
theorem lay_same {σ : Nat → Value} {X : Value} {P T : Int} (hX : tokV σ 4 X = .agg #[.int .i64 P, .int .i64 T]) : EntOK Tryz.prog σ ⟨.bin .neq 38, [X, X], .bool false⟩ := by
  have gt : Tryz.prog.eqGuardType Tryz.prog.depth 38 = false := by kernel_rfl
  refine ⟨.bool false, fun w => ?_, fun A => .bool false⟩
  simp only [List.map_cons, List.map_nil, semK, hX]
  rw [Sem.run_bind, run_eqGuard_agg w _ _ _ _ _ _ gt]
  simp only [Result.andThen_ok]
  rw [run_neq_struct, lay_equal]
  simp
end Go.Proofs.YtfppinabdalblaaGreat
