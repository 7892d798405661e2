/- == of two numbers in a struct. -/
import Derived.Test.YtclbncbolhmolaaX8
set_option linter.unusedSimpArgs false
set_option linter.unusedVariables false
namespace Go.X
open Go

theorem run_program {P : Program} (w : World) : (program).run P w = .ok P w := by simp [program, Sem.run]
theorem run_eqInt {P : Program} {t : TypeId} {k : IntKind} {a b : Int} (ht : P.underlying t = some (.int k)) (d : Nat) (w : World) : (Op.equalIn (d + 1) t (.int k a) (.int k b)).run P w = .ok (a == b) w := by
  simp [Op.equalIn, run_underlying ht]
theorem run_eq2 {P : Program} {t : TypeId} {f0 f1 : Field} {k0 k1 : IntKind} (hu : P.underlying t = some (.struct #[f0, f1])) (hs : P.stoodInHeld t = false) (n0 : f0.name ≠ "_") (n1 : f1.name ≠ "_") (o0 : f0.offset = 0) (o1 : f1.offset = 1)
    (u0 : P.underlying f0.type = some (.int k0)) (u1 : P.underlying f1.type = some (.int k1)) (a b c e : Int) (d : Nat) (w : World) :
    (Op.equalIn (d + 2) t (.agg #[.int k0 a, .int k1 b]) (.agg #[.int k0 c, .int k1 e])).run P w = .ok (a == c && b == e) w := by
  have hp0 : ∀ (x y : Value) w, (part f0.type #[x, y] f0.offset).run P w = .ok x w := fun x y w => by
    rw [o0]; simp [part, isAgg, run_underlying u0]
  have hp1 : ∀ (x y : Value) w, (part f1.type #[x, y] f1.offset).run P w = .ok y w := fun x y w => by
    rw [o1]; simp [part, isAgg, run_underlying u1]
  simp only [Op.equalIn]
  simp [run_underlying hu, run_program, hs, n0, n1, hp0, hp1, Op.equalIn, run_underlying u0, run_underlying u1]
  by_cases h1 : a = c <;> by_cases h2 : b = e <;> simp [h1, h2]
/-- a struct of two numbers: what is asked of its type -/
def two64 (P : Program) (t : TypeId) : Bool :=
  match P.underlying t with
  | some (.struct fs) =>
    match fs.toList with
    | [f0, f1] => !P.stoodInHeld t && !P.eqGuardType P.depth t && f0.name != "_" && f1.name != "_" && f0.offset == 0 && f1.offset == 1 &&
        (match P.underlying f0.type, P.underlying f1.type with | some (.int .i64), some (.int .i64) => true | _, _ => false)
    | _ => false
  | _ => false
theorem two64_run {P : Program} {t : TypeId} (h : two64 P t = true) : P.eqGuardType P.depth t = false ∧ ∀ (a b c e : Int) (w : World), (Op.equal t (.agg #[.int .i64 a, .int .i64 b]) (.agg #[.int .i64 c, .int .i64 e])).run P w = .ok (a == c && b == e) w := by
  unfold two64 at h
  cases hu : P.underlying t with
  | none => rw [hu] at h; cases h
  | some d =>
    rw [hu] at h
    cases d <;> try (cases h; done)
    rename_i fs
    dsimp only at h
    cases hl : fs.toList with
    | nil => rw [hl] at h; cases h
    | cons f0 l =>
      cases l with
      | nil => rw [hl] at h; cases h
      | cons f1 l =>
        cases l with
        | cons _ _ => rw [hl] at h; cases h
        | nil =>
          rw [hl] at h
          simp only [Bool.and_eq_true, Bool.not_eq_true', bne_iff_ne, beq_iff_eq] at h
          obtain ⟨⟨⟨⟨⟨⟨h1, h2⟩, h3⟩, h4⟩, h5⟩, h6⟩, h7⟩ := h
          have hfs : fs = #[f0, f1] := by rw [← Array.toArray_toList (xs := fs), hl]
          subst hfs
          refine ⟨h2, fun a b c e w => ?_⟩
          cases g0 : P.underlying f0.type with
          | none => rw [g0] at h7; cases h7
          | some d0 =>
            cases g1 : P.underlying f1.type with
            | none => rw [g0, g1] at h7; cases d0 <;> first | (cases h7; done) | (rename_i k; cases k <;> cases h7)
            | some d1 =>
              rw [g0, g1] at h7
              have e0 : d0 = .int .i64 ∧ d1 = .int .i64 := by
                revert h7
                split
                · rename_i q1 q2; intro _; exact ⟨Option.some.inj q1, Option.some.inj q2⟩
                · intro h; cases h
              rw [e0.1] at g0
              rw [e0.2] at g1
              exact run_eq2 (d := 9998) hu h1 h3 h4 h5 h6 g0 g1 a b c e w
section
variable {P : Program} {o : Oper} {r : Rg} {h : Heap} {S : Heap → Prop} {x y : Operand}
theorem y_neq2 {t t' : TypeId} {a b c e : Int} (ho : o.op = .binOp .neq t x y t') (ht : two64 P t = true) (hx : ev r x = .agg #[.int .i64 a, .int .i64 b]) (hy : ev r y = .agg #[.int .i64 c, .int .i64 e]) : Yl P o r S (.bool (!(a == c && b == e))) :=
  ⟨fun w _ => by
    obtain ⟨h1, h2⟩ := two64_run ht
    simp [execOp, ho, hx, hy, eqGuard, run_program, h1, binOp, h2]⟩
theorem y_eql2 {t t' : TypeId} {a b c e : Int} (ho : o.op = .binOp .eql t x y t') (ht : two64 P t = true) (hx : ev r x = .agg #[.int .i64 a, .int .i64 b]) (hy : ev r y = .agg #[.int .i64 c, .int .i64 e]) : Yl P o r S (.bool (a == c && b == e)) :=
  ⟨fun w _ => by
    obtain ⟨h1, h2⟩ := two64_run ht
    simp [execOp, ho, hx, hy, eqGuard, run_program, h1, binOp, h2]⟩
end
end Go.X
