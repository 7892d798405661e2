/- The statement BestFirstsSaid: for every input the law answers true and leaves its input as it was. No condition. -/
import Derived.Test.YtclbncbolhmolaaRows
import Derived.Test.YtclbncbolhmolaaR0
import Derived.Test.YtclbncbolhmolaaC19
namespace Go.Proofs.Ytclbncbolhmolaa.bestFirsts
open Go.ChangeShapes Go.WideShapes Go.ChangeAt Go.RowKit Go.X
set_option linter.unusedVariables false
theorem own : ownKnob Try.prog.godebug = none := by kernel_rfl
theorem laidOut : laidOutB Try.prog = true := by kernel_rfl
set_option maxRecDepth 100000 in
theorem lifted (os : Os) (started : os.Started) (H : Type) (enc : TypeId × Value → H) :
    ReturnsInHanded {} Try.checked os 6 .any (Rows.bestFirstsSpec.pre6 enc Try.prog Try.f6 Rows.bestFirstsRow.domain false) (Rows.bestFirstsSpec.post enc Try.prog Try.f6 false true false false) := by
  refine returnsInHanded_of_change_sized (C := Try.checked) own started (by kernel_rfl) Try.func6
    (ChangeSpec.witness6 (enc := enc) (C := Try.checked) false ⟨#[], #[.slice none 0 0, .agg #[.int .i64 0, .int .i64 0], .agg #[.int .u8 0, .int .u8 0]], []⟩ 8 (by kernel_rfl) (by kernel_rfl) (by kernel_rfl) (by kernel_rfl)) ?_
  intro W base args ds gs before hval0 hW hcnd hsz0 _
  have hval : ∀ (j : Nat) t v, Try.f6.params[j]? = some t → args[j]? = some v → Value.okWide Try.prog W .any base t v := hval0
  have hW' := hW
  obtain ⟨p, q, hA0, hV, rfl, hfz, hnd⟩ := hW
  have hA : DataW.TrodAll enc Try.prog W 0 (fun _ => true) true Try.f6.params.toList args.toList ds p := hA0
  rw [Try.params6] at hA hval
  obtain ⟨v0, vs0, d0, ds0, p0, q0, hargs, rfl, rfl, h0, r0⟩ := trodAll_cons hA
  obtain ⟨v1, vs1, d1, ds1, p1, q1, rfl, rfl, rfl, h1, r1⟩ := trodAll_cons r0
  obtain ⟨v2, vs2, d2, ds2, p2, q2, rfl, rfl, rfl, h2, r2⟩ := trodAll_cons r1
  obtain ⟨rfl, rfl, rfl⟩ := trodAll_nil r2
  obtain rfl : args = #[v0, v1, v2] := by cases args; simp_all
  obtain ⟨rfl, rfl⟩ := trodVars_none hV
  have k0 := h0
  have lt0 := trod_lt1 h0
  obtain ⟨b0, s0, c0, l0, hv0, hr0, hl0, hm0, hw0⟩ := open_sl Try.underlying22 Try.underlying3 (by kernel_rfl) (hval 0 22 v0 rfl rfl) h0
  have k1 := h1
  have lt1 := trod_lt1 h1
  obtain ⟨z1, e1, n1, w1⟩ := open_arrI Try.underlying23 Try.underlying3 (by kernel_rfl) (by kernel_rfl) (hval 1 23 v1 rfl rfl) h1
  obtain ⟨a1_0, a1_1, rfl⟩ := len2 n1
  subst e1
  have k2 := h2
  have lt2 := trod_lt1 h2
  obtain ⟨z2, e2, n2, w2⟩ := open_arrI Try.underlying48 Try.underlying5 (by kernel_rfl) (by kernel_rfl) (hval 2 48 v2 rfl rfl) h2
  obtain ⟨a2_0, a2_1, rfl⟩ := len2 n2
  subst e2
  clear hA0 hval0 hsz0
  refine (calls_true (c_BestFirsts hv0 hr0 (bounds_u8 (w2 _ (by simp))) (bounds_u8 (w2 _ (by simp))))).mono fun e W' ⟨he, bel⟩ => ?_
  subst he
  exact ⟨_, rfl, _, _, _, [], _, [], hW', trodAll_mk1 (shut_bool Try.underlying4 _), (trodAll_cons_mk (Below.trod laidOut (by kernel_rfl) (of_decide_eq_true (by kernel_rfl)) k0 bel lt0) (trodAll_cons_mk (Below.trod laidOut (by kernel_rfl) (of_decide_eq_true (by kernel_rfl)) k1 bel lt1) (trodAll_cons_mk (Below.trod laidOut (by kernel_rfl) (of_decide_eq_true (by kernel_rfl)) k2 bel lt2) trodAll_mk0))), rfl, bel.frame _, fun h => by cases h⟩
theorem over : Rows.bestFirstsRow.holds Try.pinned (OpenSpec.ofChange Rows.bestFirstsSpec) :=
  OpenClaim.holds_of_wide 6 Try.f6 rfl rfl rfl rfl rfl rfl rfl ⟨rfl, rfl, rfl, rfl, rfl⟩ rfl rfl rfl rfl rfl (by kernel_rfl) Try.func6 (by kernel_rfl)
    (of_decide_eq_true (by kernel_rfl)) (by unfold Func.isWrapper; first | (rw [if_pos (by decide +kernel)]; kernel_rfl) | (rw [if_neg (by decide +kernel)]; exact ⟨rfl, rfl⟩))
    (fun os started H enc _ => lifted os started H enc)
theorem proved : Rows.BestFirstsSaid := over
#print axioms proved
end Go.Proofs.Ytclbncbolhmolaa.bestFirsts
namespace Go.Proofs.Ytclbncbolhmolaa
/-- The row, under a short name, for the claim. -/
theorem bestFirsts_holds : Rows.BestFirstsSaid := bestFirsts.proved
end Go.Proofs.Ytclbncbolhmolaa
