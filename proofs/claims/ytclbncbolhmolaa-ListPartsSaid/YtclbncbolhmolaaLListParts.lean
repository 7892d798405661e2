/- The statement ListPartsSaid: for every input the law answers true and leaves its input as it was. No condition. -/
import Derived.Test.YtclbncbolhmolaaRows
import Derived.Test.YtclbncbolhmolaaR0
import Derived.Test.YtclbncbolhmolaaC27
namespace Go.Proofs.Ytclbncbolhmolaa.listParts
open Go.ChangeShapes Go.WideShapes Go.ChangeAt Go.RowKit Go.X
set_option linter.unusedVariables false
theorem own : ownKnob Try.prog.godebug = none := by kernel_rfl
theorem laidOut : laidOutB Try.prog = true := by kernel_rfl
set_option maxRecDepth 100000 in
theorem lifted (os : Os) (started : os.Started) (H : Type) (enc : TypeId × Value → H) :
    ReturnsInHanded {} Try.checked os 8 .any (Rows.listPartsSpec.pre6 enc Try.prog Try.f8 Rows.listPartsRow.domain false) (Rows.listPartsSpec.post enc Try.prog Try.f8 false true false false) := by
  refine returnsInHanded_of_change_sized (C := Try.checked) own started (by kernel_rfl) Try.func8
    (ChangeSpec.witness6 (enc := enc) (C := Try.checked) false ⟨#[], #[.slice none 0 0, .agg #[.int .i64 0, .int .i64 0, .int .i64 0]], []⟩ 8 (by kernel_rfl) (by kernel_rfl) (by kernel_rfl) (by kernel_rfl)) ?_
  intro W base args ds gs before hval0 hW hcnd hsz0 _
  have hval : ∀ (j : Nat) t v, Try.f8.params[j]? = some t → args[j]? = some v → Value.okWide Try.prog W .any base t v := hval0
  have hW' := hW
  obtain ⟨p, q, hA0, hV, rfl, hfz, hnd⟩ := hW
  have hA : DataW.TrodAll enc Try.prog W 0 (fun _ => true) true Try.f8.params.toList args.toList ds p := hA0
  rw [Try.params8] at hA hval
  obtain ⟨v0, vs0, d0, ds0, p0, q0, hargs, rfl, rfl, h0, r0⟩ := trodAll_cons hA
  obtain ⟨v1, vs1, d1, ds1, p1, q1, rfl, rfl, rfl, h1, r1⟩ := trodAll_cons r0
  obtain ⟨rfl, rfl, rfl⟩ := trodAll_nil r1
  obtain rfl : args = #[v0, v1] := by cases args; simp_all
  obtain ⟨rfl, rfl⟩ := trodVars_none hV
  have k0 := h0
  have lt0 := trod_lt1 h0
  obtain ⟨b0, s0, c0, l0, hv0, hr0, hl0, hm0, hw0⟩ := open_sl Try.underlying22 Try.underlying3 (by kernel_rfl) (hval 0 22 v0 rfl rfl) h0
  have k1 := h1
  have lt1 := trod_lt1 h1
  obtain ⟨z1, e1, n1, w1⟩ := open_arrI Try.underlying55 Try.underlying3 (by kernel_rfl) (by kernel_rfl) (hval 1 55 v1 rfl rfl) h1
  obtain ⟨a1_0, a1_1, a1_2, rfl⟩ := len3 n1
  subst e1
  clear hA0 hval0 hsz0
  refine (calls_true (c_ListParts hv0 hr0)).mono fun e W' ⟨he, bel⟩ => ?_
  subst he
  exact ⟨_, rfl, _, _, _, [], _, [], hW', trodAll_mk1 (shut_bool Try.underlying4 _), (trodAll_cons_mk (Below.trod laidOut (by kernel_rfl) (of_decide_eq_true (by kernel_rfl)) k0 bel lt0) (trodAll_cons_mk (Below.trod laidOut (by kernel_rfl) (of_decide_eq_true (by kernel_rfl)) k1 bel lt1) trodAll_mk0)), rfl, bel.frame _, fun h => by cases h⟩
theorem over : Rows.listPartsRow.holds Try.pinned (OpenSpec.ofChange Rows.listPartsSpec) :=
  OpenClaim.holds_of_wide 8 Try.f8 rfl rfl rfl rfl rfl rfl rfl ⟨rfl, rfl, rfl, rfl, rfl⟩ rfl rfl rfl rfl rfl (by kernel_rfl) Try.func8 (by kernel_rfl)
    (of_decide_eq_true (by kernel_rfl)) (by unfold Func.isWrapper; first | (rw [if_pos (by decide +kernel)]; kernel_rfl) | (rw [if_neg (by decide +kernel)]; exact ⟨rfl, rfl⟩))
    (fun os started H enc _ => lifted os started H enc)
theorem proved : Rows.ListPartsSaid := over
#print axioms proved
end Go.Proofs.Ytclbncbolhmolaa.listParts
namespace Go.Proofs.Ytclbncbolhmolaa
/-- The row, under a short name, for the claim. -/
theorem listParts_holds : Rows.ListPartsSaid := listParts.proved
end Go.Proofs.Ytclbncbolhmolaa
