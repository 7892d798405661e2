/- Same: printed walk. -/
import Derived.Test.YtclbncbolhmolaaC12
import Derived.Test.YtclbncbolhmolaaX9
namespace Go.X
open Go Go.Proofs
set_option linter.unusedVariables false
set_option linter.unusedSimpArgs false
attribute [local irreducible] rowP HP.obj HP.old
theorem two_Pair : two64 Try.prog 41 = true := by kernel_rfl

theorem c_Same {h : Heap} {v v2 : Value} {b p c b2 p2 c2 : Nat} {xs ys : List Pr} (hv : SlV v b p xs.length c) (hr : Rd ePr 2 h b p xs) (hv2 : SlV v2 b2 p2 ys.length c2) (hr2 : Rd ePr 2 h b2 p2 ys) (hl : xs.length ≤ 4194304) :
    FnT Try.prog 20 [v, v2] h (fun v h' => v = .bool (decide (xs = ys)) ∧ h = h') := by
  refine fn_enter Try.func20 rfl Try.ntmps20 rfl ?_
  refine cd_seq ?_
  refine cd_region ?_
  refine ol_y rfl rfl (y_assign rfl rfl) ?_
  refine ol_nil ?_
  refine thenX_n ?_
  refine cd_seq ?_
  refine cd_seq ?_
  refine cd_region ?_
  refine ol_y rfl rfl (y_move rfl rfl) ?_
  refine ol_y rfl rfl (y_lenV rfl Try.underlying30 rfl (by first | assumption | exact SlV.mk' _ _ _ _)) ?_
  refine ol_y rfl rfl (y_move rfl rfl) ?_
  refine ol_y rfl rfl (y_lenV rfl Try.underlying30 rfl (by first | assumption | exact SlV.mk' _ _ _ _)) ?_
  refine ol_y rfl rfl (y_neq rfl rfl rfl) ?_
  refine ol_nil ?_
  refine thenX_n ?_
  refine cd_cond _ rfl (fun hc0 => ?_) (fun hc0 => ?_)
  · (try replace hc0 := of_decide_eq_true hc0)
    refine cd_seq ?_
    refine cd_region ?_
    refine ol_y rfl rfl (y_assign rfl rfl) ?_
    refine ol_nil ?_
    refine thenX_n ?_
    refine cd_ret ?_
    refine thenX_r ?_
    refine ret1 Try.results20 rfl ?_
    exact ⟨vbool (by symm; rw [decide_eq_false_iff_not]; intro e; apply hc0; rw [e]), rfl⟩
  · (try replace hc0 := of_decide_eq_false hc0)
    have hll : xs.length = ys.length := by omega
    refine cd_skip ?_
    refine thenX_n ?_
    refine cd_seq ?_
    refine cd_seq ?_
    refine cd_region ?_
    refine ol_y rfl rfl (y_move rfl rfl) ?_
    refine ol_y rfl rfl (y_lenV rfl Try.underlying30 rfl (by first | assumption | exact SlV.mk' _ _ _ _)) ?_
    refine ol_y rfl rfl (y_move rfl rfl) ?_
    refine ol_nil ?_
    refine thenX_n ?_
    refine cd_block ?_
    refine cd_loop (γ := Nat) (fun k => [(0, v), (1, v2), (11, v), (12, .int .i64 xs.length), (13, .int .i64 k)]) (fun k h' => h = h' ∧ k ≤ xs.length ∧ ∀ j : Nat, j < k → gt xs (j : Int) = gt ys (j : Int)) (fun k => xs.length - k) (0) ?_ ?_ ?_
    · (repeat (first | exact trivial | refine ⟨rfl, ?_⟩))
    · exact ⟨rfl, by omega, fun j hj => by omega⟩
    · skip
      rintro k ρ h1 ⟨rfl, hk, hn⟩
      (try dsimp only)
      refine cd_seq ?_
      refine cd_region ?_
      refine ol_y rfl rfl (y_lss rfl rfl rfl) ?_
      refine ol_nil ?_
      refine thenX_n ?_
      refine cd_seq ?_
      refine cd_cond _ rfl (fun hc1 => ?_) (fun hc1 => ?_)
      · (try replace hc1 := of_decide_eq_true hc1)
        refine cd_skip ?_
        refine thenX_n ?_
        refine cd_seq ?_
        refine cd_block ?_
        refine cd_seq ?_
        refine cd_region ?_
        refine ol_y rfl rfl (y_move rfl rfl) ?_
        refine ol_y rfl rfl (y_assign rfl rfl) ?_
        refine ol_nil ?_
        refine thenX_n ?_
        refine cd_seq ?_
        refine cd_draw (none) (fun x => x = h) [(0, 0), (1, 0), (2, 0), (3, 1), (4, 0), (5, 0), (6, 0), (7, 1), (8, 0)] mixed (by kernel_rfl) (by kernel_rfl) (by kernel_rfl) ?_ ?_
        · exact rfl
        refine hs_p rfl rfl rfl (y_move rfl rfl) ?_
        refine hs_p rfl rfl rfl (y_move rfl rfl) ?_
        refine hs_p rfl rfl rfl (y_indexV rfl Try.underlying30 sz41 rfl (by first | assumption | exact SlV.mk' _ _ _ _) rfl (by omega) (by omega)) ?_
        refine hs_y rfl rfl rfl (y_load rfl rfl (fun _ e => ldeq e (ld_rowN agg41 ePr_ok (by assumption) (by omega) (by omega) rfl))) ?_
        refine hs_p rfl rfl rfl (y_move rfl rfl) ?_
        refine hs_p rfl rfl rfl (y_move rfl rfl) ?_
        refine hs_p rfl rfl rfl (y_indexV rfl Try.underlying30 sz41 rfl (by first | assumption | exact SlV.mk' _ _ _ _) rfl (by omega) (by omega)) ?_
        refine hs_y rfl rfl rfl (y_load rfl rfl (fun _ e => ldeq e (ld_rowN agg41 ePr_ok (by assumption) (by omega) (by omega) rfl))) ?_
        refine hs_p rfl rfl rfl (y_neq2 rfl two_Pair rfl rfl) ?_
        refine hs_nil ?_
        refine thenX_n ?_
        refine cd_cond _ rfl (fun hc2 => ?_) (fun hc2 => ?_)
        · (try replace hc2 := of_decide_eq_true hc2)
          refine cd_seq ?_
          refine cd_region ?_
          refine ol_y rfl rfl (y_assign rfl rfl) ?_
          refine ol_nil ?_
          refine thenX_n ?_
          refine cd_ret ?_
          refine blockX_r ?_
          refine thenX_r ?_
          refine thenX_r ?_
          refine blockX_r ?_
          refine thenX_r ?_
          refine ret1 Try.results20 rfl ?_
          refine ⟨vbool ?_, rfl⟩
          symm
          rw [decide_eq_false_iff_not]
          rintro rfl
          simp at hc2
        · (try replace hc2 := of_decide_eq_false hc2)
          refine cd_skip ?_
          refine blockX_n ?_
          refine thenX_n ?_
          refine cd_region ?_
          refine ol_y rfl rfl (y_addi rfl rfl rfl (in64 (by omega) (by omega))) ?_
          refine ol_y rfl rfl (y_move rfl rfl) ?_
          refine ol_nil ?_
          refine thenX_n ?_
          refine ⟨k + 1, ⟨rfl, rfl, rfl, rfl, vint (by simp), trivial⟩, ⟨rfl, by omega, fun j hj => ?_⟩, by omega⟩
          rcases Nat.lt_or_ge j k with hlt | hge
          · exact hn j hlt
          · obtain rfl : j = k := by omega
            have := hc2
            simp only [Bool.not_eq_false', Bool.and_eq_true, beq_iff_eq] at this
            exact Prod.ext this.1 this.2
      · (try replace hc1 := of_decide_eq_false hc1)
        refine cd_exit ?_
        refine thenX_e ?_
        refine thenX_e ?_
        refine blockX_hit ?_
        refine thenX_n ?_
        refine cd_seq ?_
        refine cd_region ?_
        refine ol_y rfl rfl (y_assign rfl rfl) ?_
        refine ol_nil ?_
        refine thenX_n ?_
        refine cd_ret ?_
        refine ret1 Try.results20 rfl ?_
        refine ⟨vbool ?_, rfl⟩
        symm
        rw [decide_eq_true_eq]
        apply List.ext_getElem hll
        intro i h1 h2
        have := hn i (by omega)
        simpa [gt, h1, h2] using this


end Go.X
